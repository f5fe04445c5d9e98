/- Joined texts: RpA, RpB, PoOp, RpC, RpD, RpE, RpF, RpG. -/
import Derived.Test.YtkedhdcnakhbgaaGreatK6
import Derived.Test.YtkedhdcnakhbgaaGreatK5
import Derived.Test.YtkedhdcnakhbgaaGreatK4
/- The reference's Check of pools. -/
set_option linter.unusedSimpArgs false
set_option maxRecDepth 100000
set_option maxHeartbeats 16000000
namespace Go.Proofs.YtkedhdcnakhbgaaGreat
open Go.RowKit Go.Shelf
set_option linter.unusedVariables false
variable {d:Int×Int}{xs:List Itm}{k m:Nat}{A1 A2 a:Qa}{T1 T2 ds:Qd}{W u:World}
theorem M7(a:Qa)(xs:List Itm)(c:Nat)(w:World)(hp:Its w.heap.size w a xs)(hn:(xs.length:Int)<=1000000)(hd:∀x∈xs,(x.data.length:Int)<=1000000):
  Qh 37 #[.slice a xs.length c] w fun e w'=>e=.returned (.int .i64 (mV xs))/\PM w w':=by
 obtain⟨R,hR⟩:=Qe (mV xs);rw[<-hR];have HF:=Qf hR;obtain⟨n,A1⟩:=Qe xs.length;rw[<-A1] at hn ⊢;have HN:=Qf A1;have HP:=Qf hp;have B8:=Qf hd;clear A1 hp hR hd;go_enter Tryz.func37,Tryz.ntmps37;go_wp2_with fail;go_loopw [3] (fun i wr=>∃k:Nat,k<=n/\i=.int .i64 k/\Qg (PM w wr)/\Qg (CR xs k)) (fun i _=>n-(intOf i).toNat)
 case atStart=>exact⟨0,by omega,rfl,Qf (bf _),Qf (CR.start xs)⟩
 case round=>
  obtain⟨k,hk,rfl,HB,HE⟩:=hrel;have C2:=HB.out.size;by_cases C1:k<n
  ·have h1:k<xs.length:=by rw[<-HN.o]; exact C1
   obtain⟨p0,o0,rfl,D4,q0,q1,q2⟩:=(HP.o.ahead HB.out) k h1;have Z:=B8.o _ (ak h1);have E:=Qf (HE.out.step h1);have A8:Qg (∀j (hj:j<xs.length),k=j+1->mG xs k=some xs[j].d):=Qf (fun j hj e=>by subst e; rw[mG,List.getElem?_eq_getElem hj]; rfl);generalize hit:xs[k]=it at q0 q1 q2 E Z;have A7:=Qf hit;clear hit;obtain⟨⟨i1,i2⟩,dt⟩:=it;simp only at q0 q1 q2 Z;have Q:=Qf (tO dt wr Z);have Y:=Qf (fun W=>Hu dt W (by omega));have C:Qg (vg ⟨(i1,i2),dt⟩=if(bI dt).2≠0 then 13 else if iY dt≠(i1,i2) then 15 else 0):=Qf rfl;generalize bI dt=D at Q C;generalize iY dt=dg at Y C;obtain⟨o,er⟩:=D;obtain⟨g1,g2⟩:=dg;obtain⟨kind,data,ents,⟨t1,t2⟩,pars,author,time,msg⟩:=o;simp only at Q Y C;generalize vg ⟨(i1,i2),dt⟩=ci at C E;have D1:(k:Int)<(n:Int):=by omega
   go_wp2_with fail
   refine Q.o.mono ?_;rintro e u ⟨ea,ec,pa,pc,rfl,_,hb⟩
   have A4:Qg (PM wr u):=Qf hb;clear hb Q;simp only[Ob.val];generalize ents.length=ne;generalize pars.length=np;obtain⟨u2,A3⟩:=Qe (u.alloc (.cells #[.int .i64 kind,.string ⟨data.toArray⟩,.slice ea ne ec,.int .u64 t1,.int .u64 t2,.slice pa np pc,.string ⟨author.toArray⟩,.int .i64 time,.string ⟨msg.toArray⟩] 59));have M:Qg (PM wr u2):=Qf (by rw[A3]; exact A4.o.alloc A4.o.size _);have L:Qg (PM w u2):=Qf (HB.out.trans (M.o.mono C2));have B3:w.heap.size<=u2.heap.size:=L.o.size;have S:=Qf A3;clear A3 q0 q1 q2;obtain⟨_,_,A2,_,q0,q1,q2⟩:=(HP.o.ahead L.o) k h1;cases A2;rw[A7.o] at q0 q1 q2;simp only at q0 q1 q2;by_cases he:er=0
   ·subst he
    have G:Qg (ci=if(g1,g2)≠(i1,i2) then 15 else 0):=Qf (by rw[C.o,if_neg (by simp)]);clear C;have f0:=cell_regrown q0;have f1:=cell_regrown q1;have f2:=cell_regrown q2;have hq:=fun W=>nI g1 g2 i1 i2 W
    have J:=Qf (fun d os=>Calls.regrown_of (w:=u2) (d:=d) (os:=os) (Y.o _));cases U:(g1==i1&&g2==i2) with
    | false=>
     rw[U] at hq;have N:Qg (R=15):=Qf (by
      have O:ci=15:=by
       rw[G.o,if_pos];intro h;simp only[Prod.mk.injEq] at h;simp[h.1,h.2] at U
      rw[HF.o,E.o,O,if_pos (by decide)])
     clear U G E HE;go_wp2_with fail;rw[<-S.o];refine wp_region_quiet_below (by kernel_rfl) (by kernel_rfl) ?_
     repeat (any_goals (first | go_big_quiet_step (first | (with_reducible exact J.o _ _)) | quiet_step (first | (with_reducible exact J.o _ _))))
     refine wpQuiet_nil ?_;intro w2 K;have B:=Qf (L.o.trans ((aX K).mono B3));clear K J f0 f1 f2;go_wp2_with fail;go_ret;exact⟨by rw[N.o]; rfl,B.o⟩
    | true=>
     rw[U] at hq;have I:Qg (mV xs=if vO (mG xs k) (i1,i2)=true then 10 else vR (mG xs (k+1)) (xs.drop (k+1))):=Qf (by
      have O:ci=0:=by
       rw[G.o,if_neg];simp only[Bool.and_eq_true,beq_iff_eq] at U;simp[U.1,U.2]
      rw[E.o,O,if_neg (by simp)])
     clear U G E HE;go_wp2_with fail;rw[<-S.o];refine wp_region_quiet_below (by kernel_rfl) (by kernel_rfl) ?_
     repeat (any_goals (first | go_big_quiet_step (first | (with_reducible exact J.o _ _)) | quiet_step (first | (with_reducible exact J.o _ _))))
     refine wpQuiet_nil ?_;intro w2 K;have C3:=Qf (M.o.trans ((aX K).mono M.o.size));have B:=Qf (L.o.trans ((aX K).mono B3));have B4:w.heap.size<=w2.heap.size:=B.o.size;clear K J f0 f1 f2 q0 q1 q2 S;obtain⟨_,_,A2,_,q0,q1,q2⟩:=(HP.o.ahead B.o) k h1;cases A2;rw[A7.o] at q0 q1 q2;simp only at q0 q1 q2;by_cases A0:k=0
     ·have g0:decide ((0:Int)<(k:Int))=false:=by simp; omega
      have g1:decide (0<k)=false:=by simp; omega
      have N:Qg (CR xs (k+1)):=Qf (by
       unfold CR;rw[I.o,if_neg];rw[A0]; simp[mG,vO])
      clear A0 I;go_wp2_with fail;go_quiet (fail);go_wp2_with fail;go_roundw
      case rel=>exact⟨k+1,by omega,by go_num,Qf (below_drewN B.o _),N⟩
      case measure=>simp[intOf] <;> omega
     ·have g0:decide ((0:Int)<(k:Int))=true:=by simp; omega
      have g1:decide (0<k)=true:=by simp; omega
      obtain⟨j,hj⟩:∃j,k=j+1:=⟨k-1,by omega⟩;have B1:j<xs.length:=by omega
      obtain⟨_,_,C0,_,j0,j1,_⟩:=(HP.o.ahead B.o) j B1;cases C0;have B2:(k:Int)-1=(j:Int):=by omega
      have D0:IntKind.i64.wrap ((k:Int)-1)=(j:Int):=by rw[B2]; exact wrap_i64 (by omega) (by omega)
      have C9:(j:Int)<(n:Int):=by omega
      have H:=Qf (A8.o j B1 hj);clear A8;generalize xs[j]=ij at j0 j1 H;obtain⟨⟨j1',j2'⟩,jd⟩:=ij;simp only at j0 j1 H;have X:=Qf (fun W=>FB j1' j2' i1 i2 W);have F:Qg (R=if 0<=eO (j1',j2') (i1,i2) then 10 else vR (mG xs (k+1)) (xs.drop (k+1))):=Qf (by
       rw[HF.o,I.o,H.o];have ha:=iZ (a:=(i1,i2)) (b:=(j1',j2'));by_cases T:0<=eO (j1',j2') (i1,i2)
       ·rw[if_pos T,if_pos]; simp[vO]; omega
       ·rw[if_neg T,if_neg]; simp[vO]; omega)
      generalize eO (j1',j2') (i1,i2)=cv at X F;have J:=Qf (fun d os=>Calls.regrown_of (w:=w2) (d:=d) (os:=os) (X.o _));have f0:=cell_regrown q0;have f1:=cell_regrown q1;have e0:=cell_regrown j0;have e1:=cell_regrown j1;clear I H X hj B2 A0;by_cases T:0<=cv
      ·have dc:decide (0<=cv)=true:=by simpa using T
       have N:Qg (R=10):=Qf (by rw[F.o,if_pos T]);clear F T;go_wp2_with fail;refine wp_region_quiet_below (by kernel_rfl) (by kernel_rfl) ?_
       repeat (any_goals (first | go_big_quiet_step (first | (with_reducible exact J.o _ _)) | quiet_step (first | (with_reducible exact J.o _ _))))
       refine wpQuiet_nil ?_;intro w3 P;have V:=Qf (B.o.trans ((aX P).mono B4));clear P J f0 f1 e0 e1;go_wp2_with fail;go_ret;exact⟨by rw[N.o]; rfl,V.o⟩
      ·have dc:decide (0<=cv)=false:=by simpa using T
       have N:Qg (CR xs (k+1)):=Qf (by unfold CR; rw[<-HF.o,F.o,if_neg T]);clear F T;go_wp2_with fail;refine wp_region_quiet_below (by kernel_rfl) (by kernel_rfl) ?_
       repeat (any_goals (first | go_big_quiet_step (first | (with_reducible exact J.o _ _)) | quiet_step (first | (with_reducible exact J.o _ _))))
       refine wpQuiet_nil ?_;intro w3 P;have V:=Qf (B.o.trans ((aX P).mono B4));clear P J f0 f1 e0 e1;go_wp2_with fail;go_roundw
       case rel=>exact⟨k+1,by omega,by go_num,V,N⟩
       case measure=>simp[intOf] <;> omega
   ·have D3:(er !=0)=true:=by simpa using he
    have N:Qg (R=13):=Qf (by
     have O:ci=13:=by rw[C.o,if_pos he]
     rw[HF.o,E.o,O,if_pos (by decide)])
    clear he E HE C;go_wp2_with fail;rw[<-S.o];go_ret;exact⟨by rw[N.o]; rfl,L.o⟩
  ·have N:Qg (R=0):=Qf (by rw[HF.o]; exact HE.out.fin (by rw[<-HN.o]; omega))
   go_wp2_with fail;go_ret;exact⟨by rw[N.o]; rfl,HB.out⟩
open Go.ChangeShapes Go.WideShapes Go.ChangeAt Go.RowKit Go.Deep Go.Shelf
theorem chkGo_zero:∀{xs:List Itm} {p:Option (Int×Int)},vR p xs=0->(∀x∈xs,vg x=0)/\Asc xs/\(∀q,p=some q->∀x∈xs,eO q x.d<0)
 | [],p,_=>⟨by simp,fun i j D=>by simp at D,by simp⟩
 | x::xs,p,h=>by
  rw[vR] at h;by_cases B:vg x=0
  ·rw[if_neg (by simpa using B)] at h
   obtain⟨F,G⟩:=uh h (by decide);obtain⟨i1,i2,i3⟩:=chkGo_zero G;have E:∀q,p=some q->eO q x.d<0:=fun q C=>by
    subst C;simp only[vO,decide_eq_true_eq] at F;have:=iZ (a:=x.d) (b:=q);omega
   refine⟨fun y A=>?_,?_,fun q C y A=>?_⟩
   ·rcases List.mem_cons.1 A with rfl | A
    ·exact B
    ·exact i1 y A
   ·intro i j D I H
    cases i with
    | zero=>
     cases j with
     | zero=>omega
     | succ j=>simp only[aS,bK]; exact i3 _ rfl _ (ak _)
    | succ i=>
     cases j with
     | zero=>omega
     | succ j=>simp only[bK]; exact i2 i j (by simp at D; omega) (by simp at I; omega) (by omega)
   ·rcases List.mem_cons.1 A with rfl | A
    ·exact E q C
    ·exact qA (E q C) (i3 _ rfl y A)
  ·rw[if_pos B] at h; exact absurd h B
theorem checkP_zero(h:mV xs=0):(∀x∈xs,vg x=0)/\Asc xs:=⟨(chkGo_zero h).1,(chkGo_zero h).2.1⟩
section
variable {H:Type} {enc:TypeId×Value->H} {W:World}
end
theorem NY:∀{xs ys:List Itm},Asc xs->Asc ys->(∀x,x∈xs↔x∈ys)->xs=ys:=by
 have key:∀{xs ys:List Itm} {x y:Itm},Asc (x::xs)->Asc (y::ys)->(∀z,z∈x::xs↔z∈y::ys)->x=y:=by
  intro xs ys x y D E A;have G:x∈y::ys:=(A x).1 (by simp);have L:y∈x::xs:=(A y).2 (by simp);rcases List.mem_cons.1 G with h | h
  ·exact h
  ·rcases List.mem_cons.1 L with F | F
   ·exact F.symm
   ·obtain⟨i,I,B⟩:=aV h
    obtain⟨j,K,H⟩:=aV F;have a1:=E 0 (i+1) (by simp) (by simp; omega) (by omega);have a2:=D 0 (j+1) (by simp) (by simp; omega) (by omega);simp only[aS,bK,B,H] at a1 a2;have:=iZ (a:=x.d) (b:=y.d);omega
 have tail:∀{xs:List Itm} {x:Itm},Asc (x::xs)->Asc xs/\x∉xs:=by
  intro xs x h;refine⟨fun i j I K J=>?_,fun G=>?_⟩
  ·have:=h (i+1) (j+1) (by simp; omega) (by simp; omega) (by omega)
   simpa using this
  ·obtain⟨i,I,B⟩:=aV G
   have:=h 0 (i+1) (by simp) (by simp; omega) (by omega);simp only[aS,bK,B,fO] at this;omega
 intro xs;induction xs with
 | nil=>
  intro ys _ _ A;cases ys with
  | nil=>rfl
  | cons y ys=>exact absurd ((A y).2 (by simp)) (by simp)
 | cons x xs ih=>
  intro ys D E A;cases ys with
  | nil=>exact absurd ((A x).1 (by simp)) (by simp)
  | cons y ys=>
   obtain rfl:=key D E A;obtain⟨t1,n1⟩:=tail D;obtain⟨t2,n2⟩:=tail E;rw[ih t1 t2];intro z;constructor
   ·intro C
    rcases List.mem_cons.1 ((A z).1 (pM _ C)) with h | h
    ·subst h; exact absurd C n1
    ·exact h
   ·intro C
    rcases List.mem_cons.1 ((A z).2 (pM _ C)) with h | h
    ·subst h; exact absurd C n2
    ·exact h
theorem MG(h:Asc xs)(d:Int×Int):At xs d (D5 xs d):=by
 suffices ∃k,At xs d k by
  obtain⟨k,B⟩:=this;rw[<-B.eq]; exact B
 induction xs with
 | nil=>exact⟨0,by simp,fun j A=>by simp at A,fun j A=>by simp at A⟩
 | cons x xs ih=>
  have F:Asc xs:=fun i j H A D=>by
   have:=h (i+1) (j+1) (by simp; omega) (by simp; omega) (by omega);simpa using this
  by_cases G:eO x.d d<0
  ·obtain⟨k,B⟩:=ih F
   refine⟨k+1,by have:=B.le; simp; omega,fun j A C=>?_,fun j A E=>?_⟩
   ·cases j with
    | zero=>simpa using G
    | succ j=>simpa using B.lo j (by simp at A; omega) (by omega)
   ·cases j with
    | zero=>omega
    | succ j=>simpa using B.hi j (by simp at A; omega) (by omega)
  ·refine⟨0,by omega,fun j A C=>by omega,fun j A _=>?_⟩
   cases j with
   | zero=>simp; omega
   | succ j=>
    have a1:=h 0 (j+1) (by simp) A (by omega);simp only[aS] at a1;exact ve a1 (by omega)
theorem IU{ys:List Itm}{x:Itm}(h:Asc xs)(C:Ag xs x=(ys,0)):Asc ys/\(∀y,y∈ys↔y∈xs\/y=x)/\ys.length<=xs.length+1:=by
 have B:=MG h x.d;cases F:qw xs x.d (D5 xs x.d) with
 | true=>
  obtain⟨R,I,O⟩:=Ei B F;rw[O] at C;split at C
  ·rename_i D
   simp only[Prod.mk.injEq,and_true] at C;subst C;refine⟨h,fun y=>⟨.inl,?_⟩,by omega⟩;rintro(T | rfl)
   ·exact T
   ·have:xs[D5 xs y.d]=y:=by
     cases N:xs[D5 xs y.d] with
     | mk d' dt'=>
      rw[N] at I D;cases y;simp only at I D ⊢;rw[I,D]
    rw[<-this]; exact ak R
  ·simp at C
 | false=>
  rw[Af B F] at C;simp only[Prod.mk.injEq,and_true] at C;subst C;generalize V:D5 xs x.d=k at B F;have S:=B.le;have J:∀j (G:j<xs.length),k<=j->0<eO xs[j].d x.d:=by
   intro j G L;have U:=B.hi j G L;rcases gB k j with M | P
   ·have A:=h k j (by omega) G M
    have H:=B.hi k (by omega) nr;have g1:=bF xs[k].d xs[j].d;have g2:=bF xs[k].d x.d;have g3:=bF xs[j].d x.d;omega
   ·obtain rfl:j=k:=by omega
    unfold qw at F;rw[List.getElem?_eq_getElem G] at F;simp only[decide_eq_false_iff_not] at F;have:eO xs[j].d x.d≠0:=fun e=>F (lv.1 e)
    omega
  refine⟨fun i j C G K=>?_,fun y=>?_,by simp; omega⟩
  ·have E:(xs.take k).length=k:=by rw[aA]; omega
   have get:∀i (C:i<(xs.take k++(x::xs.drop k)).length),(i<k/\∃h':i<xs.length,(xs.take k++(x::xs.drop k))[i]=xs[i])\/(i=k/\(xs.take k++(x::xs.drop k))[i]=x)\/(k<i/\∃h':i-1<xs.length,(xs.take k++(x::xs.drop k))[i]=xs[i-1]):=by
    intro i C;have Q:i<xs.length+1:=by simp at C; omega
    rcases Nat.lt_trichotomy i k with A | A | A
    ·left
     exact⟨A,by omega,by rw[sU (by omega),List.getElem_take]⟩
    ·right; left
     subst A;refine⟨rfl,?_⟩;rw[qK (by omega)];simp[E]
    ·right; right
     refine⟨A,by omega,?_⟩;rw[qK (by omega)];simp only[E];rw[List.getElem_cons];split
     ·omega
     ·rw[eF]
      congr 1;omega
   have anti:=fun a b=>@iZ a b
   rcases get i C with⟨a1,a2,a3⟩ | ⟨a1,a3⟩ | ⟨a1,a2,a3⟩ <;> rcases get j G with⟨b1,b2,b3⟩ | ⟨b1,b3⟩ | ⟨b1,b2,b3⟩ <;> rw[a3,b3]
   ·exact h i j a2 b2 K
   ·exact B.lo i a2 a1
   ·rcases gB i (j-1) with A | A
    ·exact h i (j-1) a2 b2 A
    ·omega
   ·omega
   ·omega
   ·have:=J (j-1) b2 (by omega)
    have:=anti xs[j-1].d x.d;omega
   ·omega
   ·omega
   ·exact h (i-1) (j-1) a2 b2 (by omega)
  ·simp only[aD,List.mem_cons]
   constructor
   ·rintro(A | A | A)
    ·exact .inl (dK A)
    ·exact .inr A
    ·exact .inl (List.mem_of_mem_drop A)
   ·rintro(A | A)
    ·rw[<-aQ k xs] at A
     rcases aD.1 A with H | H
     ·exact .inl H
     ·exact .inr (.inr H)
    ·exact .inr (.inl A)
def Ka(xs:List Itm)(d:Int×Int)(n:Int):Prop:=(∃k,∃h:k<xs.length,n=(k:Int)/\xs[k].d=d)\/(n=-1/\∀x∈xs,x.d≠d)
def GotFR(w:World)(xs:List Itm)(d:Int×Int)(e:Ending)(w':World):Prop:=∃n:Int,e=.returned (.int .i64 n)/\Ka xs d n/\PM w w'
theorem Ht(a:Qa)(xs:List Itm)(c:Nat)(x y:Int)(w:World)(N:Its w.heap.size w a xs)(R:(xs.length:Int)<=9223372036854775807):
  Qh 122 #[.slice a xs.length c,.agg #[.int .u64 x,.int .u64 y]] w (GotFR w xs (x,y)):=by
 obtain⟨n,C⟩:=Qe xs.length;rw[<-C] at R ⊢;have K:=Qf C;have P:=Qf N;clear C N;go_enter Tryz.func122,Tryz.ntmps122;go_wp2_with fail;go_loopw [5] (fun i wr=>∃k q:Nat,k<=n/\i=.int .i64 k/\wr=(w.alloc (.cells #[.int .u64 x,.int .u64 y] 54)).drewN q/\Qg (∀j (h:j<xs.length),j<k->xs[j].d≠(x,y))) (fun i _=>n-(intOf i).toNat)
 case atStart=>exact⟨0,0,by omega,rfl,rfl,Qf (fun j h H=>by omega)⟩
 case round=>
  obtain⟨k,q,S,rfl,rfl,G⟩:=hrel;by_cases I:k<n
  ·have L:k<xs.length:=by rw[<-K.o]; exact I
   obtain⟨b1,o1,rfl,Q,c1,c2,_⟩:=P.o k L;have c1':=fun z=>bP c1 z
   have c2':=fun z=>bP c2 z
   have E:Qg (xs[k].d=(x,y)->Ka xs (x,y) (k:Int)):=Qf (fun h=>.inl ⟨k,L,rfl,h⟩);have F:Qg (xs[k].d≠(x,y)->∀j (h:j<xs.length),j<k+1->xs[j].d≠(x,y)):=Qf (fun J j h H=>by
    rcases gB j k with M | M
    ·exact G.out j h M
    ·obtain rfl:j=k:=by omega
     exact J)
   generalize xs[k]=it at c1 c2 c1' c2' E F;obtain⟨⟨u,v⟩,dt⟩:=it;simp only at c1 c2 c1' c2' E F;have O:=fun W=>jD u v x y W
   cases B:(u==x&&v==y) with
   | true=>
    rw[B] at O;have D:=Qf (E.o (by
     simp only[Bool.and_eq_true,beq_iff_eq] at B;rw[B.1,B.2]))
    clear B E F G;go_wp2_with fail;go_quiet (fail);go_wp2_with fail;go_ret;exact⟨(k:Int),rfl,D.o,below_drewN (below_drewN (ba w _) _) _⟩
   | false=>
    rw[B] at O;have D:=Qf (F.o (by
     intro h;simp only[Prod.mk.injEq] at h;simp[h.1,h.2] at B))
    clear B E F G;go_wp2_with fail;go_quiet (fail);go_wp2_with fail;go_roundw
    case rel=>exact⟨k+1,_,by omega,by go_num,by first | rfl | (simp only[World.drewN_drewN]; rfl),D⟩
    case measure=>simp[intOf] <;> omega
  ·have D:Qg (Ka xs (x,y) (-1)):=Qf (.inr ⟨rfl,fun z B=>by
    obtain⟨j,H,rfl⟩:=aV B;exact G.out j H (by have:=K.o; omega)⟩)
   go_wp2_with fail;go_ret;exact⟨-1,rfl,D.o,below_drewN (ba w _) _⟩
theorem JV(h:Asc xs)(E:k<xs.length)(A:xs[k].d=d):At xs d k:=by
 refine⟨by omega,fun j B C=>?_,fun j B F=>?_⟩
 ·rw[<-A]; exact h j k B E C
 ·rcases gB k j with D | D
  ·have:=h k j E B D
   rw[A] at this;have:=iZ (a:=xs[j].d) (b:=d);omega
  ·obtain rfl:j=k:=by omega
   rw[A,fO];omega
theorem Ka.asc{n:Int}(h:Ka xs d n)(D:Asc xs):(∃k,∃B:k<xs.length,n=(k:Int)/\At xs d k/\qw xs d k=true/\xs[k].d=d)\/(n=-1/\∀k,qw xs d k=false):=by
 rcases h with⟨k,B,C,A⟩ | ⟨C,A⟩
 ·exact .inl ⟨k,B,C,JV D B A,by unfold qw; rw[List.getElem?_eq_getElem B]; simpa using A,A⟩
 ·refine .inr ⟨C,fun k=>?_⟩
  unfold qw;cases E:xs[k]? with
  | none=>rfl
  | some x=>simp only[decide_eq_false_iff_not]; exact A x (List.mem_of_getElem? E)
theorem rhas_any(a:Qa)(xs:List Itm)(c:Nat)(x y:Int)(w:World)(N:Its w.heap.size w a xs)(J:Asc xs)(M:(xs.length:Int)<=9223372036854775807):
  Qh 65 #[.slice a xs.length c,.agg #[.int .u64 x,.int .u64 y]] w fun e w'=>e=.returned (.bool (I7 xs (x,y)))/\PM w w':=by
 have E:=Qf (fun W (Q:PM w W)=>Ht a xs c x y W (N.ahead Q) M);obtain⟨R,D⟩:=Qe (I7 xs (x,y));rw[<-D];have I:Qg (∀n,Ka xs (x,y) n->(0<=n/\R=true)\/(n=-1/\R=false)):=Qf (fun n h=>by
  rcases h.asc J with⟨k,S,C,B,P,_⟩ | ⟨C,B⟩
  ·exact .inl ⟨by omega,by rw[D,I7,<-B.eq,P]⟩
  ·exact .inr ⟨C,by rw[D,I7,B]⟩)
 generalize xs.length=n at E ⊢;clear N J D M;have F:=Qf (E.o (w.alloc (.cells #[.int .u64 x,.int .u64 y] 54)) (ba w _));clear E;go_enter Tryz.func65,Tryz.ntmps65;go_wp2_with fail
 refine F.o.mono ?_;rintro e u ⟨m,rfl,L,K⟩
 have H:Qg (PM w u):=Qf ((ba w _).trans (K.mono (by simp)));have O:=Qf (I.o m L);clear L K I;rcases O.o with⟨C,B⟩ | ⟨C,B⟩
 ·have G:=Qf B
  have d0:decide (0<=m)=true:=by simpa using C
  clear B;go_wp2_with fail;go_ret;exact⟨by rw[G.o]; rfl,H.o⟩
 ·have G:=Qf B
  subst C;clear B;go_wp2_with fail;go_ret;exact⟨by rw[G.o]; rfl,H.o⟩
theorem KE(a:Qa)(xs:List Itm)(c:Nat)(x y:Int)(w:World)(hp:Its w.heap.size w a xs)(ha:Asc xs)(hn:(xs.length:Int)<=1000000)(hd:∀x∈xs,(x.data.length:Int)<=1000000):
  Qh 83 #[.slice a xs.length c,.agg #[.int .u64 x,.int .u64 y]] w (Kq w (dW xs (x,y)).1 (dW xs (x,y)).2):=by
 have HF:=Qf (fun W (hW:PM w W)=>Ht a xs c x y W (hp.ahead hW) (by omega));obtain⟨n,N⟩:=Qe xs.length;rw[<-N] at HF hn ⊢;have HN:=Qf N;have HP:=Qf hp;have HD:=Qf hd;have HA:=Qf ha;clear N hp hd ha;obtain⟨w0,E⟩:=Qe ((w.alloc (.cells #[.int .u64 x,.int .u64 y] 54)).alloc (.cells #[.int .i64 0,.string ⟨#[]⟩,.slice none 0 0,.int .u64 0,.int .u64 0,.slice none 0 0,.string ⟨#[]⟩,.int .i64 0,.string ⟨#[]⟩] 59));have Q:Qg (BK (w.heap.size+1) #[.int .i64 0,.string ⟨#[]⟩,.slice none 0 0,.int .u64 0,.int .u64 0,.slice none 0 0,.string ⟨#[]⟩,.int .i64 0,.string ⟨#[]⟩] 59 w0):=Qf (by rw[E]; exact BK.new2 _ _ _ _);have F:Qg (PM w w0):=Qf (by rw[E]; exact(ba w _).alloc (by simp) _);have L:=Qf (HF.o w0 F.o);rw[E] at L;have U:=Qf E;clear E HF;go_enter Tryz.func83,Tryz.ntmps83;go_wp2_with fail
 refine L.o.mono ?_;rintro e u ⟨m,rfl,hf,K⟩
 rw[<-U.o] at K;have G:=Qf (F.o.trans (K.mono F.o.size));have I:=Qf (Q.o.below K);have hu:=I.o.lt;have HH:=Qf (hf.asc HA.o);clear hf K L U F Q;rcases HH.o with⟨k,hk,hm,X,Y,A8⟩ | ⟨hm,Y⟩
 ·subst hm
  obtain⟨p0,o0,rfl,C5,q0,q1,q2⟩:=(HP.o.ahead G.o) k hk;have M:=HD.o _ (ak hk);obtain⟨_,_,hR⟩:=yz X Y;have C2:(k:Int)<(n:Int):=by have:=HN.o; omega
  clear X Y A8 HH;generalize xs[k]=it at q0 q1 q2 hR M;obtain⟨⟨y1,y2⟩,yd⟩:=it;simp only at q0 q1 q2 hR M;have H:=Qf (tO yd u M);have T:=Qf hR;clear hR;generalize bI yd=D at H T;obtain⟨o,er⟩:=D;simp only at H T;go_wp2_with fail
  refine H.o.mono ?_;rintro e v ⟨ea,ec,pa,pc,rfl,Z,K⟩
  have A4:=Qf Z;have O:=Qf (G.o.trans (K.mono G.o.size));have R:=Qf (I.o.below K);have hv:=R.o.lt;have C6:=K.size;clear Z K q0 q1 q2 H;obtain⟨kind,data,ents,⟨t1,t2⟩,pars,author,time,msg⟩:=o;have P:Qg (∀(W V:World),V=v.alloc (.cells (Ob.arr ⟨kind,data,ents,(t1,t2),pars,author,time,msg⟩ ea ec pa pc) 59)->V.grownBy W (some (w.heap.size+1))->PM w W->Kq w (dW xs (x,y)).1 (dW xs (x,y)).2 (.returned (.tuple #[.agg #[.int .i64 kind,.string ⟨data.toArray⟩,.slice ea ents.length ec,.int .u64 t1,.int .u64 t2,.slice pa pars.length pc,.string ⟨author.toArray⟩,.int .i64 time,.string ⟨msg.toArray⟩],.int .i64 er])) W):=Qf (fun W V hV h1 h2=>by
   rw[T.o];have hO:=A4.o.below (show PM v V by rw[hV]; exact ba _ _);exact⟨ea,ec,pa,pc,rfl,(hO.kept h1 (by omega)).le (by omega),h2⟩)
  obtain⟨v2,B⟩:=Qe (v.alloc (.cells (Ob.arr ⟨kind,data,ents,(t1,t2),pars,author,time,msg⟩ ea ec pa pc) 59));have C:=Qf (fun W h1 h2=>P.o W v2 B h1 h2);have S:Qg (BK (w.heap.size+1) #[.int .i64 0,.string ⟨#[]⟩,.slice none 0 0,.int .u64 0,.int .u64 0,.slice none 0 0,.string ⟨#[]⟩,.int .i64 0,.string ⟨#[]⟩] 59 v2):=Qf (by rw[B]; exact R.o.alloc _);have J:Qg (BK v.heap.size (Ob.arr ⟨kind,data,ents,(t1,t2),pars,author,time,msg⟩ ea ec pa pc) 59 v2):=Qf (by rw[B]; exact BK.new _ _ _);have A1:Qg (PM w v2):=Qf (by rw[B]; exact O.o.alloc O.o.size _);clear P;simp only[Ob.arr] at B J;simp only[Ob.val];generalize ents.length=ne at C B J ⊢;generalize pars.length=np at C B J ⊢;have A5:=Qf B;clear B;go_upto_region 5 with(fail)
  rw[<-A5.o];obtain⟨r0,r1,r2,r3,r4,r5,r6,r7,r8⟩:=BK.c9 S.o;obtain⟨fr0,fr1,fr2,fr3,fr4,fr5,fr6,fr7,fr8⟩:=BK.f9 (S.o);obtain⟨o0,o1,o2,o3,o4,o5,o6,o7,o8⟩:=BK.c9 J.o;have C4:v.heap.size≠w.heap.size+1:=by omega
  go_wp2_with fail;refine bodyPost_ret (v:=.tuple #[.agg #[.int .i64 kind,.string ⟨data.toArray⟩,.slice ea ne ec,.int .u64 t1,.int .u64 t2,.slice pa np pc,.string ⟨author.toArray⟩,.int .i64 time,.string ⟨msg.toArray⟩],.int .i64 er]) (by simp[results,Tryz.results83,go_sem,r0,r1,r2,r3,r4,r5,r6,r7,r8]) rfl ?_;refine C.o _ ?_ ?_
  ·exact(fM (fM (fM (fM (fM (fM (fM (fM (dN _ _ _ _) _ _) _ _) _ _) _ _) _ _) _ _) _ _) _ _)
  ·exact((((((((A1.o.setCell (by simp) _).setCell (by simp) _).setCell (by simp) _).setCell (by simp) _).setCell (by simp) _).setCell (by simp) _).setCell (by simp) _).setCell (by simp) _).setCell (by simp) _
 ·subst hm
  have T:=Qf (Ao (MG HA.o (x,y)) (Y _));clear Y HH;obtain⟨r0,r1,r2,r3,r4,r5,r6,r7,r8⟩:=BK.c9 I.o;obtain⟨fr0,fr1,fr2,fr3,fr4,fr5,fr6,fr7,fr8⟩:=BK.f9 (I.o);go_wp2_with fail;refine bodyPost_ret (v:=.tuple #[obZ.val none 0 none 0,.int .i64 8]) (by simp[results,Tryz.results83,go_sem,obZ,r0,r1,r2,r3,r4,r5,r6,r7,r8]) rfl ?_;rw[T.o];exact⟨none,0,none,0,rfl,dZ.zero _ _,((((((((G.o.setCell (by simp) _).setCell (by simp) _).setCell (by simp) _).setCell (by simp) _).setCell (by simp) _).setCell (by simp) _).setCell (by simp) _).setCell (by simp) _).setCell (by simp) _⟩
theorem Hr(a:Qa)(ds:Qd)(c:Nat)(x y:Int)(w:World)(E:dE w.heap.size w a ds)(Q:(ds.length:Int)<=9223372036854775807):
  Qh 78 #[.slice a ds.length c,.agg #[.int .u64 x,.int .u64 y]] w fun e w'=>e=.returned (.bool (decide ((x,y)∈ds)))/\PM w w':=by
 obtain⟨R,J⟩:=Qe (decide ((x,y)∈ds));rw[<-J];obtain⟨n,C⟩:=Qe ds.length;rw[<-C] at Q ⊢;have M:=Qf J;have L:=Qf C;have O:=Qf E;clear C J E;go_enter Tryz.func78,Tryz.ntmps78;go_wp2_with fail;go_loopw [5] (fun i wr=>∃k q:Nat,k<=n/\i=.int .i64 k/\wr=(w.alloc (.cells #[.int .u64 x,.int .u64 y] 54)).drewN q/\Qg ((x,y)∉ds.take k)) (fun i _=>n-(intOf i).toNat)
 case atStart=>exact⟨0,0,by omega,rfl,rfl,Qf (by simp)⟩
 case round=>
  obtain⟨k,q,S,rfl,rfl,H⟩:=hrel;by_cases K:k<n
  ·have I:k<ds.length:=by rw[<-L.o]; exact K
   obtain⟨b1,o1,rfl,P,c1,c2⟩:=O.o k I;have c1':=fun z=>bP c1 z
   have c2':=fun z=>bP c2 z
   have F:Qg (ds[k]=(x,y)->R=true):=Qf (fun h=>by rw[M.o]; exact decide_eq_true (by rw[<-h]; exact ak I));have G:=Qf (fun(h:ds[k]≠(x,y))=>kw I H.out h);generalize ds[k]=dk at c1 c2 c1' c2' F G;obtain⟨u,v⟩:=dk;simp only at c1 c2 c1' c2';have N:=fun W=>jD u v x y W
   cases B:(u==x&&v==y) with
   | true=>
    rw[B] at N;have D:=Qf (F.o (by
     simp only[Bool.and_eq_true,beq_iff_eq] at B;rw[B.1,B.2]))
    clear B F G H;go_wp2_with fail;go_quiet (fail);go_wp2_with fail;go_ret;exact⟨by rw[D.o]; rfl,below_drewN (below_drewN (ba w _) _) _⟩
   | false=>
    rw[B] at N;have D:=Qf (G.o (by
     intro h;simp only[Prod.mk.injEq] at h;simp[h.1,h.2] at B))
    clear B F G H;go_wp2_with fail;go_quiet (fail);go_wp2_with fail;go_roundw
    case rel=>exact⟨k+1,_,by omega,by go_num,by first | rfl | (simp only[World.drewN_drewN]; rfl),D⟩
    case measure=>simp[intOf] <;> omega
  ·have D:Qg (R=false):=Qf (by
    rw[M.o];refine decide_eq_false ?_;have:=H.out
    rwa[ag (by rw[<-L.o]; omega)] at this)
   go_wp2_with fail;go_ret;exact⟨by rw[D.o]; rfl,below_drewN (ba w _) _⟩
theorem pW{P:Program}{ops:Array Oper}{o:Oper}{a:Act}{K:Act->World->Prop}{Q:Exit->Act->World->Prop}{E:Prop}(w:World)(h:if Region.wanted o (yielded ops a.tmps)=true then Oper.wp P o a w K Q else E):
  if Region.wanted o (yielded ops a.tmps)=true then Oper.wp P o a w K Q else E:=h
theorem dE.ahead{W':World}(h:dE W.heap.size W a ds)(A:PM W W'):dE W'.heap.size W' a ds:=(h.below A nr).mono A.size
theorem EC{b:Nat}{x1 x2:Int}(A:BK b #[.int .u64 x1,.int .u64 x2] 54 W):dE W.heap.size W (some ⟨b,0,none⟩) [(x1,x2)]:=fun i B=>by
 obtain rfl:i=0:=by simp at B; omega
 exact⟨_,0,rfl,A.lt,by rw[dG,A.cell]; rfl,by rw[dG,A.cell]; rfl⟩
theorem insD1{c1 c2:Nat}(S:dE u.heap.size u A1 T1)(T:dE u.heap.size u A2 T2)(x1 x2:Int)(X:((T1.length+T2.length:Nat):Int)<=900000)(V:T1.length=k)(W:T2.length=m):
  ∃(v1:Value) (z1:World) (v2:Value) (z2:World) (a3:Qa) (c3:Nat) (z3:World),Qg ((Builtin.append_ #[24,24] 24 #[.slice (some ⟨u.heap.size,0,none⟩) 0 0,.slice A1 k c1]).run Tryz.prog ((u.alloc (.cells #[] 54)).drew)=.ok v1 z1)/\Qg ((Builtin.append_ #[24,24] 24 #[v1,.slice (some ⟨z1.heap.size,0,none⟩) 1 1]).run Tryz.prog (z1.alloc (.cells #[.int .u64 x1,.int .u64 x2] 54))=.ok v2 z2)/\
   Qg ((Builtin.append_ #[24,24] 24 #[v2,.slice A2 m c2]).run Tryz.prog (z2)=.ok (.slice a3 (T1++((x1,x2)::T2)).length c3) z3)/\PM u z1/\Qg (z3.ownsRow u.heap.size 54 2 (.slice a3 (T1++((x1,x2)::T2)).length c3) (T1++((x1,x2)::T2)).length (aW (T1++((x1,x2)::T2)))/\(T1++((x1,x2)::T2)).length<=c3/\PM u z3):=by
 have R:(u.alloc (.cells #[] 54)).drew.ownsRow u.heap.size 54 2 (.slice (some ⟨u.heap.size,0,none⟩) 0 0) 0 []:=(World.ownsRow_made (size:=2) u #[] 0 nr (by decide) rfl).drew;have G:PM u (u.alloc (.cells #[] 54)).drew:=(ba u _).drew;obtain⟨v1,z1,I,C,N,_⟩:=dM (u.alloc (.cells #[] 54)).drew u.heap.size 24 _ [] R A1 T1 c1 (dE.ahead S G) (by simp; omega) G.size;have E:PM u z1:=gM G R N nr;obtain⟨v2,z2,Q,D,O,_⟩:=gz C x1 x2 (by simp; omega) E.size;have F:=C.alloc (.cells #[.int .u64 x1,.int .u64 x2] 54);have K:PM u (z1.alloc (.cells #[.int .u64 x1,.int .u64 x2] 54)):=E.alloc E.size _;rw[V] at I;have H:PM u z2:=gM K F O nr;obtain⟨v3,z3,J,B,P,_⟩:=dM z2 u.heap.size 24 v2 _ D A2 T2 c2 (dE.ahead T H) (by simp; omega) H.size;have L:PM u z3:=gM H D P nr;have U:([]++T1++[(x1,x2)])++T2=(T1++((x1,x2)::T2)):=by simp
 rw[U] at B;obtain⟨a3,c3,rfl,M⟩:=aB B;rw[W] at J;exact⟨v1,z1,v2,z2,a3,c3,z3,Qf I,Qf Q,Qf J,E,Qf ⟨B,M,L⟩⟩
theorem insD2{c1 c2:Nat}(U:dE u.heap.size u A1 T1)(V:dE u.heap.size u A2 T2)(x1 x2:Int)(Z:((T1.length+T2.length:Nat):Int)<=900000)(X:T1.length=k)(Y:T2.length=m):
  ∃(v1:Value) (z1:World) (v2:Value) (z2:World) (a3:Qa) (c3:Nat) (z3:World),Qg ((Builtin.append_ #[24,24] 24 #[.slice (some ⟨u.heap.size,0,none⟩) 0 0,.slice A1 k c1]).run Tryz.prog (((u.alloc (.cells #[] 54)).alloc (.cells #[.int .u64 x1,.int .u64 x2] 54)).drew)=.ok v1 z1)/\Qg ((Builtin.append_ #[24,24] 24 #[v1,.slice (some ⟨(u.heap.size+1),0,none⟩) 1 1]).run Tryz.prog (z1)=.ok v2 z2)/\
   Qg ((Builtin.append_ #[24,24] 24 #[v2,.slice A2 m c2]).run Tryz.prog (z2)=.ok (.slice a3 (T1++((x1,x2)::T2)).length c3) z3)/\PM u z1/\Qg (z3.ownsRow u.heap.size 54 2 (.slice a3 (T1++((x1,x2)::T2)).length c3) (T1++((x1,x2)::T2)).length (aW (T1++((x1,x2)::T2)))/\(T1++((x1,x2)::T2)).length<=c3/\PM u z3):=by
 have T:(((u.alloc (.cells #[] 54)).alloc (.cells #[.int .u64 x1,.int .u64 x2] 54)).drew).ownsRow u.heap.size 54 2 (.slice (some ⟨u.heap.size,0,none⟩) 0 0) 0 []:=by
  exact((World.ownsRow_made (size:=2) u #[] 0 nr (by decide) rfl).alloc (.cells #[.int .u64 x1,.int .u64 x2] 54)).drew
 have F:PM u (((u.alloc (.cells #[] 54)).alloc (.cells #[.int .u64 x1,.int .u64 x2] 54)).drew):=((ba u _).alloc (by simp) _).drew;have Q:BK (u.heap.size+1) #[.int .u64 x1,.int .u64 x2] 54 (((u.alloc (.cells #[] 54)).alloc (.cells #[.int .u64 x1,.int .u64 x2] 54)).drew):=BK.new2 u (.cells #[] 54) #[.int .u64 x1,.int .u64 x2] 54;obtain⟨v1,z1,J,C,I,_⟩:=dM (((u.alloc (.cells #[] 54)).alloc (.cells #[.int .u64 x1,.int .u64 x2] 54)).drew) u.heap.size 24 _ [] T A1 T1 c1 (dE.ahead U F) (by simp; omega) F.size;have G:PM u z1:=gM F T I nr;have R:BK (u.heap.size+1) #[.int .u64 x1,.int .u64 x2] 54 z1:=Q.grow1 I (by simp);obtain⟨v2,z2,S,D,O,_⟩:=dM z1 u.heap.size 24 v1 _ C (some ⟨(u.heap.size+1),0,none⟩) [(x1,x2)] 1 (EC R) (by simp; omega) G.size;have E:=C;have L:=G;rw[X] at J;have H:PM u z2:=gM L E O nr;obtain⟨v3,z3,K,B,P,_⟩:=dM z2 u.heap.size 24 v2 _ D A2 T2 c2 (dE.ahead V H) (by simp; omega) H.size;have M:PM u z3:=gM H D P nr;have W:([]++T1++[(x1,x2)])++T2=(T1++((x1,x2)::T2)):=by simp
 rw[W] at B;obtain⟨a3,c3,rfl,N⟩:=aB B;rw[Y] at K;exact⟨v1,z1,v2,z2,a3,c3,z3,Qf J,Qf S,Qf K,G,Qf ⟨B,N,M⟩⟩
theorem insD3{c1 c2:Nat}(U:dE u.heap.size u A1 T1)(V:dE u.heap.size u A2 T2)(x1 x2:Int)(Z:((T1.length+T2.length:Nat):Int)<=900000)(X:T1.length=k)(Y:T2.length=m):
  ∃(v1:Value) (z1:World) (v2:Value) (z2:World) (a3:Qa) (c3:Nat) (z3:World),Qg ((Builtin.append_ #[24,24] 24 #[.slice (some ⟨(u.heap.size+1),0,none⟩) 0 0,.slice A1 k c1]).run Tryz.prog (((u.alloc (.cells #[.int .u64 x1,.int .u64 x2] 54)).alloc (.cells #[] 54)).drew)=.ok v1 z1)/\Qg ((Builtin.append_ #[24,24] 24 #[v1,.slice (some ⟨u.heap.size,0,none⟩) 1 1]).run Tryz.prog (z1)=.ok v2 z2)/\
   Qg ((Builtin.append_ #[24,24] 24 #[v2,.slice A2 m c2]).run Tryz.prog (z2)=.ok (.slice a3 (T1++((x1,x2)::T2)).length c3) z3)/\PM u z1/\Qg (z3.ownsRow u.heap.size 54 2 (.slice a3 (T1++((x1,x2)::T2)).length c3) (T1++((x1,x2)::T2)).length (aW (T1++((x1,x2)::T2)))/\(T1++((x1,x2)::T2)).length<=c3/\PM u z3):=by
 have T:(((u.alloc (.cells #[.int .u64 x1,.int .u64 x2] 54)).alloc (.cells #[] 54)).drew).ownsRow u.heap.size 54 2 (.slice (some ⟨(u.heap.size+1),0,none⟩) 0 0) 0 []:=by
  have:=(World.ownsRow_made (size:=2) (base:=u.heap.size) (e:=54) (u.alloc (.cells #[.int .u64 x1,.int .u64 x2] 54)) #[] 0 (by simp) (by decide) rfl).drew
  rwa[World.size_alloc] at this
 have F:PM u (((u.alloc (.cells #[.int .u64 x1,.int .u64 x2] 54)).alloc (.cells #[] 54)).drew):=((ba u _).alloc (by simp) _).drew;have Q:BK u.heap.size #[.int .u64 x1,.int .u64 x2] 54 (((u.alloc (.cells #[.int .u64 x1,.int .u64 x2] 54)).alloc (.cells #[] 54)).drew):=(BK.new u #[.int .u64 x1,.int .u64 x2] 54).alloc (.cells #[] 54);obtain⟨v1,z1,J,C,I,_⟩:=dM (((u.alloc (.cells #[.int .u64 x1,.int .u64 x2] 54)).alloc (.cells #[] 54)).drew) u.heap.size 24 _ [] T A1 T1 c1 (dE.ahead U F) (by simp; omega) F.size;have G:PM u z1:=gM F T I nr;have R:BK u.heap.size #[.int .u64 x1,.int .u64 x2] 54 z1:=Q.grow1 I (by simp);obtain⟨v2,z2,S,D,O,_⟩:=dM z1 u.heap.size 24 v1 _ C (some ⟨u.heap.size,0,none⟩) [(x1,x2)] 1 (EC R) (by simp; omega) G.size;have E:=C;have L:=G;rw[X] at J;have H:PM u z2:=gM L E O nr;obtain⟨v3,z3,K,B,P,_⟩:=dM z2 u.heap.size 24 v2 _ D A2 T2 c2 (dE.ahead V H) (by simp; omega) H.size;have M:PM u z3:=gM H D P nr;have W:([]++T1++[(x1,x2)])++T2=(T1++((x1,x2)::T2)):=by simp
 rw[W] at B;obtain⟨a3,c3,rfl,N⟩:=aB B;rw[Y] at K;exact⟨v1,z1,v2,z2,a3,c3,z3,Qf J,Qf S,Qf K,G,Qf ⟨B,N,M⟩⟩
theorem takeWhile_len{α:Type}{p:α->Bool}:∀{l:List α} {k:Nat},k<=l.length->(∀j (h:j<l.length),j<k->p l[j]=true)->(∀h:k<l.length,p l[k]=false)->(l.takeWhile p).length=k
 | [],k,A,_,_=>by simp at A; subst A; rfl
 | x::l,0,_,_,B=>by
  have:=B (by simp);simp only[aS] at this;rw[List.takeWhile_cons_of_neg (by simp[this])]; rfl
 | x::l,k+1,A,lo,B=>by
  have C:=lo 0 (by simp) (by omega);simp only[aS] at C;rw[List.takeWhile_cons_of_pos C,az,takeWhile_len (k:=k) (by simpa using A) (fun j E D=>by
   have:=lo (j+1) (by simp; omega) (by omega);simpa using this) (fun h=>by
   have:=B (by simp; omega);simpa using this)]
theorem dE.drop{B:Nat}(h:dE B W a ds)(k:Nat):dE B W (a.map (·.add (k*2))) (ds.drop k):=by
 intro i F;have A:k+i<ds.length:=by simp at F; omega
 obtain⟨b,off,rfl,C,D,E⟩:=h (k+i) A;refine⟨b,off+k*2,by simp[Go.WideShapes.add_plain],C,?_⟩;rw[eF];rw[show off+k*2+i*2=off+(k+i)*2 by omega];exact⟨D,E⟩
theorem dslice_lo(a:Qa)(n c f m:Nat)(h:f<=n)(E:n<=c)(C:m=n-f):∃(A1:Qa) (c1:Nat),(∀B W (ds:Qd),ds.length=n->dE B W a ds->dE B W A1 (ds.drop f))/\∀W,(Instr.slice 24 (.slice a n c) (some (.int .i64 f)) none none).run Tryz.prog W=.ok (.slice A1 m c1) W:=by
 refine⟨if c=f then a else a.map (·.add (f*2)),c-f,fun B W ps F D=>?_,fun W=>?_⟩
 ·split
  ·rw[dV (by omega)]; exact dE.nil _ _ _
  ·exact D.drop f
 ·rw[run_slice_l (P:=Tryz.prog) W 24 a n c (by kernel_rfl) .i64 f (by omega) (by omega),DJ]
  subst C;simp[sliced,Result.andThen]
def Mm(l:Qd)(d:Int×Int):Nat:=(l.takeWhile fun y=>decide (eO y d<0)).length
def mE(l:Qd)(d:Int×Int):Qd:=if l[Mm l d]? = some d then l else l.take (Mm l d)++(d::l.drop (Mm l d))
def GotW(w:World)(pa:Qa)(L:Qd)(e:Ending)(w':World):Prop:=∃a c,e=.returned (.slice a L.length c)/\dE w'.heap.size w' a L/\L.length<=c/\(a=pa\/∀ad,a=some ad->w.heap.size<=ad.block)/\PM w w'
theorem posD_of{l:Qd}(C:k<=l.length)(lo:∀j (h:j<l.length),j<k->eO l[j] d<0)(A:∀h:k<l.length,0<=eO l[k] d):Mm l d=k:=
 takeWhile_len C (fun j h B=>by simpa using lo j h B) (fun h=>by have:=A h; simp; omega)
theorem rwith_any(a:Qa)(xs:Qd)(c:Nat)(x1 x2:Int)(w:World)(hx:dE w.heap.size w a xs)(hc:xs.length<=c)(hn:(xs.length:Int)<=100000):
  Qh 123 #[.slice a xs.length c,.agg #[.int .u64 x1,.int .u64 x2]] w (GotW w a (mE xs (x1,x2))):=by
 obtain⟨n,C2⟩:=Qe xs.length;have S:=Qf C2;rw[<-C2] at hn hc ⊢;have X:=Qf hx;obtain⟨R,hR⟩:=Qe (mE xs (x1,x2));rw[<-hR];unfold mE at hR;have C9:=Qf hR;clear C2 hx hR;obtain⟨w0,A8⟩:=Qe (w.alloc (.cells #[.int .u64 x1,.int .u64 x2] 54));have C6:Qg (BK w.heap.size #[.int .u64 x1,.int .u64 x2] 54 w0):=Qf (by rw[A8]; exact BK.new _ _ _);have C4:Qg (PM w w0):=Qf (by rw[A8]; exact ba w _);have D0:=Qf A8;clear A8;go_enter Tryz.func123,Tryz.ntmps123;go_wp2_with fail;rw[<-D0.o];clear D0;go_loopw [5] (fun iv wr=>∃k:Nat,k<=n/\iv=.int .i64 k/\Qg (PM w wr)/\Qg (BK w.heap.size #[.int .u64 x1,.int .u64 x2] 54 wr)/\Qg (∀j (h:j<xs.length),j<k->eO xs[j] (x1,x2)<0)) (fun iv _=>n-(intOf iv).toNat)
 case atStart=>exact⟨0,by omega,rfl,C4,C6,Qf (fun j h hj=>by omega)⟩
 case round=>
  clear C4 C6;obtain⟨k,hk,rfl,HB,HK,V⟩:=hrel;have F2:=HK.out.lt;by_cases E0:k<n
  ·have h1:k<xs.length:=by rw[<-S.o]; exact E0
   obtain⟨b0,o0,A5,E7,q0,q1⟩:=(X.o.ahead HB.out) k h1;have D3:=Qf A5;subst A5;have K:=Qf (fun(h:0<=eO xs[k] (x1,x2))=>posD_of (d:=(x1,x2)) (by omega) V.out (fun _=>h));have J:Qg (eO xs[k] (x1,x2)<0->∀j (h:j<xs.length),j<k+1->eO xs[j] (x1,x2)<0):=Qf (fun hc j h hj=>by
    rcases gB j k with h2 | h2
    ·exact V.out j h h2
    ·obtain rfl:j=k:=by omega
     exact hc)
   have B8:Qg (xs[k]? = some xs[k]):=Qf (List.getElem?_eq_getElem h1);generalize hit:xs[k]=it at q0 q1 K J B8;have D4:=Qf hit;clear hit;obtain⟨y1,y2⟩:=it;simp only at q0 q1 K J;have B7:=Qf (fun W=>FB y1 y2 x1 x2 W);generalize eO (y1,y2) (x1,x2)=cv at B7 K J;have U:=Qf (fun d os=>Calls.regrown_of (w:=wr) (d:=d) (os:=os) (B7.o _));obtain⟨e0,e1⟩:=BK.c2 HK.out;have f0:=cell_regrown q0;have f1:=cell_regrown q1;have g0:=cell_regrown e0;have g1:=cell_regrown e1;have dk1:decide ((k:Int)<(n:Int))=true:=by simp; omega
   have dk2:decide (k<n)=true:=by simp; omega
   have E9:(k:Int)<(n:Int):=by omega
   clear B7;by_cases C1:cv<0
   ·have dc:decide (cv<0)=true:=by simpa using C1
    have C7:=Qf (J.o C1);clear V J K;go_wp2_with fail;refine wp_region_quiet_below (by kernel_rfl) (by kernel_rfl) ?_
    repeat (any_goals (first | go_big_quiet_step (first | (with_reducible exact U.o _ _)) | quiet_step (first | (with_reducible exact U.o _ _))))
    refine wpQuiet_nil ?_;intro w2 T;have E:=aX T;have B:=Qf (HB.out.trans (E.mono HB.out.size));have F:=Qf (HK.out.below E);clear T E U f0 f1 g0 g1;go_wp2_with fail;go_roundw
    case rel=>exact⟨k+1,by omega,by go_num,B,F,C7⟩
    case measure=>simp[intOf] <;> omega
   ·have dc:decide (cv<0)=false:=by simpa using C1
    have A7:Qg (R=if some (y1,y2)=some (x1,x2) then xs else xs.take k++((x1,x2)::xs.drop k)):=Qf (by rw[C9.o,K.o (by omega),B8.o]);clear V J K B8;go_wp2_with fail;refine wp_region_quiet_below (by kernel_rfl) (by kernel_rfl) ?_
    repeat (any_goals (first | go_big_quiet_step (first | (with_reducible exact U.o _ _)) | quiet_step (first | (with_reducible exact U.o _ _))))
    refine wpQuiet_nil ?_;intro w2 T;have E:=aX T;have B:=Qf (HB.out.trans (E.mono HB.out.size));have F:=Qf (HK.out.below E);clear T E U f0 f1 g0 g1 q0 q1 e0 e1;obtain⟨_,_,E1,_,q0,q1⟩:=(X.o.ahead B.o) k h1;cases E1;rw[D4.o] at q0 q1;simp only at q0 q1;obtain⟨e0,e1⟩:=BK.c2 F.o;have hq:=fun W=>jD y1 y2 x1 x2 W
    cases hz:(y1==x1&&y2==x2) with
    | true=>
     rw[hz] at hq;have HR:Qg (R=xs):=Qf (by
      simp only[Bool.and_eq_true,beq_iff_eq] at hz;rw[A7.o,if_pos (by rw[hz.1,hz.2])])
     clear hz A7;go_wp2_with fail;go_quiet (fail);go_wp2_with fail;go_ret;rw[HR.o];exact⟨_,c,by first | (rw[<-S.o]; done) | (rw[<-S.o]; rfl),X.o.ahead (below_drewN B.o _),by rw[<-S.o]; exact hc,.inl rfl,below_drewN B.o _⟩
    | false=>
     rw[hz] at hq;have HR:Qg (R=xs.take k++((x1,x2)::xs.drop k)):=Qf (by
      rw[A7.o,if_neg];intro h;simp only[Option.some.injEq,Prod.mk.injEq] at h;simp[h.1,h.2] at hz)
     clear hz A7;go_wp2_with fail;go_quiet (fail);have A3:=Qf (below_drewN B.o nq);have A4:=Qf (F.o.below (below_drewN (bf _) nq));clear B F e0 e1 q0 q1;generalize w2.drewN nq=w3 at A3 A4 ⊢;have B:=A3;have F:=A4;obtain⟨a,A5⟩:=Qe (some (⟨b0,o0,none⟩:Addr));rw[<-A5] at X ⊢;clear A5 D3;have HX:=X;obtain⟨A1,c1,O,E2⟩:=Js a n c k (by omega);obtain⟨m,hm⟩:=Qe (n-k);obtain⟨A2,c2,P,E3⟩:=dslice_lo a n c k m hk hc hm;have C:=(HX.out).ahead B.o;have G:(xs.take k).length=k:=by rw[aA]; have:=S.o; omega
     have H:(xs.drop k).length=m:=by rw[ah]; have:=S.o; omega
     have Q:(((xs.take k).length+(xs.drop k).length:Nat):Int)<=900000:=by rw[G,H]; omega
     obtain⟨zv1,z1,zv2,z2,za,zc,z3,B0,B1,Y,A6,L⟩:=insD1 (c1:=c1) (c2:=c2) (O _ _ _ C) (P _ _ _ S.o.symm C) x1 x2 Q G H;obtain⟨yv1,y1,yv2,y2,ya,yc,y3,B2,B3,Z,E,M⟩:=insD2 (c1:=c1) (c2:=c2) (O _ _ _ C) (P _ _ _ S.o.symm C) x1 x2 Q G H;obtain⟨tv1,t1,tv2,t2,ta,tc,t3,B4,B5,A0,C0,N⟩:=insD3 (c1:=c1) (c2:=c2) (O _ _ _ C) (P _ _ _ S.o.symm C) x1 x2 Q G H;have B9:=Qf (F.o.below A6);obtain⟨p0,p1⟩:=BK.c2 B9.o;obtain⟨e0,e1⟩:=BK.c2 F.o;have e0a:=fun o=>bP e0 o
     have e1a:=fun o=>bP e1 o
     obtain⟨len,I⟩:=Qe ((xs.take k++((x1,x2)::xs.drop k)).length);rw[<-I] at Y Z A0;have D:=Qf I;have D8:(k:Int)<=(c:Int):=by omega
     have D9:(k:Int)<=(n:Int):=by omega
     clear I G H Q C O P A6 E C0 hm;go_wp2_with fail;go_region_law
      (first
      | ((with_reducible refine pW ((w3.alloc (.cells #[] 54)).drew) ?_); refine bN (by rfl) (.tmp 35) (.tmp 38) _ _ (by rfl) _ _ (by rfl) (by rfl) _ _ B0.out ?_)
      | ((with_reducible refine pW (((w3.alloc (.cells #[] 54)).alloc (.cells #[.int .u64 x1,.int .u64 x2] 54)).drew) ?_); refine bN (by rfl) (.tmp 35) (.tmp 38) _ _ (by rfl) _ _ (by rfl) (by rfl) _ _ B2.out ?_)
      | ((with_reducible refine pW (((w3.alloc (.cells #[.int .u64 x1,.int .u64 x2] 54)).alloc (.cells #[] 54)).drew) ?_); refine bN (by rfl) (.tmp 35) (.tmp 38) _ _ (by rfl) _ _ (by rfl) (by rfl) _ _ B4.out ?_)
      | ((with_reducible refine pW (z1.alloc (.cells #[.int .u64 x1,.int .u64 x2] 54)) ?_); refine bN (by rfl) (.tmp 39) (.tmp 41) _ _ (by rfl) _ _ (by rfl) (by rfl) _ _ B1.out ?_)
      | ((with_reducible refine pW y1 ?_); refine bN (by rfl) (.tmp 39) (.tmp 41) _ _ (by rfl) _ _ (by rfl) (by rfl) _ _ B3.out ?_)
      | ((with_reducible refine pW t1 ?_); refine bN (by rfl) (.tmp 39) (.tmp 41) _ _ (by rfl) _ _ (by rfl) (by rfl) _ _ B5.out ?_)
      | fail)
     all_goals
      go_wp2_with (at_builtin; first | (refine Lib.wpList_append_run _ rfl _ _ _ _ rfl _ _ rfl rfl _ _ Y.out ?_) | (refine Lib.wpList_append_run _ rfl _ _ _ _ rfl _ _ rfl rfl _ _ Z.out ?_) | (refine Lib.wpList_append_run _ rfl _ _ _ _ rfl _ _ rfl rfl _ _ A0.out ?_));go_ret;rw[HR.o]
      first
      | exact⟨za,zc,by first | (rw[D.o]; done) | (rw[D.o]; rfl),iy L.out.1,L.out.2.1,.inr (fun ad h=>aC B.o.size (Nf L.out.1 ad h)),B.o.trans (L.out.2.2.mono B.o.size)⟩
      | exact⟨ya,yc,by first | (rw[D.o]; done) | (rw[D.o]; rfl),iy M.out.1,M.out.2.1,.inr (fun ad h=>aC B.o.size (Nf M.out.1 ad h)),B.o.trans (M.out.2.2.mono B.o.size)⟩
      | exact⟨ta,tc,by first | (rw[D.o]; done) | (rw[D.o]; rfl),iy N.out.1,N.out.2.1,.inr (fun ad h=>aC B.o.size (Nf N.out.1 ad h)),B.o.trans (N.out.2.2.mono B.o.size)⟩
  ·obtain rfl:k=n:=by omega
   have HR:Qg (R=xs.take k++((x1,x2)::xs.drop k)):=Qf (by
    have hp:=posD_of (d:=(x1,x2)) (by rw[<-S.o]; exact hk) V.out (fun h=>by have:=S.o; omega);rw[C9.o,hp,if_neg];rw[List.getElem?_eq_none (by rw[<-S.o]; omega)];simp)
   have dk1:decide ((k:Int)<(k:Int))=false:=by simp
   clear V;go_wp2_with fail;refine wp_region_quiet_below (by kernel_rfl) (by kernel_rfl) ?_
   repeat (any_goals (first | go_big_quiet_step (fail) | quiet_step (fail)))
   refine wpQuiet_nil ?_;intro w2 T;have E:=aX T;have B:=Qf (HB.out.trans (E.mono HB.out.size));have F:=Qf (HK.out.below E);clear T E;go_wp2_with fail;go_quiet (fail);have A3:=Qf (below_drewN B.o nq);have A4:=Qf (F.o.below (below_drewN (bf _) nq));clear B F;generalize w2.drewN nq=w3 at A3 A4 ⊢;have B:=A3;have F:=A4;have HX:=X;obtain⟨A1,c1,O,E2⟩:=Js a k c k (by omega);obtain⟨m,hm⟩:=Qe (k-k);obtain⟨A2,c2,P,E3⟩:=dslice_lo a k c k m hk hc hm;have C:=(HX.out).ahead B.o;have G:(xs.take k).length=k:=by rw[aA]; have:=S.o; omega
   have H:(xs.drop k).length=m:=by rw[ah]; have:=S.o; omega
   have Q:(((xs.take k).length+(xs.drop k).length:Nat):Int)<=900000:=by rw[G,H]; omega
   obtain⟨zv1,z1,zv2,z2,za,zc,z3,B0,B1,Y,A6,L⟩:=insD1 (c1:=c1) (c2:=c2) (O _ _ _ C) (P _ _ _ S.o.symm C) x1 x2 Q G H;obtain⟨yv1,y1,yv2,y2,ya,yc,y3,B2,B3,Z,E,M⟩:=insD2 (c1:=c1) (c2:=c2) (O _ _ _ C) (P _ _ _ S.o.symm C) x1 x2 Q G H;obtain⟨tv1,t1,tv2,t2,ta,tc,t3,B4,B5,A0,C0,N⟩:=insD3 (c1:=c1) (c2:=c2) (O _ _ _ C) (P _ _ _ S.o.symm C) x1 x2 Q G H;have B9:=Qf (F.o.below A6);obtain⟨p0,p1⟩:=BK.c2 B9.o;obtain⟨e0,e1⟩:=BK.c2 F.o;have e0a:=fun o=>bP e0 o
   have e1a:=fun o=>bP e1 o
   obtain⟨len,I⟩:=Qe ((xs.take k++((x1,x2)::xs.drop k)).length);rw[<-I] at Y Z A0;have D:=Qf I;have D8:(k:Int)<=(c:Int):=by omega
   have D9:(k:Int)<=(k:Int):=by omega
   clear I G H Q C O P A6 E C0 hm;go_wp2_with fail;go_region_law
    (first
    | ((with_reducible refine pW ((w3.alloc (.cells #[] 54)).drew) ?_); refine bN (by rfl) (.tmp 35) (.tmp 38) _ _ (by rfl) _ _ (by rfl) (by rfl) _ _ B0.out ?_)
    | ((with_reducible refine pW (((w3.alloc (.cells #[] 54)).alloc (.cells #[.int .u64 x1,.int .u64 x2] 54)).drew) ?_); refine bN (by rfl) (.tmp 35) (.tmp 38) _ _ (by rfl) _ _ (by rfl) (by rfl) _ _ B2.out ?_)
    | ((with_reducible refine pW (((w3.alloc (.cells #[.int .u64 x1,.int .u64 x2] 54)).alloc (.cells #[] 54)).drew) ?_); refine bN (by rfl) (.tmp 35) (.tmp 38) _ _ (by rfl) _ _ (by rfl) (by rfl) _ _ B4.out ?_)
    | ((with_reducible refine pW (z1.alloc (.cells #[.int .u64 x1,.int .u64 x2] 54)) ?_); refine bN (by rfl) (.tmp 39) (.tmp 41) _ _ (by rfl) _ _ (by rfl) (by rfl) _ _ B1.out ?_)
    | ((with_reducible refine pW y1 ?_); refine bN (by rfl) (.tmp 39) (.tmp 41) _ _ (by rfl) _ _ (by rfl) (by rfl) _ _ B3.out ?_)
    | ((with_reducible refine pW t1 ?_); refine bN (by rfl) (.tmp 39) (.tmp 41) _ _ (by rfl) _ _ (by rfl) (by rfl) _ _ B5.out ?_)
    | fail)
   all_goals
    go_wp2_with (at_builtin; first | (refine Lib.wpList_append_run _ rfl _ _ _ _ rfl _ _ rfl rfl _ _ Y.out ?_) | (refine Lib.wpList_append_run _ rfl _ _ _ _ rfl _ _ rfl rfl _ _ Z.out ?_) | (refine Lib.wpList_append_run _ rfl _ _ _ _ rfl _ _ rfl rfl _ _ A0.out ?_));go_ret;rw[HR.o]
    first
    | exact⟨za,zc,by first | (rw[D.o]; done) | (rw[D.o]; rfl),iy L.out.1,L.out.2.1,.inr (fun ad h=>aC B.o.size (Nf L.out.1 ad h)),B.o.trans (L.out.2.2.mono B.o.size)⟩
    | exact⟨ya,yc,by first | (rw[D.o]; done) | (rw[D.o]; rfl),iy M.out.1,M.out.2.1,.inr (fun ad h=>aC B.o.size (Nf M.out.1 ad h)),B.o.trans (M.out.2.2.mono B.o.size)⟩
    | exact⟨ta,tc,by first | (rw[D.o]; done) | (rw[D.o]; rfl),iy N.out.1,N.out.2.1,.inr (fun ad h=>aC B.o.size (Nf N.out.1 ad h)),B.o.trans (N.out.2.2.mono B.o.size)⟩
