/- Joined texts: RpA, RpB, PoOp, RpC, RpD, RpE, RpF, RpG. -/
import Derived.Test.YtkedhdcnakhbgaaGreatK6
import Derived.Test.YtkedhdcnakhbgaaGreatK5
import Derived.Test.YtkedhdcnakhbgaaGreatK4
/- The reference's Check of pools. -/
set_option linter.unusedSimpArgs false
set_option maxRecDepth 100000
set_option maxHeartbeats 16000000
open Go.Lib (hid)
namespace Go.Proofs.YtkedhdcnakhbgaaGreat
open Go.RowKit Go.Shelf
set_option linter.unusedVariables false
variable {d:Int×Int}{xs:List Itm}{W:World}
theorem M7(a:Qa)(xs:List Itm)(c:Nat)(w:World)(hp:Its w.heap.size w a xs)(hn:(xs.length:Int)<=1000000)(hd:∀x∈xs,(x.data.length:Int)<=1000000):
  Calls Tryz.prog 37 #[.slice a xs.length c] w fun e w'=>e=.returned (.int .i64 (mV xs))/\PM w w':=by
 obtain⟨R,hR⟩:=Qe (mV xs);rw[<-hR];have HF:=hid hR;obtain⟨n,A1⟩:=Qe xs.length;rw[<-A1] at hn ⊢;have HN:=hid A1;have HP:=hid hp;have B8:=hid hd;clear A1 hp hR hd;go_enter Tryz.func37,Tryz.ntmps37;go_wp2_with fail;go_loopw [3] (fun i wr=>∃k:Nat,k<=n/\i=.int .i64 k/\Hid (PM w wr)/\Hid (CR xs k)) (fun i _=>n-(intOf i).toNat)
 case atStart=>exact⟨0,by omega,rfl,hid (bf _),hid (CR.start xs)⟩
 case round=>
  obtain⟨k,hk,rfl,HB,HE⟩:=hrel;have C2:=HB.out.size;by_cases C1:k<n
  ·have h1:k<xs.length:=by rw[<-HN.out]; exact C1
   obtain⟨p0,o0,rfl,D4,q0,q1,q2⟩:=(HP.out.ahead HB.out) k h1;have Z:=B8.out _ (ak h1);have E:=hid (HE.out.step h1);have A8:Hid (∀j (hj:j<xs.length),k=j+1->mG xs k=some xs[j].d):=hid (fun j hj e=>by subst e; rw[mG,List.getElem?_eq_getElem hj]; rfl);generalize hit:xs[k]=it at q0 q1 q2 E Z;have A7:=hid hit;clear hit;obtain⟨⟨i1,i2⟩,dt⟩:=it;simp only at q0 q1 q2 Z;have Q:=hid (tO dt wr Z);have Y:=hid (fun W=>Hu dt W (by omega));have C:Hid (vg ⟨(i1,i2),dt⟩=if(bI dt).2≠0 then 13 else if iY dt≠(i1,i2) then 15 else 0):=hid rfl;generalize bI dt=D at Q C;generalize iY dt=dg at Y C;obtain⟨o,er⟩:=D;obtain⟨g1,g2⟩:=dg;obtain⟨kind,data,ents,⟨t1,t2⟩,pars,author,time,msg⟩:=o;simp only at Q Y C;generalize vg ⟨(i1,i2),dt⟩=ci at C E;have D1:(k:Int)<(n:Int):=by omega
   go_wp2_with fail
   refine Q.out.mono ?_;rintro e u ⟨ea,ec,pa,pc,rfl,_,hb⟩
   have A4:Hid (PM wr u):=hid hb;clear hb Q;simp only[Ob.val];generalize ents.length=ne;generalize pars.length=np;obtain⟨u2,A3⟩:=Qe (u.alloc (.cells #[.int .i64 kind,.string ⟨data.toArray⟩,.slice ea ne ec,.int .u64 t1,.int .u64 t2,.slice pa np pc,.string ⟨author.toArray⟩,.int .i64 time,.string ⟨msg.toArray⟩] 59));have M:Hid (PM wr u2):=hid (by rw[A3]; exact A4.out.alloc A4.out.size _);have L:Hid (PM w u2):=hid (HB.out.trans (M.out.mono C2));have B3:w.heap.size<=u2.heap.size:=L.out.size;have S:=hid A3;clear A3 q0 q1 q2;obtain⟨_,_,A2,_,q0,q1,q2⟩:=(HP.out.ahead L.out) k h1;cases A2;rw[A7.out] at q0 q1 q2;simp only at q0 q1 q2;by_cases he:er=0
   ·subst he
    have G:Hid (ci=if(g1,g2)≠(i1,i2) then 15 else 0):=hid (by rw[C.out,if_neg (by simp)]);clear C;have f0:=cell_regrown q0;have f1:=cell_regrown q1;have f2:=cell_regrown q2;have hq:=fun W=>nI g1 g2 i1 i2 W
    have J:=hid (fun d os=>Calls.regrown_of (w:=u2) (d:=d) (os:=os) (Y.out _));cases U:(g1==i1&&g2==i2) with
    | false=>
     rw[U] at hq;have N:Hid (R=15):=hid (by
      have O:ci=15:=by
       rw[G.out,if_pos];intro h;simp only[Prod.mk.injEq] at h;simp[h.1,h.2] at U
      rw[HF.out,E.out,O,if_pos (by decide)])
     clear U G E HE;go_wp2_with fail;rw[<-S.out];refine wp_region_quiet_below (by kernel_rfl) (by kernel_rfl) ?_
     repeat (any_goals (first | go_big_quiet_step (first | (with_reducible exact J.out _ _)) | quiet_step (first | (with_reducible exact J.out _ _))))
     refine wpQuiet_nil ?_;intro w2 K;have B:=hid (L.out.trans ((aX K).mono B3));clear K J f0 f1 f2;go_wp2_with fail;go_ret;exact⟨by rw[N.out]; rfl,B.out⟩
    | true=>
     rw[U] at hq;have I:Hid (mV xs=if vO (mG xs k) (i1,i2)=true then 10 else vR (mG xs (k+1)) (xs.drop (k+1))):=hid (by
      have O:ci=0:=by
       rw[G.out,if_neg];simp only[Bool.and_eq_true,beq_iff_eq] at U;simp[U.1,U.2]
      rw[E.out,O,if_neg (by simp)])
     clear U G E HE;go_wp2_with fail;rw[<-S.out];refine wp_region_quiet_below (by kernel_rfl) (by kernel_rfl) ?_
     repeat (any_goals (first | go_big_quiet_step (first | (with_reducible exact J.out _ _)) | quiet_step (first | (with_reducible exact J.out _ _))))
     refine wpQuiet_nil ?_;intro w2 K;have C3:=hid (M.out.trans ((aX K).mono M.out.size));have B:=hid (L.out.trans ((aX K).mono B3));have B4:w.heap.size<=w2.heap.size:=B.out.size;clear K J f0 f1 f2 q0 q1 q2 S;obtain⟨_,_,A2,_,q0,q1,q2⟩:=(HP.out.ahead B.out) k h1;cases A2;rw[A7.out] at q0 q1 q2;simp only at q0 q1 q2;by_cases A0:k=0
     ·have g0:decide ((0:Int)<(k:Int))=false:=by simp; omega
      have g1:decide (0<k)=false:=by simp; omega
      have N:Hid (CR xs (k+1)):=hid (by
       unfold CR;rw[I.out,if_neg];rw[A0]; simp[mG,vO])
      clear A0 I;go_wp2_with fail;go_quiet (fail);go_wp2_with fail;go_roundw
      case rel=>exact⟨k+1,by omega,by go_num,hid (below_drewN B.out _),N⟩
      case measure=>simp[intOf] <;> omega
     ·have g0:decide ((0:Int)<(k:Int))=true:=by simp; omega
      have g1:decide (0<k)=true:=by simp; omega
      obtain⟨j,hj⟩:∃j,k=j+1:=⟨k-1,by omega⟩;have B1:j<xs.length:=by omega
      obtain⟨_,_,C0,_,j0,j1,_⟩:=(HP.out.ahead B.out) j B1;cases C0;have B2:(k:Int)-1=(j:Int):=by omega
      have D0:IntKind.i64.wrap ((k:Int)-1)=(j:Int):=by rw[B2]; exact wrap_i64 (by omega) (by omega)
      have C9:(j:Int)<(n:Int):=by omega
      have H:=hid (A8.out j B1 hj);clear A8;generalize xs[j]=ij at j0 j1 H;obtain⟨⟨j1',j2'⟩,jd⟩:=ij;simp only at j0 j1 H;have X:=hid (fun W=>FB j1' j2' i1 i2 W);have F:Hid (R=if 0<=eO (j1',j2') (i1,i2) then 10 else vR (mG xs (k+1)) (xs.drop (k+1))):=hid (by
       rw[HF.out,I.out,H.out];have ha:=iZ (a:=(i1,i2)) (b:=(j1',j2'));by_cases T:0<=eO (j1',j2') (i1,i2)
       ·rw[if_pos T,if_pos]; simp[vO]; omega
       ·rw[if_neg T,if_neg]; simp[vO]; omega)
      generalize eO (j1',j2') (i1,i2)=cv at X F;have J:=hid (fun d os=>Calls.regrown_of (w:=w2) (d:=d) (os:=os) (X.out _));have f0:=cell_regrown q0;have f1:=cell_regrown q1;have e0:=cell_regrown j0;have e1:=cell_regrown j1;clear I H X hj B2 A0;by_cases T:0<=cv
      ·have dc:decide (0<=cv)=true:=by simpa using T
       have N:Hid (R=10):=hid (by rw[F.out,if_pos T]);clear F T;go_wp2_with fail;refine wp_region_quiet_below (by kernel_rfl) (by kernel_rfl) ?_
       repeat (any_goals (first | go_big_quiet_step (first | (with_reducible exact J.out _ _)) | quiet_step (first | (with_reducible exact J.out _ _))))
       refine wpQuiet_nil ?_;intro w3 P;have V:=hid (B.out.trans ((aX P).mono B4));clear P J f0 f1 e0 e1;go_wp2_with fail;go_ret;exact⟨by rw[N.out]; rfl,V.out⟩
      ·have dc:decide (0<=cv)=false:=by simpa using T
       have N:Hid (CR xs (k+1)):=hid (by unfold CR; rw[<-HF.out,F.out,if_neg T]);clear F T;go_wp2_with fail;refine wp_region_quiet_below (by kernel_rfl) (by kernel_rfl) ?_
       repeat (any_goals (first | go_big_quiet_step (first | (with_reducible exact J.out _ _)) | quiet_step (first | (with_reducible exact J.out _ _))))
       refine wpQuiet_nil ?_;intro w3 P;have V:=hid (B.out.trans ((aX P).mono B4));clear P J f0 f1 e0 e1;go_wp2_with fail;go_roundw
       case rel=>exact⟨k+1,by omega,by go_num,V,N⟩
       case measure=>simp[intOf] <;> omega
   ·have D3:(er !=0)=true:=by simpa using he
    have N:Hid (R=13):=hid (by
     have O:ci=13:=by rw[C.out,if_pos he]
     rw[HF.out,E.out,O,if_pos (by decide)])
    clear he E HE C;go_wp2_with fail;rw[<-S.out];go_ret;exact⟨by rw[N.out]; rfl,L.out⟩
  ·have N:Hid (R=0):=hid (by rw[HF.out]; exact HE.out.fin (by rw[<-HN.out]; omega))
   go_wp2_with fail;go_ret;exact⟨by rw[N.out]; rfl,HB.out⟩
open Go.ChangeShapes Go.WideShapes Go.ChangeAt Go.RowKit Go.Deep Go.Shelf
theorem chkGo_zero:∀{xs:List Itm} {p:Option (Int×Int)},vR p xs=0->(∀x∈xs,vg x=0)/\Asc xs/\(∀q,p=some q->∀x∈xs,eO q x.d<0)
 | [],p,_=>⟨by simp,fun i j D=>by simp at D,by simp⟩
 | x::xs,p,h=>by
  rw[vR] at h;by_cases B:vg x=0
  ·rw[if_neg (by simpa using B)] at h
   obtain⟨F,G⟩:=uh h (by decide);obtain⟨i1,i2,i3⟩:=chkGo_zero G;have E:∀q,p=some q->eO q x.d<0:=fun q C=>by
    subst C;simp only[vO,decide_eq_true_eq] at F;have:=iZ (a:=x.d) (b:=q);omega
   refine⟨fun y A=>?_,?_,fun q C y A=>?_⟩
   ·rcases List.mem_cons.1 A with rfl | A
    ·exact B
    ·exact i1 y A
   ·intro i j D I H
    cases i with
    | zero=>
     cases j with
     | zero=>omega
     | succ j=>simp only[aS,bK]; exact i3 _ rfl _ (ak _)
    | succ i=>
     cases j with
     | zero=>omega
     | succ j=>simp only[bK]; exact i2 i j (by simp at D; omega) (by simp at I; omega) (by omega)
   ·rcases List.mem_cons.1 A with rfl | A
    ·exact E q C
    ·exact qA (E q C) (i3 _ rfl y A)
  ·rw[if_pos B] at h; exact absurd h B
theorem checkP_zero(h:mV xs=0):(∀x∈xs,vg x=0)/\Asc xs:=⟨(chkGo_zero h).1,(chkGo_zero h).2.1⟩
section
variable {H:Type} {enc:TypeId×Value->H} {W:World}
end
theorem NY:∀{xs ys:List Itm},Asc xs->Asc ys->(∀x,x∈xs↔x∈ys)->xs=ys:=by
 have key:∀{xs ys:List Itm} {x y:Itm},Asc (x::xs)->Asc (y::ys)->(∀z,z∈x::xs↔z∈y::ys)->x=y:=by
  intro xs ys x y D E A;have G:x∈y::ys:=(A x).1 (by simp);have L:y∈x::xs:=(A y).2 (by simp);rcases List.mem_cons.1 G with h | h
  ·exact h
  ·rcases List.mem_cons.1 L with F | F
   ·exact F.symm
   ·obtain⟨i,I,B⟩:=aV h
    obtain⟨j,K,H⟩:=aV F;have a1:=E 0 (i+1) (by simp) (by simp; omega) (by omega);have a2:=D 0 (j+1) (by simp) (by simp; omega) (by omega);simp only[aS,bK,B,H] at a1 a2;have:=iZ (a:=x.d) (b:=y.d);omega
 have tail:∀{xs:List Itm} {x:Itm},Asc (x::xs)->Asc xs/\x∉xs:=by
  intro xs x h;refine⟨fun i j I K J=>?_,fun G=>?_⟩
  ·have:=h (i+1) (j+1) (by simp; omega) (by simp; omega) (by omega)
   simpa using this
  ·obtain⟨i,I,B⟩:=aV G
   have:=h 0 (i+1) (by simp) (by simp; omega) (by omega);simp only[aS,bK,B,fO] at this;omega
 intro xs;induction xs with
 | nil=>
  intro ys _ _ A;cases ys with
  | nil=>rfl
  | cons y ys=>exact absurd ((A y).2 (by simp)) (by simp)
 | cons x xs ih=>
  intro ys D E A;cases ys with
  | nil=>exact absurd ((A x).1 (by simp)) (by simp)
  | cons y ys=>
   obtain rfl:=key D E A;obtain⟨t1,n1⟩:=tail D;obtain⟨t2,n2⟩:=tail E;rw[ih t1 t2];intro z;constructor
   ·intro C
    rcases List.mem_cons.1 ((A z).1 (pM _ C)) with h | h
    ·subst h; exact absurd C n1
    ·exact h
   ·intro C
    rcases List.mem_cons.1 ((A z).2 (pM _ C)) with h | h
    ·subst h; exact absurd C n2
    ·exact h
theorem MG(h:Asc xs)(d:Int×Int):At xs d (D5 xs d):=by
 suffices ∃k,At xs d k by
  obtain⟨k,B⟩:=this;rw[<-B.eq]; exact B
 induction xs with
 | nil=>exact⟨0,by simp,fun j A=>by simp at A,fun j A=>by simp at A⟩
 | cons x xs ih=>
  have F:Asc xs:=fun i j H A D=>by
   have:=h (i+1) (j+1) (by simp; omega) (by simp; omega) (by omega);simpa using this
  by_cases G:eO x.d d<0
  ·obtain⟨k,B⟩:=ih F
   refine⟨k+1,by have:=B.le; simp; omega,fun j A C=>?_,fun j A E=>?_⟩
   ·cases j with
    | zero=>simpa using G
    | succ j=>simpa using B.lo j (by simp at A; omega) (by omega)
   ·cases j with
    | zero=>omega
    | succ j=>simpa using B.hi j (by simp at A; omega) (by omega)
  ·refine⟨0,by omega,fun j A C=>by omega,fun j A _=>?_⟩
   cases j with
   | zero=>simp; omega
   | succ j=>
    have a1:=h 0 (j+1) (by simp) A (by omega);simp only[aS] at a1;exact ve a1 (by omega)
theorem IU{ys:List Itm}{x:Itm}(h:Asc xs)(C:Ag xs x=(ys,0)):Asc ys/\(∀y,y∈ys↔y∈xs\/y=x)/\ys.length<=xs.length+1:=by
 have B:=MG h x.d;cases F:qw xs x.d (D5 xs x.d) with
 | true=>
  obtain⟨R,I,O⟩:=Ei B F;rw[O] at C;split at C
  ·rename_i D
   simp only[Prod.mk.injEq,and_true] at C;subst C;refine⟨h,fun y=>⟨.inl,?_⟩,by omega⟩;rintro(T | rfl)
   ·exact T
   ·have:xs[D5 xs y.d]=y:=by
     cases N:xs[D5 xs y.d] with
     | mk d' dt'=>
      rw[N] at I D;cases y;simp only at I D ⊢;rw[I,D]
    rw[<-this]; exact ak R
  ·simp at C
 | false=>
  rw[Af B F] at C;simp only[Prod.mk.injEq,and_true] at C;subst C;generalize V:D5 xs x.d=k at B F;have S:=B.le;have J:∀j (G:j<xs.length),k<=j->0<eO xs[j].d x.d:=by
   intro j G L;have U:=B.hi j G L;rcases gB k j with M | P
   ·have A:=h k j (by omega) G M
    have H:=B.hi k (by omega) nr;have g1:=bF xs[k].d xs[j].d;have g2:=bF xs[k].d x.d;have g3:=bF xs[j].d x.d;omega
   ·obtain rfl:j=k:=by omega
    unfold qw at F;rw[List.getElem?_eq_getElem G] at F;simp only[decide_eq_false_iff_not] at F;have:eO xs[j].d x.d≠0:=fun e=>F (lv.1 e)
    omega
  refine⟨fun i j C G K=>?_,fun y=>?_,by simp; omega⟩
  ·have E:(xs.take k).length=k:=by rw[aA]; omega
   have get:∀i (C:i<(xs.take k++(x::xs.drop k)).length),(i<k/\∃h':i<xs.length,(xs.take k++(x::xs.drop k))[i]=xs[i])\/(i=k/\(xs.take k++(x::xs.drop k))[i]=x)\/(k<i/\∃h':i-1<xs.length,(xs.take k++(x::xs.drop k))[i]=xs[i-1]):=by
    intro i C;have Q:i<xs.length+1:=by simp at C; omega
    rcases Nat.lt_trichotomy i k with A | A | A
    ·left
     exact⟨A,by omega,by rw[sU (by omega),List.getElem_take]⟩
    ·right; left
     subst A;refine⟨rfl,?_⟩;rw[qK (by omega)];simp[E]
    ·right; right
     refine⟨A,by omega,?_⟩;rw[qK (by omega)];simp only[E];rw[List.getElem_cons];split
     ·omega
     ·rw[eF]
      congr 1;omega
   have anti:=fun a b=>@iZ a b
   rcases get i C with⟨a1,a2,a3⟩ | ⟨a1,a3⟩ | ⟨a1,a2,a3⟩ <;> rcases get j G with⟨b1,b2,b3⟩ | ⟨b1,b3⟩ | ⟨b1,b2,b3⟩ <;> rw[a3,b3]
   ·exact h i j a2 b2 K
   ·exact B.lo i a2 a1
   ·rcases gB i (j-1) with A | A
    ·exact h i (j-1) a2 b2 A
    ·omega
   ·omega
   ·omega
   ·have:=J (j-1) b2 (by omega)
    have:=anti xs[j-1].d x.d;omega
   ·omega
   ·omega
   ·exact h (i-1) (j-1) a2 b2 (by omega)
  ·simp only[aD,List.mem_cons]
   constructor
   ·rintro(A | A | A)
    ·exact .inl (dK A)
    ·exact .inr A
    ·exact .inl (List.mem_of_mem_drop A)
   ·rintro(A | A)
    ·rw[<-aQ k xs] at A
     rcases aD.1 A with H | H
     ·exact .inl H
     ·exact .inr (.inr H)
    ·exact .inr (.inl A)
def Ka(xs:List Itm)(d:Int×Int)(n:Int):Prop:=(∃k,∃h:k<xs.length,n=(k:Int)/\xs[k].d=d)\/(n=-1/\∀x∈xs,x.d≠d)
def GotFR(w:World)(xs:List Itm)(d:Int×Int)(e:Ending)(w':World):Prop:=∃n:Int,e=.returned (.int .i64 n)/\Ka xs d n/\PM w w'
theorem Ht(a:Qa)(xs:List Itm)(c:Nat)(x y:Int)(w:World)(N:Its w.heap.size w a xs)(R:(xs.length:Int)<=9223372036854775807):
  Calls Tryz.prog 122 #[.slice a xs.length c,.agg #[.int .u64 x,.int .u64 y]] w (GotFR w xs (x,y)):=by
 obtain⟨n,C⟩:=Qe xs.length;rw[<-C] at R ⊢;have K:=hid C;have P:=hid N;clear C N;go_enter Tryz.func122,Tryz.ntmps122;go_wp2_with fail;go_loopw [5] (fun i wr=>∃k q:Nat,k<=n/\i=.int .i64 k/\wr=(w.alloc (.cells #[.int .u64 x,.int .u64 y] 54)).drewN q/\Hid (∀j (h:j<xs.length),j<k->xs[j].d≠(x,y))) (fun i _=>n-(intOf i).toNat)
 case atStart=>exact⟨0,0,by omega,rfl,rfl,hid (fun j h H=>by omega)⟩
 case round=>
  obtain⟨k,q,S,rfl,rfl,G⟩:=hrel;by_cases I:k<n
  ·have L:k<xs.length:=by rw[<-K.out]; exact I
   obtain⟨b1,o1,rfl,Q,c1,c2,_⟩:=P.out k L;have c1':=fun z=>bP c1 z
   have c2':=fun z=>bP c2 z
   have E:Hid (xs[k].d=(x,y)->Ka xs (x,y) (k:Int)):=hid (fun h=>.inl ⟨k,L,rfl,h⟩);have F:Hid (xs[k].d≠(x,y)->∀j (h:j<xs.length),j<k+1->xs[j].d≠(x,y)):=hid (fun J j h H=>by
    rcases gB j k with M | M
    ·exact G.out j h M
    ·obtain rfl:j=k:=by omega
     exact J)
   generalize xs[k]=it at c1 c2 c1' c2' E F;obtain⟨⟨u,v⟩,dt⟩:=it;simp only at c1 c2 c1' c2' E F;have O:=fun W=>jD u v x y W
   cases B:(u==x&&v==y) with
   | true=>
    rw[B] at O;have D:=hid (E.out (by
     simp only[Bool.and_eq_true,beq_iff_eq] at B;rw[B.1,B.2]))
    clear B E F G;go_wp2_with fail;go_quiet (fail);go_wp2_with fail;go_ret;exact⟨(k:Int),rfl,D.out,below_drewN (below_drewN (ba w _) _) _⟩
   | false=>
    rw[B] at O;have D:=hid (F.out (by
     intro h;simp only[Prod.mk.injEq] at h;simp[h.1,h.2] at B))
    clear B E F G;go_wp2_with fail;go_quiet (fail);go_wp2_with fail;go_roundw
    case rel=>exact⟨k+1,_,by omega,by go_num,by first | rfl | (simp only[World.drewN_drewN]; rfl),D⟩
    case measure=>simp[intOf] <;> omega
  ·have D:Hid (Ka xs (x,y) (-1)):=hid (.inr ⟨rfl,fun z B=>by
    obtain⟨j,H,rfl⟩:=aV B;exact G.out j H (by have:=K.out; omega)⟩)
   go_wp2_with fail;go_ret;exact⟨-1,rfl,D.out,below_drewN (ba w _) _⟩
theorem JV(h:Asc xs){k:Nat}(E:k<xs.length)(A:xs[k].d=d):At xs d k:=by
 refine⟨by omega,fun j B C=>?_,fun j B F=>?_⟩
 ·rw[<-A]; exact h j k B E C
 ·rcases gB k j with D | D
  ·have:=h k j E B D
   rw[A] at this;have:=iZ (a:=xs[j].d) (b:=d);omega
  ·obtain rfl:j=k:=by omega
   rw[A,fO];omega
theorem Ka.asc{n:Int}(h:Ka xs d n)(D:Asc xs):(∃k,∃B:k<xs.length,n=(k:Int)/\At xs d k/\qw xs d k=true/\xs[k].d=d)\/(n=-1/\∀k,qw xs d k=false):=by
 rcases h with⟨k,B,C,A⟩ | ⟨C,A⟩
 ·exact .inl ⟨k,B,C,JV D B A,by unfold qw; rw[List.getElem?_eq_getElem B]; simpa using A,A⟩
 ·refine .inr ⟨C,fun k=>?_⟩
  unfold qw;cases E:xs[k]? with
  | none=>rfl
  | some x=>simp only[decide_eq_false_iff_not]; exact A x (List.mem_of_getElem? E)
theorem KE(a:Qa)(xs:List Itm)(c:Nat)(x y:Int)(w:World)(hp:Its w.heap.size w a xs)(ha:Asc xs)(hn:(xs.length:Int)<=1000000)(hd:∀x∈xs,(x.data.length:Int)<=1000000):
  Calls Tryz.prog 83 #[.slice a xs.length c,.agg #[.int .u64 x,.int .u64 y]] w (Kq w (dW xs (x,y)).1 (dW xs (x,y)).2):=by
 have HF:=hid (fun W (hW:PM w W)=>Ht a xs c x y W (hp.ahead hW) (by omega));obtain⟨n,N⟩:=Qe xs.length;rw[<-N] at HF hn ⊢;have HN:=hid N;have HP:=hid hp;have HD:=hid hd;have HA:=hid ha;clear N hp hd ha;obtain⟨w0,E⟩:=Qe ((w.alloc (.cells #[.int .u64 x,.int .u64 y] 54)).alloc (.cells #[.int .i64 0,.string ⟨#[]⟩,.slice none 0 0,.int .u64 0,.int .u64 0,.slice none 0 0,.string ⟨#[]⟩,.int .i64 0,.string ⟨#[]⟩] 59));have Q:Hid (BK (w.heap.size+1) #[.int .i64 0,.string ⟨#[]⟩,.slice none 0 0,.int .u64 0,.int .u64 0,.slice none 0 0,.string ⟨#[]⟩,.int .i64 0,.string ⟨#[]⟩] 59 w0):=hid (by rw[E]; exact BK.new2 _ _ _ _);have F:Hid (PM w w0):=hid (by rw[E]; exact(ba w _).alloc (by simp) _);have L:=hid (HF.out w0 F.out);rw[E] at L;have U:=hid E;clear E HF;go_enter Tryz.func83,Tryz.ntmps83;go_wp2_with fail
 refine L.out.mono ?_;rintro e u ⟨m,rfl,hf,K⟩
 rw[<-U.out] at K;have G:=hid (F.out.trans (K.mono F.out.size));have I:=hid (Q.out.below K);have hu:=I.out.lt;have HH:=hid (hf.asc HA.out);clear hf K L U F Q;rcases HH.out with⟨k,hk,hm,X,Y,A8⟩ | ⟨hm,Y⟩
 ·subst hm
  obtain⟨p0,o0,rfl,C5,q0,q1,q2⟩:=(HP.out.ahead G.out) k hk;have M:=HD.out _ (ak hk);obtain⟨_,_,hR⟩:=yz X Y;have C2:(k:Int)<(n:Int):=by have:=HN.out; omega
  clear X Y A8 HH;generalize xs[k]=it at q0 q1 q2 hR M;obtain⟨⟨y1,y2⟩,yd⟩:=it;simp only at q0 q1 q2 hR M;have H:=hid (tO yd u M);have T:=hid hR;clear hR;generalize bI yd=D at H T;obtain⟨o,er⟩:=D;simp only at H T;go_wp2_with fail
  refine H.out.mono ?_;rintro e v ⟨ea,ec,pa,pc,rfl,Z,K⟩
  have A4:=hid Z;have O:=hid (G.out.trans (K.mono G.out.size));have R:=hid (I.out.below K);have hv:=R.out.lt;have C6:=K.size;clear Z K q0 q1 q2 H;obtain⟨kind,data,ents,⟨t1,t2⟩,pars,author,time,msg⟩:=o;have P:Hid (∀(W V:World),V=v.alloc (.cells (Ob.arr ⟨kind,data,ents,(t1,t2),pars,author,time,msg⟩ ea ec pa pc) 59)->V.grownBy W (some (w.heap.size+1))->PM w W->Kq w (dW xs (x,y)).1 (dW xs (x,y)).2 (.returned (.tuple #[.agg #[.int .i64 kind,.string ⟨data.toArray⟩,.slice ea ents.length ec,.int .u64 t1,.int .u64 t2,.slice pa pars.length pc,.string ⟨author.toArray⟩,.int .i64 time,.string ⟨msg.toArray⟩],.int .i64 er])) W):=hid (fun W V hV h1 h2=>by
   rw[T.out];have hO:=A4.out.below (show PM v V by rw[hV]; exact ba _ _);exact⟨ea,ec,pa,pc,rfl,(hO.kept h1 (by omega)).le (by omega),h2⟩)
  obtain⟨v2,B⟩:=Qe (v.alloc (.cells (Ob.arr ⟨kind,data,ents,(t1,t2),pars,author,time,msg⟩ ea ec pa pc) 59));have C:=hid (fun W h1 h2=>P.out W v2 B h1 h2);have S:Hid (BK (w.heap.size+1) #[.int .i64 0,.string ⟨#[]⟩,.slice none 0 0,.int .u64 0,.int .u64 0,.slice none 0 0,.string ⟨#[]⟩,.int .i64 0,.string ⟨#[]⟩] 59 v2):=hid (by rw[B]; exact R.out.alloc _);have J:Hid (BK v.heap.size (Ob.arr ⟨kind,data,ents,(t1,t2),pars,author,time,msg⟩ ea ec pa pc) 59 v2):=hid (by rw[B]; exact BK.new _ _ _);have A1:Hid (PM w v2):=hid (by rw[B]; exact O.out.alloc O.out.size _);clear P;simp only[Ob.arr] at B J;simp only[Ob.val];generalize ents.length=ne at C B J ⊢;generalize pars.length=np at C B J ⊢;have A5:=hid B;clear B;go_upto_region 5 with(fail)
  rw[<-A5.out];obtain⟨r0,r1,r2,r3,r4,r5,r6,r7,r8⟩:=BK.c9 (show BK _ #[.int .i64 0,.string ⟨#[]⟩,.slice none 0 0,.int .u64 0,.int .u64 0,.slice none 0 0,.string ⟨#[]⟩,.int .i64 0,.string ⟨#[]⟩] _ _ from S.out);obtain⟨fr0,fr1,fr2,fr3,fr4,fr5,fr6,fr7,fr8⟩:=BK.f9 (S.out);obtain⟨o0,o1,o2,o3,o4,o5,o6,o7,o8⟩:=BK.c9 (show BK _ #[.int .i64 kind,.string ⟨data.toArray⟩,.slice ea ne ec,.int .u64 t1,.int .u64 t2,.slice pa np pc,.string ⟨author.toArray⟩,.int .i64 time,.string ⟨msg.toArray⟩] _ _ from J.out);have C4:v.heap.size≠w.heap.size+1:=by omega
  go_wp2_with fail;refine bodyPost_ret (v:=.tuple #[.agg #[.int .i64 kind,.string ⟨data.toArray⟩,.slice ea ne ec,.int .u64 t1,.int .u64 t2,.slice pa np pc,.string ⟨author.toArray⟩,.int .i64 time,.string ⟨msg.toArray⟩],.int .i64 er]) (by simp[results,Tryz.results83,go_sem,r0,r1,r2,r3,r4,r5,r6,r7,r8]) rfl ?_;refine C.out _ ?_ ?_
  ·exact(fM (fM (fM (fM (fM (fM (fM (fM (dN _ _ _ _) _ _) _ _) _ _) _ _) _ _) _ _) _ _) _ _)
  ·exact((((((((A1.out.setCell (by simp) _).setCell (by simp) _).setCell (by simp) _).setCell (by simp) _).setCell (by simp) _).setCell (by simp) _).setCell (by simp) _).setCell (by simp) _).setCell (by simp) _
 ·subst hm
  have T:=hid (Ao (MG HA.out (x,y)) (Y _));clear Y HH;obtain⟨r0,r1,r2,r3,r4,r5,r6,r7,r8⟩:=BK.c9 (show BK _ #[.int .i64 0,.string ⟨#[]⟩,.slice none 0 0,.int .u64 0,.int .u64 0,.slice none 0 0,.string ⟨#[]⟩,.int .i64 0,.string ⟨#[]⟩] _ _ from I.out);obtain⟨fr0,fr1,fr2,fr3,fr4,fr5,fr6,fr7,fr8⟩:=BK.f9 (I.out);go_wp2_with fail;refine bodyPost_ret (v:=.tuple #[obZ.val none 0 none 0,.int .i64 8]) (by simp[results,Tryz.results83,go_sem,obZ,r0,r1,r2,r3,r4,r5,r6,r7,r8]) rfl ?_;rw[T.out];exact⟨none,0,none,0,rfl,dZ.zero _ _,((((((((G.out.setCell (by simp) _).setCell (by simp) _).setCell (by simp) _).setCell (by simp) _).setCell (by simp) _).setCell (by simp) _).setCell (by simp) _).setCell (by simp) _).setCell (by simp) _⟩
theorem Hr(a:Qa)(ds:Qd)(c:Nat)(x y:Int)(w:World)(E:dE w.heap.size w a ds)(Q:(ds.length:Int)<=9223372036854775807):
  Calls Tryz.prog 78 #[.slice a ds.length c,.agg #[.int .u64 x,.int .u64 y]] w fun e w'=>e=.returned (.bool (decide ((x,y)∈ds)))/\PM w w':=by
 obtain⟨R,J⟩:=Qe (decide ((x,y)∈ds));rw[<-J];obtain⟨n,C⟩:=Qe ds.length;rw[<-C] at Q ⊢;have M:=hid J;have L:=hid C;have O:=hid E;clear C J E;go_enter Tryz.func78,Tryz.ntmps78;go_wp2_with fail;go_loopw [5] (fun i wr=>∃k q:Nat,k<=n/\i=.int .i64 k/\wr=(w.alloc (.cells #[.int .u64 x,.int .u64 y] 54)).drewN q/\Hid ((x,y)∉ds.take k)) (fun i _=>n-(intOf i).toNat)
 case atStart=>exact⟨0,0,by omega,rfl,rfl,hid (by simp)⟩
 case round=>
  obtain⟨k,q,S,rfl,rfl,H⟩:=hrel;by_cases K:k<n
  ·have I:k<ds.length:=by rw[<-L.out]; exact K
   obtain⟨b1,o1,rfl,P,c1,c2⟩:=O.out k I;have c1':=fun z=>bP c1 z
   have c2':=fun z=>bP c2 z
   have F:Hid (ds[k]=(x,y)->R=true):=hid (fun h=>by rw[M.out]; exact decide_eq_true (by rw[<-h]; exact ak I));have G:=hid (fun(h:ds[k]≠(x,y))=>kw I H.out h);generalize ds[k]=dk at c1 c2 c1' c2' F G;obtain⟨u,v⟩:=dk;simp only at c1 c2 c1' c2';have N:=fun W=>jD u v x y W
   cases B:(u==x&&v==y) with
   | true=>
    rw[B] at N;have D:=hid (F.out (by
     simp only[Bool.and_eq_true,beq_iff_eq] at B;rw[B.1,B.2]))
    clear B F G H;go_wp2_with fail;go_quiet (fail);go_wp2_with fail;go_ret;exact⟨by rw[D.out]; rfl,below_drewN (below_drewN (ba w _) _) _⟩
   | false=>
    rw[B] at N;have D:=hid (G.out (by
     intro h;simp only[Prod.mk.injEq] at h;simp[h.1,h.2] at B))
    clear B F G H;go_wp2_with fail;go_quiet (fail);go_wp2_with fail;go_roundw
    case rel=>exact⟨k+1,_,by omega,by go_num,by first | rfl | (simp only[World.drewN_drewN]; rfl),D⟩
    case measure=>simp[intOf] <;> omega
  ·have D:Hid (R=false):=hid (by
    rw[M.out];refine decide_eq_false ?_;have:=H.out
    rwa[ag (by rw[<-L.out]; omega)] at this)
   go_wp2_with fail;go_ret;exact⟨by rw[D.out]; rfl,below_drewN (ba w _) _⟩
theorem pW{P:Program}{ops:Array Oper}{o:Oper}{a:Act}{K:Act->World->Prop}{Q:Exit->Act->World->Prop}{E:Prop}(w:World)(h:if Region.wanted o (yielded ops a.tmps)=true then Oper.wp P o a w K Q else E):
  if Region.wanted o (yielded ops a.tmps)=true then Oper.wp P o a w K Q else E:=h
theorem dE.ahead{W':World}{a:Qa}{ds:Qd}(h:dE W.heap.size W a ds)(A:PM W W'):dE W'.heap.size W' a ds:=(h.below A nr).mono A.size
theorem EC{b:Nat}{x1 x2:Int}(A:BK b #[.int .u64 x1,.int .u64 x2] 54 W):dE W.heap.size W (some ⟨b,0,none⟩) [(x1,x2)]:=fun i B=>by
 obtain rfl:i=0:=by simp at B; omega
 exact⟨_,0,rfl,A.lt,by rw[dG,A.cell]; rfl,by rw[dG,A.cell]; rfl⟩
def Mm(l:Qd)(d:Int×Int):Nat:=(l.takeWhile fun y=>decide (eO y d<0)).length
def mE(l:Qd)(d:Int×Int):Qd:=if l[Mm l d]? = some d then l else l.take (Mm l d)++(d::l.drop (Mm l d))
