/- Lemmas. -/
import Derived.Test.YtkedhdcnakhbgaaGreatG4
import Derived.Test.YtkedhdcnakhbgaaGreatG2
set_option linter.unusedSimpArgs false
set_option maxRecDepth 100000
set_option maxHeartbeats 16000000
namespace Go.Proofs.YtkedhdcnakhbgaaGreat
open Tryz
open Go.RowKit Go.Shelf
set_option linter.unusedVariables false
variable {x1 x2:Int}{x y:Itm}{T1 T2 xs ys:List Itm}{B b k m:Nat}{o:Ob}{A1 A2 a:Qa}{ds l:Qd}{W u:World}
theorem M7(a:Qa)(xs:List Itm)(c:Nat)(w:World)(hp:Its w w a xs)(hn:(xs.length:Int)<=1000000)(hd:∀x∈xs,(x.data.length:Int)<=1000000):
  Qh 37 #[.slice a xs.length c] w (Xz (Yi (mV xs)) w):=by
 obtain⟨R,hR⟩:=Qe (mV xs);rw[<-hR];have HF:=Qf hR;obtain⟨n,A1⟩:=Qe xs.length;rw[<-A1] at hn ⊢;obtain⟨HN,HP,B8⟩:=Yk A1 hp hd;clear A1 hp hR hd;go_enter func37,ntmps37;go_wp2;go_loopw [3] (fun i wr=>∃k:Nat,k<=n/\i=Yi k/\Qg (PM w wr)/\Qg (CR xs k)) (fun i _=>n-(intOf i).toNat)
 case atStart=>exact⟨0,Zo,rfl,Qf (bf _),Qf (CR.start xs)⟩
 case round=>
  obtain⟨k,hk,rfl,HB,HE⟩:=hrel;have C2:=HB.out.size;by_cases C1:k<n
  ·have h1:k<xs.length:=HN.o▸C1;obtain⟨p0,o0,rfl,D4,q0,q1,q2⟩:=(HP.o.ahead HB.out) k h1;have Z:=B8.o _ (ak h1);have E:=Qf (HE.out.step h1);have A8:Qg (∀j (hj:j<xs.length),k=j+1->mG xs k=some xs[j].d):=Qf (fun j hj e=>by subst e; rw[mG,XH hj]; rfl);generalize hit:xs[k]=it at q0 q1 q2 E Z;have A7:=Qf hit;clear hit;obtain⟨⟨i1,i2⟩,dt⟩:=it;simp only at q0 q1 q2 Z;obtain⟨Q,Y⟩:=Yj (tO dt wr Z) (fun W=>Hu dt W Zo);have C:Qg (vg ⟨(i1,i2),dt⟩=if(bI dt).2≠0 then 13 else if iY dt≠(i1,i2) then 15 else 0):=Qf rfl;generalize bI dt=D at Q C;generalize iY dt=dg at Y C;obtain⟨o,er⟩:=D;obtain⟨g1,g2⟩:=dg;obtain⟨B5,data,B0,⟨t1,t2⟩,B6,A9,B7,B9⟩:=o;simp only at Q Y C;generalize vg ⟨(i1,i2),dt⟩=ci at C E;have D1:(k:Int)<(n:Int):=Zo;go_wp2_with fail;refine Q.o.mono ?_;rintro e u ⟨ea,ec,pa,pc,rfl,_,hb⟩;have A4:Qg (PM wr u):=Qf hb;clear hb Q;simp only[Ob.val];generalize B0.length=ne;generalize B6.length=np;obtain⟨u2,A3⟩:=Qe (u.alloc (.cells #[Yi B5,data,.slice ea ne ec,Yu t1,Yu t2,.slice pa np pc,A9,Yi B7,B9] 59));have M:Qg (PM wr u2):=Qf (A3▸A4.o.alloc A4.o.size _);have L:Qg (PM w u2):=Qf (HB.out.trans (M.o.mono C2));have B3:(w:Nat)<=(u2:Nat):=L.o.size;have S:=Qf A3;clear A3 q0 q1 q2;obtain⟨_,_,A2,_,q0,q1,q2⟩:=(HP.o.ahead L.o) k h1;cases A2;rw[A7.o] at q0 q1 q2;simp only at q0 q1 q2;by_cases he:er=0
   ·subst he;have G:Qg (ci=if(g1,g2)≠(i1,i2) then 15 else 0):=Qf (by rw[C.o,if_neg Zs]);clear C;have f0:=YG q0;have f1:=YG q1;have f2:=YG q2;have hq:=fun W=>nI g1 g2 i1 i2 W
    have J:=Qf (fun d os=>YJ (w:=u2) (d:=d) (os:=os) (Y.o _));cases U:(g1==i1&&g2==i2) with
    | false=>
     rw[U] at hq;have N:Qg (R=15):=Qf (by
      have O:ci=15:=by
       rw[G.o,if_pos];intro h;simp only[XC] at h;simp[h.1,h.2] at U
      rw[HF.o,E.o,O,if_pos Zd])
     clear U G E HE;go_wp2_with fail;rw[<-S.o];refine YH Zk Zk ?_
     repeat (any_goals (first | go_big_quiet_step (with_reducible exact J.o _ _) | quiet_step (with_reducible exact J.o _ _)))
     refine YI ?_;intro w2 K;have B:=Qf (L.o.trans ((aX K).mono B3));clear K J f0 f1 f2;go_wp2;go_ret;exact⟨Zw N.o,B.o⟩
    | true=>
     rw[U] at hq;have I:Qg (mV xs=if vO (mG xs k) (i1,i2)=true then 10 else vR (mG xs (k+1)) (xs.drop (k+1))):=Qf (by
      have O:ci=0:=by
       rw[G.o,if_neg];simp only[XF,XS] at U;simp[U.1,U.2]
      rw[E.o,O,if_neg Zs])
     clear U G E HE;go_wp2_with fail;rw[<-S.o];refine YH Zk Zk ?_
     repeat (any_goals (first | go_big_quiet_step (with_reducible exact J.o _ _) | quiet_step (with_reducible exact J.o _ _)))
     refine YI ?_;intro w2 K;obtain⟨C3,B⟩:=Yj (XT M.o (aX K)) (L.o.trans ((aX K).mono B3));have B4:(w:Nat)<=(w2:Nat):=B.o.size;clear K J f0 f1 f2 q0 q1 q2 S;obtain⟨_,_,A2,_,q0,q1,q2⟩:=(HP.o.ahead B.o) k h1;cases A2;rw[A7.o] at q0 q1 q2;simp only at q0 q1 q2;by_cases A0:k=0
     ·have g0:decide ((0:Int)<(k:Int))=false:=Zt;have g1:decide (0<k)=false:=Zt;have N:Qg (CR xs (k+1)):=Qf (by
       unfold CR;rw[I.o,if_neg];rw[A0]; simp[mG,vO])
      clear A0 I;go_wp2_with fail;go_quiet (fail);go_wp2;go_roundw
      case rel=>exact⟨k+1,Zo,Zg,Qf (below_drewN B.o _),N⟩
      case measure=>exact Yr
     ·have g0:decide ((0:Int)<(k:Int))=true:=Zt;have g1:decide (0<k)=true:=Zt;obtain⟨j,hj⟩:∃j,k=j+1:=⟨k-1,Zo⟩;have B1:j<xs.length:=Zo;obtain⟨_,_,C0,_,j0,j1,_⟩:=(HP.o.ahead B.o) j B1;cases C0;have B2:(k:Int)-1=(j:Int):=Zo;have D0:IntKind.i64.wrap ((k:Int)-1)=(j:Int):=B2▸ZV;have C9:(j:Int)<(n:Int):=Zo;have H:=Qf (A8.o j B1 hj);clear A8;generalize xs[j]=ij at j0 j1 H;obtain⟨⟨A5,A6⟩,jd⟩:=ij;simp only at j0 j1 H;have X:=Qf (fun W=>FB A5 A6 i1 i2 W);have F:Qg (R=if 0<=eO (A5,A6) (i1,i2) then 10 else vR (mG xs (k+1)) (xs.drop (k+1))):=Qf (by
       rw[HF.o,I.o,H.o];have ha:=iZ (a:=(i1,i2)) (b:=(A5,A6));by_cases T:0<=eO (A5,A6) (i1,i2)
       ·rw[if_pos T,if_pos]; simp[vO]; omega
       ·rw[if_neg T,if_neg]; simp[vO]; omega)
      generalize eO (A5,A6) (i1,i2)=cv at X F;have J:=Qf (fun d os=>YJ (w:=w2) (d:=d) (os:=os) (X.o _));have f0:=YG q0;have f1:=YG q1;have e0:=YG j0;have e1:=YG j1;clear I H X hj B2 A0;by_cases T:0<=cv
      ·have dc:decide (0<=cv)=true:=Zu T;have N:Qg (R=10):=Qf (by rw[F.o,if_pos T]);clear F T;go_wp2_with fail;refine YH Zk Zk ?_
       repeat (any_goals (first | go_big_quiet_step (with_reducible exact J.o _ _) | quiet_step (with_reducible exact J.o _ _)))
       refine YI ?_;intro w3 P;have V:=Qf (B.o.trans ((aX P).mono B4));clear P J f0 f1 e0 e1;go_wp2;go_ret;exact⟨Zw N.o,V.o⟩
      ·have dc:decide (0<=cv)=false:=Zu T;have N:Qg (CR xs (k+1)):=Qf (by unfold CR; rw[<-HF.o,F.o,if_neg T]);clear F T;go_wp2_with fail;refine YH Zk Zk ?_
       repeat (any_goals (first | go_big_quiet_step (with_reducible exact J.o _ _) | quiet_step (with_reducible exact J.o _ _)))
       refine YI ?_;intro w3 P;have V:=Qf (B.o.trans ((aX P).mono B4));clear P J f0 f1 e0 e1;go_wp2;go_roundw
       case rel=>exact⟨k+1,Zo,Zg,V,N⟩
       case measure=>exact Yr
   ·have D3:(er !=0)=true:=Zu he;have N:Qg (R=13):=Qf (by
     have O:ci=13:=by rw[C.o,if_pos he]
     rw[HF.o,E.o,O,if_pos Zd])
    clear he E HE C;go_wp2_with fail;rw[<-S.o];go_ret;exact⟨Zw N.o,L.o⟩
  ·have N:Qg (R=0):=Qf (by rw[HF.o]; exact HE.out.fin (by rw[<-HN.o]; omega));go_wp2;go_ret;exact⟨Zw N.o,HB.out⟩
open Go.ChangeShapes Go.WideShapes Go.ChangeAt Go.RowKit Go.Deep Go.Shelf
theorem QZ:∀{xs:List Itm} {p:Option (Int×Int)},vR p xs=0->(∀x∈xs,vg x=0)/\Asc xs/\(∀q,p=some q->∀x∈xs,eO q x.d<0)
 | [],p,_=>⟨Zs,fun i j D=>by simp at D,Zs⟩
 | x::xs,p,h=>by
  rw[vR] at h;by_cases B:vg x=0
  ·rw[if_neg (Zu B)] at h;obtain⟨F,G⟩:=uh h Zd;obtain⟨i1,i2,i3⟩:=QZ G;have E:∀q,p=some q->eO q x.d<0:=fun q C=>by
    subst C;simp only[vO,XJ] at F;have:=iZ (a:=x.d) (b:=q);omega
   refine⟨fun y A=>?_,?_,fun q C y A=>?_⟩
   ·rcases XG.1 A with rfl | A
    ·exact B
    ·exact i1 y A
   ·intro i j D I H;cases i with
    | zero=>
     cases j with
     | zero=>omega
     | succ j=>simp only[aS,bK]; exact i3 _ rfl _ (ak _)
    | succ i=>
     cases j with
     | zero=>omega
     | succ j=>simp only[bK]; exact i2 i j (by simp at D; omega) (by simp at I; omega) Zo
   ·rcases XG.1 A with rfl | A
    ·exact E q C
    ·exact qA (E q C) (i3 _ rfl y A)
  ·rw[if_pos B] at h; exact absurd h B
theorem PP(h:mV xs=0):(∀x∈xs,vg x=0)/\Asc xs:=⟨(QZ h).1,(QZ h).2.1⟩
section
variable {H:Type} {enc:TypeId×Value->H} {W:World}
end
theorem NW:Asc []:=fun i j A=>by simp at A
theorem NY:∀{xs ys:List Itm},Asc xs->Asc ys->(∀x,x∈xs↔x∈ys)->xs=ys:=by
 have N:∀{xs ys:List Itm} {x y:Itm},Asc (x::xs)->Asc (y::ys)->(∀z,z∈x::xs↔z∈y::ys)->x=y:=by
  intro xs ys x y D E A;have G:x∈y::ys:=(A x).1 Zs;have L:y∈x::xs:=(A y).2 Zs;rcases XG.1 G with h | h
  ·exact h
  ·rcases XG.1 L with F | F
   ·exact F.symm
   ·obtain⟨i,I,B⟩:=aV h;obtain⟨j,K,H⟩:=aV F;have a1:=E 0 (i+1) Zs Zt Zo;have a2:=D 0 (j+1) Zs Zt Zo;simp only[aS,bK,B,H] at a1 a2;have:=iZ (a:=x.d) (b:=y.d);omega
 have M:∀{xs:List Itm} {x:Itm},Asc (x::xs)->Asc xs/\x∉xs:=by
  intro xs x h;refine⟨fun i j I K J=>?_,fun G=>?_⟩
  ·have:=h (i+1) (j+1) Zt Zt Zo;simpa using this
  ·obtain⟨i,I,B⟩:=aV G;have:=h 0 (i+1) Zs Zt Zo;simp only[aS,bK,B,fO] at this;omega
 intro xs;induction xs with
 | nil=>
  intro ys _ _ A;cases ys with
  | nil=>rfl
  | cons y ys=>exact absurd ((A y).2 Zs) Zs
 | cons x xs ih=>
  intro ys D E A;cases ys with
  | nil=>exact absurd ((A x).1 Zs) Zs
  | cons y ys=>
   obtain rfl:=N D E A;obtain⟨t1,n1⟩:=M D;obtain⟨t2,n2⟩:=M E;rw[ih t1 t2];intro z;constructor
   ·intro C;rcases XG.1 ((A z).1 (pM _ C)) with h | h
    ·subst h; exact absurd C n1
    ·exact h
   ·intro C;rcases XG.1 ((A z).2 (pM _ C)) with h | h
    ·subst h; exact absurd C n2
    ·exact h
theorem MG(h:Asc xs)(d:Int×Int):At xs d (D5 xs d):=by
 suffices ∃k,At xs d k by
  obtain⟨k,B⟩:=this;rw[<-B.eq]; exact B
 induction xs with
 | nil=>exact⟨0,Zs,fun j A=>by simp at A,fun j A=>by simp at A⟩
 | cons x xs ih=>
  have F:Asc xs:=fun i j H A D=>by
   have:=h (i+1) (j+1) Zt Zt Zo;simpa using this
  by_cases G:eO x.d d<0
  ·obtain⟨k,B⟩:=ih F;refine⟨k+1,by have:=B.le; simp; omega,fun j A C=>?_,fun j A E=>?_⟩
   ·cases j with
    | zero=>simpa using G
    | succ j=>simpa using B.lo j (by simp at A; omega) Zo
   ·cases j with
    | zero=>omega
    | succ j=>simpa using B.hi j (by simp at A; omega) Zo
  ·refine⟨0,Zo,fun j A C=>Zo,fun j A _=>?_⟩;cases j with
   | zero=>simp; omega
   | succ j=>
    have a1:=h 0 (j+1) Zs A Zo;simp only[aS] at a1;exact ve a1 Zo
theorem IU(h:Asc xs)(C:Ag xs x=(ys,0)):Asc ys/\(∀y,y∈ys↔y∈xs\/y=x)/\ys.length<=xs.length+1:=by
 have B:=MG h x.d;cases F:qw xs x.d (D5 xs x.d) with
 | true=>
  obtain⟨R,I,O⟩:=Ei B F;rw[O] at C;split at C
  ·rename_i D;simp only[XC,and_true] at C;subst C;refine⟨h,fun y=>⟨.inl,?_⟩,Zo⟩;rintro(T | rfl)
   ·exact T
   ·have:xs[D5 xs y.d]=y:=by
     cases N:xs[D5 xs y.d] with
     | mk d' dt'=>
      rw[N] at I D;cases y;simp only at I D ⊢;rw[I,D]
    rw[<-this]; exact ak R
  ·simp at C
 | false=>
  rw[Af B F] at C;simp only[XC,and_true] at C;subst C;generalize V:D5 xs x.d=k at B F;have S:=B.le;have J:∀j (G:j<xs.length),k<=j->0<eO xs[j].d x.d:=by
   intro j G L;have U:=B.hi j G L;rcases gB k j with M | P
   ·have A:=h k j Zo G M;have H:=B.hi k Zo nr;have g1:=bF xs[k].d xs[j].d;have g2:=bF xs[k].d x.d;have g3:=bF xs[j].d x.d;omega
   ·obtain rfl:j=k:=Zo;unfold qw at F;rw[XH G] at F;simp only[XL] at F;have:eO xs[j].d x.d≠0:=fun e=>F (lv.1 e)
    omega
  refine⟨fun i j C G K=>?_,fun y=>?_,Zt⟩
  ·have E:(xs.take k).length=k:=Zy aA;have X:∀i (C:i<(xs.take k++(x::xs.drop k)).length),(i<k/\∃h':i<xs.length,(xs.take k++(x::xs.drop k))[i]=xs[i])\/(i=k/\(xs.take k++(x::xs.drop k))[i]=x)\/(k<i/\∃h':i-1<xs.length,(xs.take k++(x::xs.drop k))[i]=xs[i-1]):=by
    intro i C;have Q:i<xs.length+1:=by simp at C; omega
    rcases Nat.lt_trichotomy i k with A | A | A
    ·left;exact⟨A,Zo,by rw[sU Zo,List.getElem_take]⟩
    ·right; left;subst A;refine⟨rfl,?_⟩;rw[qK Zo];simp[E]
    ·right; right;refine⟨A,Zo,?_⟩;rw[qK Zo];simp only[E];rw[List.getElem_cons];split
     ·omega
     ·rw[eF];congr 1;omega
   have W:=fun a b=>@iZ a b
   rcases X i C with⟨a1,a2,a3⟩ | ⟨a1,a3⟩ | ⟨a1,a2,a3⟩ <;> rcases X j G with⟨b1,b2,b3⟩ | ⟨b1,b3⟩ | ⟨b1,b2,b3⟩ <;> rw[a3,b3]
   ·exact h i j a2 b2 K
   ·exact B.lo i a2 a1
   ·rcases gB i (j-1) with A | A
    ·exact h i (j-1) a2 b2 A
    ·omega
   ·omega
   ·omega
   ·have:=J (j-1) b2 Zo;have:=W xs[j-1].d x.d;omega
   ·omega
   ·omega
   ·exact h (i-1) (j-1) a2 b2 Zo
  ·simp only[aD,XG];constructor
   ·rintro(A | A | A)
    ·exact .inl (dK A)
    ·exact .inr A
    ·exact .inl (List.mem_of_mem_drop A)
   ·rintro(A | A)
    ·rw[<-aQ k xs] at A;rcases aD.1 A with H | H
     ·exact .inl H
     ·exact .inr (.inr H)
    ·exact .inr (.inl A)
def OW(o:Ob):Option Itm:=if(aR o).2=0 then some ⟨iY (aR o).1,(aR o).1⟩ else none
structure BH (os:List Ob) (xs:List Itm):Prop where
 asc:Asc xs
 mem:∀x,x∈xs↔∃o∈os,OW o=some x
 len:xs.length<=os.length
theorem BH.nil:BH [] []:=⟨NW,fun x=>Zs,nr⟩
theorem BH.add{os:List Ob}(h:BH os xs)(D:OW o=some x)(E:Asc ys)(F:∀y,y∈ys↔y∈xs\/y=x)(G:ys.length<=xs.length+1):BH (os++[o]) ys:=by
 refine⟨E,fun y=>?_,by have:=h.len; simp; omega⟩;rw[F,h.mem];constructor
 ·rintro(⟨p,C,A⟩ | rfl)
  ·exact⟨p,Zj C,A⟩
  ·exact⟨o,Zs,D⟩
 ·rintro⟨p,C,A⟩;rcases aD.1 C with B | B
  ·exact .inl ⟨p,B,A⟩
  ·rw[aH] at B; subst B; rw[D] at A; cases A; exact .inr rfl
def Ka(xs:List Itm)(d:Int×Int)(n:Int):Prop:=(∃k,∃h:k<xs.length,n=(k:Int)/\xs[k].d=d)\/(n=-1/\∀x∈xs,x.d≠d)
def GotFR(w:World)(xs:List Itm)(d:Int×Int)(e:Ending)(w':World):Prop:=∃n:Int,e=.returned (Yi n)/\Ka xs d n/\PM w w'
theorem Ht(a:Qa)(xs:List Itm)(c:Nat)(x y:Int)(w:World)(N:Its w w a xs)(R:(xs.length:Int)<=9223372036854775807):
  Qh 122 #[.slice a xs.length c,.agg #[Yu x,Yu y]] w (GotFR w xs (x,y)):=by
 obtain⟨n,C⟩:=Qe xs.length;rw[<-C] at R ⊢;obtain⟨K,P⟩:=Yj C N;clear C N;go_enter func122,ntmps122;go_wp2;go_loopw [5] (fun i wr=>∃k q:Nat,k<=n/\i=Yi k/\wr=(w.alloc (.cells #[Yu x,Yu y] 54)).drewN q/\Qg (∀j (h:j<xs.length),j<k->xs[j].d≠(x,y))) (fun i _=>n-(intOf i).toNat)
 case atStart=>exact⟨0,0,Zo,rfl,rfl,Qf (fun j h H=>Zo)⟩
 case round=>
  obtain⟨k,q,S,rfl,rfl,G⟩:=hrel;by_cases I:k<n
  ·have L:k<xs.length:=K.o▸I;obtain⟨b1,o1,rfl,Q,c1,c2,_⟩:=P.o k L;have T:=fun z=>bP c1 z
   have U:=fun z=>bP c2 z
   have E:Qg (xs[k].d=(x,y)->Ka xs (x,y) (k:Int)):=Qf (fun h=>.inl ⟨k,L,rfl,h⟩);have F:Qg (xs[k].d≠(x,y)->∀j (h:j<xs.length),j<k+1->xs[j].d≠(x,y)):=Qf (fun J j h H=>by
    rcases gB j k with M | M
    ·exact G.out j h M
    ·obtain rfl:j=k:=Zo;exact J)
   generalize xs[k]=it at c1 c2 T U E F;obtain⟨⟨u,v⟩,dt⟩:=it;simp only at c1 c2 T U E F;have O:=fun W=>jD u v x y W
   cases B:(u==x&&v==y) with
   | true=>
    rw[B] at O;have D:=Qf (E.o (by
     simp only[XF,XS] at B;rw[B.1,B.2]))
    clear B E F G;go_wp2_with fail;go_quiet (fail);go_wp2;go_ret;exact⟨(k:Int),rfl,D.o,below_drewN (below_drewN (ba w _) _) _⟩
   | false=>
    rw[B] at O;have D:=Qf (F.o (by
     intro h;simp only[XC] at h;simp[h.1,h.2] at B))
    clear B E F G;go_wp2_with fail;go_quiet (fail);go_wp2;go_roundw
    case rel=>exact⟨k+1,_,Zo,Zg,by first | rfl | (simp only[World.drewN_drewN]; rfl),D⟩
    case measure=>exact Yr
  ·have D:Qg (Ka xs (x,y) (-1)):=Qf (.inr ⟨rfl,fun z B=>by
    obtain⟨j,H,rfl⟩:=aV B;exact G.out j H (Zh K.o)⟩)
   go_wp2;go_ret;exact⟨-1,rfl,D.o,below_drewN (ba w _) _⟩
theorem JV(h:Asc xs)(E:k<xs.length){d:Int×Int}(A:xs[k].d=d):At xs d k:=by
 refine⟨Zo,fun j B C=>?_,fun j B F=>?_⟩
 ·rw[<-A]; exact h j k B E C
 ·rcases gB k j with D | D
  ·have:=h k j E B D;rw[A] at this;have:=iZ (a:=xs[j].d) (b:=d);omega
  ·obtain rfl:j=k:=Zo;rw[A,fO];omega
theorem Ka.asc{d:Int×Int}{n:Int}(h:Ka xs d n)(D:Asc xs):(∃k,∃B:k<xs.length,n=(k:Int)/\At xs d k/\qw xs d k=true/\xs[k].d=d)\/(n=-1/\∀k,qw xs d k=false):=by
 rcases h with⟨k,B,C,A⟩ | ⟨C,A⟩
 ·exact .inl ⟨k,B,C,JV D B A,by unfold qw; rw[XH B]; simpa using A,A⟩
 ·refine .inr ⟨C,fun k=>?_⟩;unfold qw;cases E:xs[k]? with
  | none=>rfl
  | some x=>simp only[XL]; exact A x (List.mem_of_getElem? E)
theorem Vm(a:Qa)(xs:List Itm)(c:Nat)(x y:Int)(w:World)(N:Its w w a xs)(J:Asc xs)(M:(xs.length:Int)<=9223372036854775807):
  Qh 65 #[.slice a xs.length c,.agg #[Yu x,Yu y]] w (Xz (.bool (I7 xs (x,y))) w):=by
 have E:=Qf (fun W (Q:PM w W)=>Ht a xs c x y W (N.ahead Q) M);obtain⟨R,D⟩:=Qe (I7 xs (x,y));rw[<-D];have I:Qg (∀n,Ka xs (x,y) n->(0<=n/\R=true)\/(n=-1/\R=false)):=Qf (fun n h=>by
  rcases h.asc J with⟨k,S,C,B,P,_⟩ | ⟨C,B⟩
  ·exact .inl ⟨Zo,by rw[D,I7,<-B.eq,P]⟩
  ·exact .inr ⟨C,by rw[D,I7,B]⟩)
 generalize xs.length=n at E ⊢;clear N J D M;have F:=Qf (E.o (w.alloc (.cells #[Yu x,Yu y] 54)) (ba w _));clear E;go_enter func65,ntmps65;go_wp2_with fail;refine F.o.mono ?_;rintro e u ⟨m,rfl,L,K⟩;have H:Qg (PM w u):=Qf ((ba w _).trans (K.mono Zs));have O:=Qf (I.o m L);clear L K I;rcases O.o with⟨C,B⟩ | ⟨C,B⟩
 ·have G:=Qf B;have d0:decide (0<=m)=true:=Zu C;clear B;go_wp2;go_ret;exact⟨Zw G.o,H.o⟩
 ·have G:=Qf B;subst C;clear B;go_wp2;go_ret;exact⟨Zw G.o,H.o⟩
theorem KE(a:Qa)(xs:List Itm)(c:Nat)(x y:Int)(w:World)(hp:Its w w a xs)(ha:Asc xs)(hn:(xs.length:Int)<=1000000)(hd:∀x∈xs,(x.data.length:Int)<=1000000):
  Qh 83 #[.slice a xs.length c,.agg #[Yu x,Yu y]] w (Kq w (dW xs (x,y)).1 (dW xs (x,y)).2):=by
 have HF:=Qf (fun W (hW:PM w W)=>Ht a xs c x y W (hp.ahead hW) Zo);obtain⟨n,N⟩:=Qe xs.length;rw[<-N] at HF hn ⊢;obtain⟨HN,HP,HD,HA⟩:=Yl N hp hd ha;clear N hp hd ha;obtain⟨w0,E⟩:=Qe ((w.alloc (.cells #[Yu x,Yu y] 54)).alloc (.cells #[Yi 0,Ye,(),Yu 0,Yu 0,(),Ye,Yi 0,Ye] 59));have Q:Qg (BK ((w:Nat)+1) #[Yi 0,Ye,(),Yu 0,Yu 0,(),Ye,Yi 0,Ye] 59 w0):=Qf (E▸BK.new2 _ _ _ _);have F:Qg (PM w w0):=Qf (E▸(ba w _).alloc (by simp) _);have L:=Qf (HF.o w0 F.o);rw[E] at L;have U:=Qf E;clear E HF;go_enter func83,ntmps83;go_wp2_with fail;refine L.o.mono ?_;rintro e u ⟨m,rfl,hf,K⟩;rw[<-U.o] at K;obtain⟨G,I⟩:=Yj (XT F.o K) (Q.o.below K);have hu:=I.o.lt;have HH:=Qf (hf.asc HA.o);clear hf K L U F Q;rcases HH.o with⟨k,hk,hm,X,Y,A8⟩ | ⟨hm,Y⟩
 ·subst hm;obtain⟨p0,o0,rfl,C5,q0,q1,q2⟩:=(HP.o.ahead G.o) k hk;have M:=HD.o _ (ak hk);obtain⟨_,_,hR⟩:=yz X Y;have C2:(k:Int)<(n:Int):=Zh HN.o;clear X Y A8 HH;generalize xs[k]=it at q0 q1 q2 hR M;obtain⟨⟨y1,y2⟩,yd⟩:=it;simp only at q0 q1 q2 hR M;obtain⟨H,T⟩:=Yj (tO yd u M) hR;clear hR;generalize bI yd=D at H T;obtain⟨o,er⟩:=D;simp only at H T;go_wp2_with fail;refine H.o.mono ?_;rintro e v ⟨ea,ec,pa,pc,rfl,Z,K⟩;obtain⟨A4,O,R⟩:=Yk Z (XT G.o K) (I.o.below K);have hv:=R.o.lt;have C6:=K.size;clear Z K q0 q1 q2 H;obtain⟨A2,data,A6,⟨t1,t2⟩,A7,A0,A3,A9⟩:=o;have P:Qg (∀(W V:World),V=v.alloc (.cells (Ob.arr ⟨A2,data,A6,(t1,t2),A7,A0,A3,A9⟩ ea ec pa pc) 59)->V.grownBy W (some ((w:Nat)+1))->PM w W->Kq w (dW xs (x,y)).1 (dW xs (x,y)).2 (.returned (.tuple #[.agg #[Yi A2,data,.slice ea A6.length ec,Yu t1,Yu t2,.slice pa A7.length pc,A0,Yi A3,A9],Yi er])) W):=Qf (fun W V hV h1 h2=>by
   rw[T.o];have hO:=A4.o.below (show PM v V by rw[hV]; exact ba _ _);exact⟨ea,ec,pa,pc,rfl,(hO.kept h1 Zo).le Zo,h2⟩)
  obtain⟨v2,B⟩:=Qe (v.alloc (.cells (Ob.arr ⟨A2,data,A6,(t1,t2),A7,A0,A3,A9⟩ ea ec pa pc) 59));have C:=Qf (fun W h1 h2=>P.o W v2 B h1 h2);have S:Qg (BK ((w:Nat)+1) #[Yi 0,Ye,(),Yu 0,Yu 0,(),Ye,Yi 0,Ye] 59 v2):=Qf (B▸R.o.alloc _);have J:Qg (BK v (Ob.arr ⟨A2,data,A6,(t1,t2),A7,A0,A3,A9⟩ ea ec pa pc) 59 v2):=Qf (B▸BK.new _ _ _);have A1:Qg (PM w v2):=Qf (B▸O.o.alloc O.o.size _);clear P;simp only[Ob.arr] at B J;simp only[Ob.val];generalize A6.length=ne at C B J ⊢;generalize A7.length=np at C B J ⊢;have A5:=Qf B;clear B;go_upto_region 5 with(fail)
  rw[<-A5.o];obtain⟨r0,r1,r2,r3,r4,r5,r6,r7,r8⟩:=BK.c9 S.o;obtain⟨B0,B1,B2,B3,B4,B5,B6,B7,B8⟩:=BK.f9 (S.o);obtain⟨o0,o1,o2,o3,o4,o5,o6,o7,o8⟩:=BK.c9 J.o;have C4:(v:Nat)≠(w:Nat)+1:=Zo;go_wp2;refine XB (v:=.tuple #[.agg #[Yi A2,data,.slice ea ne ec,Yu t1,Yu t2,.slice pa np pc,A0,Yi A3,A9],Yi er]) (by simp[results,results83,go_sem,r0,r1,r2,r3,r4,r5,r6,r7,r8]) rfl ?_;refine C.o _ ?_ ?_
  ·exact(fM (fM (fM (fM (fM (fM (fM (fM (dN _ _ _ _) _ _) _ _) _ _) _ _) _ _) _ _) _ _) _ _)
  ·exact((((((((A1.o.setCell Zs _).setCell Zs _).setCell Zs _).setCell Zs _).setCell Zs _).setCell Zs _).setCell Zs _).setCell Zs _).setCell Zs _
 ·subst hm;have T:=Qf (Ao (MG HA.o (x,y)) (Y _));clear Y HH;obtain⟨r0,r1,r2,r3,r4,r5,r6,r7,r8⟩:=BK.c9 I.o;obtain⟨B0,B1,B2,B3,B4,B5,B6,B7,B8⟩:=BK.f9 (I.o);go_wp2;refine XB (v:=.tuple #[obZ.val none 0 none 0,Yi 8]) (by simp[results,results83,go_sem,obZ,r0,r1,r2,r3,r4,r5,r6,r7,r8]) rfl ?_;rw[T.o];exact⟨none,0,none,0,rfl,dZ.zero _ _,((((((((G.o.setCell Zs _).setCell Zs _).setCell Zs _).setCell Zs _).setCell Zs _).setCell Zs _).setCell Zs _).setCell Zs _).setCell Zs _⟩
theorem Hr(a:Qa)(ds:Qd)(c:Nat)(x y:Int)(w:World)(E:dE w w a ds)(Q:(ds.length:Int)<=9223372036854775807):
  Qh 78 #[.slice a ds.length c,.agg #[Yu x,Yu y]] w (Xz (.bool (decide ((x,y)∈ds))) w):=by
 obtain⟨R,J⟩:=Qe (decide ((x,y)∈ds));rw[<-J];obtain⟨n,C⟩:=Qe ds.length;rw[<-C] at Q ⊢;obtain⟨M,L,O⟩:=Yk J C E;clear C J E;go_enter func78,ntmps78;go_wp2;go_loopw [5] (fun i wr=>∃k q:Nat,k<=n/\i=Yi k/\wr=(w.alloc (.cells #[Yu x,Yu y] 54)).drewN q/\Qg ((x,y)∉ds.take k)) (fun i _=>n-(intOf i).toNat)
 case atStart=>exact⟨0,0,Zo,rfl,rfl,Qf Zs⟩
 case round=>
  obtain⟨k,q,S,rfl,rfl,H⟩:=hrel;by_cases K:k<n
  ·have I:k<ds.length:=L.o▸K;obtain⟨b1,o1,rfl,P,c1,c2⟩:=O.o k I;have T:=fun z=>bP c1 z
   have U:=fun z=>bP c2 z
   have F:Qg (ds[k]=(x,y)->R=true):=Qf (fun h=>by rw[M.o]; exact XI (h▸ak I));have G:=Qf (fun(h:ds[k]≠(x,y))=>kw I H.out h);generalize ds[k]=dk at c1 c2 T U F G;obtain⟨u,v⟩:=dk;simp only at c1 c2 T U;have N:=fun W=>jD u v x y W
   cases B:(u==x&&v==y) with
   | true=>
    rw[B] at N;have D:=Qf (F.o (by
     simp only[XF,XS] at B;rw[B.1,B.2]))
    clear B F G H;go_wp2_with fail;go_quiet (fail);go_wp2;go_ret;exact⟨Zw D.o,below_drewN (below_drewN (ba w _) _) _⟩
   | false=>
    rw[B] at N;have D:=Qf (G.o (by
     intro h;simp only[XC] at h;simp[h.1,h.2] at B))
    clear B F G H;go_wp2_with fail;go_quiet (fail);go_wp2;go_roundw
    case rel=>exact⟨k+1,_,Zo,Zg,by first | rfl | (simp only[World.drewN_drewN]; rfl),D⟩
    case measure=>exact Yr
  ·have D:Qg (R=false):=Qf (by
    rw[M.o];refine XN ?_;have:=H.out
    rwa[ag (by rw[<-L.o]; omega)] at this)
   go_wp2;go_ret;exact⟨Zw D.o,below_drewN (ba w _) _⟩
def Kh:Nat->List Itm->List Itm->Option (List Itm)
 | 0,_,_=>some []
 | _+1,[],[]=>some []
 | f+1,[],y::ys=>(Kh f [] ys).map (y::·)
 | f+1,x::xs,[]=>(Kh f xs []).map (x::·)
 | f+1,x::xs,y::ys=>
  if eO x.d y.d=0 then(if x.data=y.data then(Kh f xs ys).map (x::·) else none)
  else if eO x.d y.d<0 then(Kh f xs (y::ys)).map (x::·) else(Kh f (x::xs) ys).map (y::·)
def UR(R:Option (List Itm))(f:Nat)(l xs ys:List Itm):Prop:=R=(Kh f xs ys).map (l++·)
theorem UR.d{R:Option (List Itm)}{f:Nat}{l:List Itm}(h:UR R (f+1) l (x::xs) (y::ys))(A:eO x.d y.d=0)(B:x.data≠y.data):R=none:=by
 unfold UR at h;rw[h,Kh,if_pos A,if_neg B]; rfl
theorem Wj{dt:Qb}(A:BK b #[Yu x1,Yu x2,dt] 56 W):Its W W (some ⟨b,0,none⟩) [(⟨(x1,x2),dt⟩:Itm)]:=fun i B=>by
 obtain rfl:i=0:=by simp at B; omega
 exact⟨_,0,rfl,A.lt,by rw[dG,A.cell]; rfl,by rw[dG,A.cell]; rfl,by rw[dG,A.cell]; rfl⟩
theorem Qq{base:Nat}{v:Value}(B:W.ownsRow base 56 3 v xs.length (dP xs))(d:Int×Int)(dt:Qb)(D:(xs.length:Int)<=100000000)(C:base<=(W:Nat)):
  ∃v' W',(Builtin.append_ #[23,23] 23 #[v,.slice W 1 1]).run prog (W.alloc (.cells #[Yu d.1,Yu d.2,dt] 56))=.ok v' W'/\W'.ownsRow base 56 3 v' (xs++[(⟨d,dt⟩:Itm)]).length (dP (xs++[(⟨d,dt⟩:Itm)]))/\(W.alloc (.cells #[Yu d.1,Yu d.2,dt] 56)).grownBy W' v.ownBlock:=by
 obtain⟨d1,d2⟩:=d;obtain⟨v',W',E,F,G,_⟩:=GH (W.alloc (.cells #[Yu d1,Yu d2,dt] 56)) base 23 v xs (B.alloc _) (some ⟨W,0,none⟩) [(⟨(d1,d2),dt⟩:Itm)] 1 (Wj (BK.new W #[Yu d1,Yu d2,dt] 56)) Zt Zt;exact⟨v',W',E,F,G⟩
theorem pW{P:Program}{ops:Array Oper}{o:Oper}{a:Act}{K:Act->World->Prop}{Q:Exit->Act->World->Prop}{E:Prop}(w:World)(h:if Region.wanted o (yielded ops a.tmps)=true then Oper.wp P o a w K Q else E):
  if Region.wanted o (yielded ops a.tmps)=true then Oper.wp P o a w K Q else E:=h
theorem dE.ahead{W':World}(h:dE W W a ds)(A:PM W W'):dE W' W' a ds:=(h.below A nr).mono A.size
theorem EC(A:BK b #[Yu x1,Yu x2] 54 W):dE W W (some ⟨b,0,none⟩) [(x1,x2)]:=fun i B=>by
 obtain rfl:i=0:=by simp at B; omega
 exact⟨_,0,rfl,A.lt,by rw[dG,A.cell]; rfl,by rw[dG,A.cell]; rfl⟩
theorem insI1{c1 c2:Nat}(S:Its u u A1 T1)(T:Its u u A2 T2)(x1 x2:Int)(dt:Qb)(X:((T1.length+T2.length:Nat):Int)<=900000)(V:T1.length=k)(W:T2.length=m):
  ∃(v1:Value) (z1:World) (v2:Value) (z2:World) (a3:Qa) (c3:Nat) (z3:World),Qg ((Builtin.append_ #[23,23] 23 #[.slice u 0 0,.slice A1 k c1]).run prog ((u.alloc (.cells #[] 56)).drew)=.ok v1 z1)/\Qg ((Builtin.append_ #[23,23] 23 #[v1,.slice z1 1 1]).run prog (z1.alloc (.cells #[Yu x1,Yu x2,dt] 56))=.ok v2 z2)/\
   Qg ((Builtin.append_ #[23,23] 23 #[v2,.slice A2 m c2]).run prog (z2)=.ok (.slice a3 (T1++((⟨(x1,x2),dt⟩:Itm)::T2)).length c3) z3)/\PM u z1/\Qg (z3.ownsRow u 56 3 (.slice a3 (T1++((⟨(x1,x2),dt⟩:Itm)::T2)).length c3) (T1++((⟨(x1,x2),dt⟩:Itm)::T2)).length (dP (T1++((⟨(x1,x2),dt⟩:Itm)::T2)))/\(T1++((⟨(x1,x2),dt⟩:Itm)::T2)).length<=c3/\PM u z3):=by
 have R:(u.alloc (.cells #[] 56)).drew.ownsRow u 56 3 (.slice u 0 0) 0 []:=(XW (size:=3) u #[] 0 nr Zd rfl).drew;have G:PM u (u.alloc (.cells #[] 56)).drew:=(ba u _).drew;obtain⟨v1,z1,I,C,N,_⟩:=GH (u.alloc (.cells #[] 56)).drew (u:Nat) 23 _ [] R A1 T1 c1 (Its.ahead S G) Zt G.size;have E:PM u z1:=gM G R N nr;obtain⟨v2,z2,Q,D,O⟩:=Qq C (x1,x2) dt Zt E.size;have F:=C.alloc (.cells #[Yu x1,Yu x2,dt] 56);have K:PM u (z1.alloc (.cells #[Yu x1,Yu x2,dt] 56)):=E.alloc E.size _;rw[V] at I;have H:PM u z2:=gM K F O nr;obtain⟨v3,z3,J,B,P,_⟩:=GH z2 (u:Nat) 23 v2 _ D A2 T2 c2 (Its.ahead T H) Zt H.size;have L:PM u z3:=gM H D P nr;have U:([]++T1++[(⟨(x1,x2),dt⟩:Itm)])++T2=(T1++((⟨(x1,x2),dt⟩:Itm)::T2)):=Zs;rw[U] at B;obtain⟨a3,c3,rfl,M⟩:=aB B;rw[W] at J;exact⟨v1,z1,v2,z2,a3,c3,z3,Qf I,Qf Q,Qf J,E,Qf ⟨B,M,L⟩⟩
theorem insI2{c1 c2:Nat}(U:Its u u A1 T1)(V:Its u u A2 T2)(x1 x2:Int)(dt:Qb)(Z:((T1.length+T2.length:Nat):Int)<=900000)(X:T1.length=k)(Y:T2.length=m):
  ∃(v1:Value) (z1:World) (v2:Value) (z2:World) (a3:Qa) (c3:Nat) (z3:World),Qg ((Builtin.append_ #[23,23] 23 #[.slice u 0 0,.slice A1 k c1]).run prog (((u.alloc (.cells #[] 56)).alloc (.cells #[Yu x1,Yu x2,dt] 56)).drew)=.ok v1 z1)/\Qg ((Builtin.append_ #[23,23] 23 #[v1,.slice (some ⟨((u:Nat)+1),0,none⟩) 1 1]).run prog (z1)=.ok v2 z2)/\
   Qg ((Builtin.append_ #[23,23] 23 #[v2,.slice A2 m c2]).run prog (z2)=.ok (.slice a3 (T1++((⟨(x1,x2),dt⟩:Itm)::T2)).length c3) z3)/\PM u z1/\Qg (z3.ownsRow u 56 3 (.slice a3 (T1++((⟨(x1,x2),dt⟩:Itm)::T2)).length c3) (T1++((⟨(x1,x2),dt⟩:Itm)::T2)).length (dP (T1++((⟨(x1,x2),dt⟩:Itm)::T2)))/\(T1++((⟨(x1,x2),dt⟩:Itm)::T2)).length<=c3/\PM u z3):=by
 have T:(((u.alloc (.cells #[] 56)).alloc (.cells #[Yu x1,Yu x2,dt] 56)).drew).ownsRow u 56 3 (.slice u 0 0) 0 []:=by
  exact((XW (size:=3) u #[] 0 nr Zd rfl).alloc (.cells #[Yu x1,Yu x2,dt] 56)).drew
 have F:PM u (((u.alloc (.cells #[] 56)).alloc (.cells #[Yu x1,Yu x2,dt] 56)).drew):=((ba u _).alloc Zs _).drew;have Q:BK ((u:Nat)+1) #[Yu x1,Yu x2,dt] 56 (((u.alloc (.cells #[] 56)).alloc (.cells #[Yu x1,Yu x2,dt] 56)).drew):=BK.new2 u (.cells #[] 56) #[Yu x1,Yu x2,dt] 56;obtain⟨v1,z1,J,C,I,_⟩:=GH (((u.alloc (.cells #[] 56)).alloc (.cells #[Yu x1,Yu x2,dt] 56)).drew) (u:Nat) 23 _ [] T A1 T1 c1 (Its.ahead U F) Zt F.size;have G:PM u z1:=gM F T I nr;have R:BK ((u:Nat)+1) #[Yu x1,Yu x2,dt] 56 z1:=Q.grow1 I Zs;obtain⟨v2,z2,S,D,O,_⟩:=GH z1 (u:Nat) 23 v1 _ C (some ⟨((u:Nat)+1),0,none⟩) [(⟨(x1,x2),dt⟩:Itm)] 1 (Wj R) Zt G.size;have E:=C;have L:=G;rw[X] at J;have H:PM u z2:=gM L E O nr;obtain⟨v3,z3,K,B,P,_⟩:=GH z2 (u:Nat) 23 v2 _ D A2 T2 c2 (Its.ahead V H) Zt H.size;have M:PM u z3:=gM H D P nr;have W:([]++T1++[(⟨(x1,x2),dt⟩:Itm)])++T2=(T1++((⟨(x1,x2),dt⟩:Itm)::T2)):=Zs;rw[W] at B;obtain⟨a3,c3,rfl,N⟩:=aB B;rw[Y] at K;exact⟨v1,z1,v2,z2,a3,c3,z3,Qf J,Qf S,Qf K,G,Qf ⟨B,N,M⟩⟩
theorem insI3{c1 c2:Nat}(U:Its u u A1 T1)(V:Its u u A2 T2)(x1 x2:Int)(dt:Qb)(Z:((T1.length+T2.length:Nat):Int)<=900000)(X:T1.length=k)(Y:T2.length=m):
  ∃(v1:Value) (z1:World) (v2:Value) (z2:World) (a3:Qa) (c3:Nat) (z3:World),Qg ((Builtin.append_ #[23,23] 23 #[.slice (some ⟨((u:Nat)+1),0,none⟩) 0 0,.slice A1 k c1]).run prog (((u.alloc (.cells #[Yu x1,Yu x2,dt] 56)).alloc (.cells #[] 56)).drew)=.ok v1 z1)/\Qg ((Builtin.append_ #[23,23] 23 #[v1,.slice u 1 1]).run prog (z1)=.ok v2 z2)/\
   Qg ((Builtin.append_ #[23,23] 23 #[v2,.slice A2 m c2]).run prog (z2)=.ok (.slice a3 (T1++((⟨(x1,x2),dt⟩:Itm)::T2)).length c3) z3)/\PM u z1/\Qg (z3.ownsRow u 56 3 (.slice a3 (T1++((⟨(x1,x2),dt⟩:Itm)::T2)).length c3) (T1++((⟨(x1,x2),dt⟩:Itm)::T2)).length (dP (T1++((⟨(x1,x2),dt⟩:Itm)::T2)))/\(T1++((⟨(x1,x2),dt⟩:Itm)::T2)).length<=c3/\PM u z3):=by
 have T:(((u.alloc (.cells #[Yu x1,Yu x2,dt] 56)).alloc (.cells #[] 56)).drew).ownsRow u 56 3 (.slice (some ⟨((u:Nat)+1),0,none⟩) 0 0) 0 []:=by
  have:=(XW (size:=3) (base:=(u:Nat)) (e:=56) (u.alloc (.cells #[Yu x1,Yu x2,dt] 56)) #[] 0 Zs Zd rfl).drew
  rwa[XU] at this
 have F:PM u (((u.alloc (.cells #[Yu x1,Yu x2,dt] 56)).alloc (.cells #[] 56)).drew):=((ba u _).alloc Zs _).drew;have Q:BK u #[Yu x1,Yu x2,dt] 56 (((u.alloc (.cells #[Yu x1,Yu x2,dt] 56)).alloc (.cells #[] 56)).drew):=(BK.new u #[Yu x1,Yu x2,dt] 56).alloc (.cells #[] 56);obtain⟨v1,z1,J,C,I,_⟩:=GH (((u.alloc (.cells #[Yu x1,Yu x2,dt] 56)).alloc (.cells #[] 56)).drew) (u:Nat) 23 _ [] T A1 T1 c1 (Its.ahead U F) Zt F.size;have G:PM u z1:=gM F T I nr;have R:BK u #[Yu x1,Yu x2,dt] 56 z1:=Q.grow1 I Zs;obtain⟨v2,z2,S,D,O,_⟩:=GH z1 (u:Nat) 23 v1 _ C (some ⟨u,0,none⟩) [(⟨(x1,x2),dt⟩:Itm)] 1 (Wj R) Zt G.size;have E:=C;have L:=G;rw[X] at J;have H:PM u z2:=gM L E O nr;obtain⟨v3,z3,K,B,P,_⟩:=GH z2 (u:Nat) 23 v2 _ D A2 T2 c2 (Its.ahead V H) Zt H.size;have M:PM u z3:=gM H D P nr;have W:([]++T1++[(⟨(x1,x2),dt⟩:Itm)])++T2=(T1++((⟨(x1,x2),dt⟩:Itm)::T2)):=Zs;rw[W] at B;obtain⟨a3,c3,rfl,N⟩:=aB B;rw[Y] at K;exact⟨v1,z1,v2,z2,a3,c3,z3,Qf J,Qf S,Qf K,G,Qf ⟨B,N,M⟩⟩
theorem Xd{c1 c2:Nat}{T1 T2:Qd}(S:dE u u A1 T1)(T:dE u u A2 T2)(x1 x2:Int)(X:((T1.length+T2.length:Nat):Int)<=90000000)(V:T1.length=k)(W:T2.length=m):
  ∃(v1:Value) (z1:World) (v2:Value) (z2:World) (a3:Qa) (c3:Nat) (z3:World),Qg ((Builtin.append_ #[24,24] 24 #[.slice u 0 0,.slice A1 k c1]).run prog ((u.alloc (.cells #[] 54)).drew)=.ok v1 z1)/\Qg ((Builtin.append_ #[24,24] 24 #[v1,.slice z1 1 1]).run prog (z1.alloc (.cells #[Yu x1,Yu x2] 54))=.ok v2 z2)/\
   Qg ((Builtin.append_ #[24,24] 24 #[v2,.slice A2 m c2]).run prog (z2)=.ok (.slice a3 (T1++((x1,x2)::T2)).length c3) z3)/\PM u z1/\Qg (z3.ownsRow u 54 2 (.slice a3 (T1++((x1,x2)::T2)).length c3) (T1++((x1,x2)::T2)).length (aW (T1++((x1,x2)::T2)))/\(T1++((x1,x2)::T2)).length<=c3/\PM u z3):=by
 have R:(u.alloc (.cells #[] 54)).drew.ownsRow u 54 2 (.slice u 0 0) 0 []:=(XW (size:=2) u #[] 0 nr Zd rfl).drew;have G:PM u (u.alloc (.cells #[] 54)).drew:=(ba u _).drew;obtain⟨v1,z1,I,C,N,_⟩:=dM (u.alloc (.cells #[] 54)).drew (u:Nat) 24 _ [] R A1 T1 c1 (dE.ahead S G) Zt G.size;have E:PM u z1:=gM G R N nr;obtain⟨v2,z2,Q,D,O,_⟩:=gz C x1 x2 Zt E.size;have F:=C.alloc (.cells #[Yu x1,Yu x2] 54);have K:PM u (z1.alloc (.cells #[Yu x1,Yu x2] 54)):=E.alloc E.size _;rw[V] at I;have H:PM u z2:=gM K F O nr;obtain⟨v3,z3,J,B,P,_⟩:=dM z2 (u:Nat) 24 v2 _ D A2 T2 c2 (dE.ahead T H) Zt H.size;have L:PM u z3:=gM H D P nr;have U:([]++T1++[(x1,x2)])++T2=(T1++((x1,x2)::T2)):=Zs;rw[U] at B;obtain⟨a3,c3,rfl,M⟩:=aB B;rw[W] at J;exact⟨v1,z1,v2,z2,a3,c3,z3,Qf I,Qf Q,Qf J,E,Qf ⟨B,M,L⟩⟩
theorem Xc{c1 c2:Nat}{T1 T2:Qd}(U:dE u u A1 T1)(V:dE u u A2 T2)(x1 x2:Int)(Z:((T1.length+T2.length:Nat):Int)<=90000000)(X:T1.length=k)(Y:T2.length=m):
  ∃(v1:Value) (z1:World) (v2:Value) (z2:World) (a3:Qa) (c3:Nat) (z3:World),Qg ((Builtin.append_ #[24,24] 24 #[.slice u 0 0,.slice A1 k c1]).run prog (((u.alloc (.cells #[] 54)).alloc (.cells #[Yu x1,Yu x2] 54)).drew)=.ok v1 z1)/\Qg ((Builtin.append_ #[24,24] 24 #[v1,.slice (some ⟨((u:Nat)+1),0,none⟩) 1 1]).run prog (z1)=.ok v2 z2)/\
   Qg ((Builtin.append_ #[24,24] 24 #[v2,.slice A2 m c2]).run prog (z2)=.ok (.slice a3 (T1++((x1,x2)::T2)).length c3) z3)/\PM u z1/\Qg (z3.ownsRow u 54 2 (.slice a3 (T1++((x1,x2)::T2)).length c3) (T1++((x1,x2)::T2)).length (aW (T1++((x1,x2)::T2)))/\(T1++((x1,x2)::T2)).length<=c3/\PM u z3):=by
 have T:(((u.alloc (.cells #[] 54)).alloc (.cells #[Yu x1,Yu x2] 54)).drew).ownsRow u 54 2 (.slice u 0 0) 0 []:=by
  exact((XW (size:=2) u #[] 0 nr Zd rfl).alloc (.cells #[Yu x1,Yu x2] 54)).drew
 have F:PM u (((u.alloc (.cells #[] 54)).alloc (.cells #[Yu x1,Yu x2] 54)).drew):=((ba u _).alloc Zs _).drew;have Q:BK ((u:Nat)+1) #[Yu x1,Yu x2] 54 (((u.alloc (.cells #[] 54)).alloc (.cells #[Yu x1,Yu x2] 54)).drew):=BK.new2 u (.cells #[] 54) #[Yu x1,Yu x2] 54;obtain⟨v1,z1,J,C,I,_⟩:=dM (((u.alloc (.cells #[] 54)).alloc (.cells #[Yu x1,Yu x2] 54)).drew) (u:Nat) 24 _ [] T A1 T1 c1 (dE.ahead U F) Zt F.size;have G:PM u z1:=gM F T I nr;have R:BK ((u:Nat)+1) #[Yu x1,Yu x2] 54 z1:=Q.grow1 I Zs;obtain⟨v2,z2,S,D,O,_⟩:=dM z1 (u:Nat) 24 v1 _ C (some ⟨((u:Nat)+1),0,none⟩) [(x1,x2)] 1 (EC R) Zt G.size;have E:=C;have L:=G;rw[X] at J;have H:PM u z2:=gM L E O nr;obtain⟨v3,z3,K,B,P,_⟩:=dM z2 (u:Nat) 24 v2 _ D A2 T2 c2 (dE.ahead V H) Zt H.size;have M:PM u z3:=gM H D P nr;have W:([]++T1++[(x1,x2)])++T2=(T1++((x1,x2)::T2)):=Zs;rw[W] at B;obtain⟨a3,c3,rfl,N⟩:=aB B;rw[Y] at K;exact⟨v1,z1,v2,z2,a3,c3,z3,Qf J,Qf S,Qf K,G,Qf ⟨B,N,M⟩⟩
theorem Xb{c1 c2:Nat}{T1 T2:Qd}(U:dE u u A1 T1)(V:dE u u A2 T2)(x1 x2:Int)(Z:((T1.length+T2.length:Nat):Int)<=90000000)(X:T1.length=k)(Y:T2.length=m):
  ∃(v1:Value) (z1:World) (v2:Value) (z2:World) (a3:Qa) (c3:Nat) (z3:World),Qg ((Builtin.append_ #[24,24] 24 #[.slice (some ⟨((u:Nat)+1),0,none⟩) 0 0,.slice A1 k c1]).run prog (((u.alloc (.cells #[Yu x1,Yu x2] 54)).alloc (.cells #[] 54)).drew)=.ok v1 z1)/\Qg ((Builtin.append_ #[24,24] 24 #[v1,.slice u 1 1]).run prog (z1)=.ok v2 z2)/\
   Qg ((Builtin.append_ #[24,24] 24 #[v2,.slice A2 m c2]).run prog (z2)=.ok (.slice a3 (T1++((x1,x2)::T2)).length c3) z3)/\PM u z1/\Qg (z3.ownsRow u 54 2 (.slice a3 (T1++((x1,x2)::T2)).length c3) (T1++((x1,x2)::T2)).length (aW (T1++((x1,x2)::T2)))/\(T1++((x1,x2)::T2)).length<=c3/\PM u z3):=by
 have T:(((u.alloc (.cells #[Yu x1,Yu x2] 54)).alloc (.cells #[] 54)).drew).ownsRow u 54 2 (.slice (some ⟨((u:Nat)+1),0,none⟩) 0 0) 0 []:=by
  have:=(XW (size:=2) (base:=(u:Nat)) (e:=54) (u.alloc (.cells #[Yu x1,Yu x2] 54)) #[] 0 Zs Zd rfl).drew
  rwa[XU] at this
 have F:PM u (((u.alloc (.cells #[Yu x1,Yu x2] 54)).alloc (.cells #[] 54)).drew):=((ba u _).alloc Zs _).drew;have Q:BK u #[Yu x1,Yu x2] 54 (((u.alloc (.cells #[Yu x1,Yu x2] 54)).alloc (.cells #[] 54)).drew):=(BK.new u #[Yu x1,Yu x2] 54).alloc (.cells #[] 54);obtain⟨v1,z1,J,C,I,_⟩:=dM (((u.alloc (.cells #[Yu x1,Yu x2] 54)).alloc (.cells #[] 54)).drew) (u:Nat) 24 _ [] T A1 T1 c1 (dE.ahead U F) Zt F.size;have G:PM u z1:=gM F T I nr;have R:BK u #[Yu x1,Yu x2] 54 z1:=Q.grow1 I Zs;obtain⟨v2,z2,S,D,O,_⟩:=dM z1 (u:Nat) 24 v1 _ C (some ⟨u,0,none⟩) [(x1,x2)] 1 (EC R) Zt G.size;have E:=C;have L:=G;rw[X] at J;have H:PM u z2:=gM L E O nr;obtain⟨v3,z3,K,B,P,_⟩:=dM z2 (u:Nat) 24 v2 _ D A2 T2 c2 (dE.ahead V H) Zt H.size;have M:PM u z3:=gM H D P nr;have W:([]++T1++[(x1,x2)])++T2=(T1++((x1,x2)::T2)):=Zs;rw[W] at B;obtain⟨a3,c3,rfl,N⟩:=aB B;rw[Y] at K;exact⟨v1,z1,v2,z2,a3,c3,z3,Qf J,Qf S,Qf K,G,Qf ⟨B,N,M⟩⟩
theorem QN{α:Type}{p:α->Bool}:∀{l:List α} {k:Nat},k<=l.length->(∀j (h:j<l.length),j<k->p l[j]=true)->(∀h:k<l.length,p l[k]=false)->(l.takeWhile p).length=k
 | [],k,A,_,_=>by simp at A; subst A; rfl
 | x::l,0,_,_,B=>by
  have:=B Zs;simp only[aS] at this;rw[List.takeWhile_cons_of_neg (by simp[this])]; rfl
 | x::l,k+1,A,lo,B=>by
  have C:=lo 0 Zs Zo;simp only[aS] at C;rw[List.takeWhile_cons_of_pos C,az,QN (k:=k) (Zu A) (fun j E D=>by
   have:=lo (j+1) Zt Zo;simpa using this) (fun h=>by
   have:=B Zt;simpa using this)]
theorem at_of(E:Asc xs){d:Int×Int}(F:k<=xs.length)(lo:∀j (h:j<xs.length),j<k->eO xs[j].d d<0)(B:∀h:k<xs.length,0<=eO xs[k].d d):At xs d k:=by
 refine⟨F,lo,fun j D G=>?_⟩;have A:k<xs.length:=Zo;rcases gB k j with C | C
 ·exact ve (by
   have:=E k j A D C;have H:=B A;have g1:=bF xs[k].d xs[j].d;have g2:=bF xs[k].d d;exact this) (B A)
 ·obtain rfl:j=k:=Zo;exact B D
theorem rinsert_any(a:Qa)(xs:List Itm)(c:Nat)(x:Itm)(w:World)(hx:Its w w a xs)(ha:Asc xs)(hc:xs.length<=c)(hn:(xs.length:Int)<=100000):
  Qh 209 #[.slice a xs.length c,x.val] w (J7 w a xs (Ag xs x)):=by
 obtain⟨⟨x1,x2⟩,dt⟩:=x;simp only[Itm.val];have HF:=Qf (fun W (hW:PM w W)=>Ht a xs c x1 x2 W (hx.ahead hW) Zo);obtain⟨n,C3⟩:=Qe xs.length;have Q:=Qf C3;rw[<-C3] at HF hn hc ⊢;obtain⟨X,HA⟩:=Yj hx ha;clear C3 hx ha;obtain⟨w0,A5⟩:=Qe (w.alloc (.cells #[Yu x1,Yu x2,dt] 56));have C7:Qg (BK w #[Yu x1,Yu x2,dt] 56 w0):=Qf (A5▸BK.new _ _ _);have A6:Qg (PM w w0):=Qf (A5▸ba w _);have B8:=Qf (HF.o w0 A6.o);rw[A5] at B8;have C9:=Qf A5;clear A5 HF;go_enter func209,ntmps209;go_wp2_with fail;refine B8.o.mono ?_;rintro e u ⟨m0,rfl,hf,hb⟩;rw[<-C9.o] at hb;obtain⟨T,A7⟩:=Yj (XT A6.o hb) (C7.o.below hb);have E7:=A7.o.lt;have HH:=Qf (hf.asc HA.o);clear hf hb B8 C9 A6 C7;rcases HH.o with⟨k,hk,hm,D1,hh,E2⟩ | ⟨hm,hh⟩
 ·subst hm;obtain⟨F7,D9,hR⟩:=Ei (x:=⟨(x1,x2),dt⟩) D1 hh;obtain⟨p0,o0,rfl,F9,q0,q1,q2⟩:=(X.o.ahead T.o) k hk;have E3:(k:Int)<(n:Int):=Zh Q.o;clear D1 hh E2 HH;clear D9;generalize xs[k]=it at hR q0 q1 q2;obtain⟨⟨y1,y2⟩,yd⟩:=it;simp only at hR q0 q1 q2;obtain⟨e0,e1,e2⟩:=BK.c3 A7.o;cases he:(yd==dt) with
  | true=>
   have HR:Qg (Ag xs ⟨(x1,x2),dt⟩=(xs,0)):=Qf (by rw[hR,if_pos (Zu he)]);clear hR;go_wp2_with fail;go_quiet (fail);go_wp2;go_ret2;rw[HR.o];refine⟨_,c,by rw[<-Q.o]; rfl,X.o.ahead ?_,Q.o▸hc,.inl ⟨rfl,rfl⟩,?_⟩
   ·exact below_drewN T.o _
   ·exact below_drewN T.o _
  | false=>
   have HR:Qg (Ag xs ⟨(x1,x2),dt⟩=([],16)):=Qf (by rw[hR,if_neg (Zu he)]);clear hR;go_wp2_with fail;go_quiet (fail);go_wp2;go_ret2;rw[HR.o];exact⟨none,0,rfl,Its.nil _ _ _,nr,.inr (fun ad h=>by cases h),below_drewN T.o _⟩
 ·subst hm;have A9:=Qf hh;clear hh HH;go_wp2;go_loopw [7] (fun iv wr=>∃k:Nat,k<=n/\iv=Yi k/\Qg (PM w wr)/\Qg (BK w #[Yu x1,Yu x2,dt] 56 wr)/\Qg (∀j (h:j<xs.length),j<k->eO xs[j].d (x1,x2)<0)) (fun iv _=>n-(intOf iv).toNat)
  case atStart=>exact⟨0,Zo,rfl,T,A7,Qf (fun j h hj=>Zo)⟩
  case round=>
   clear T A7 E7;obtain⟨k,hk,rfl,HB,HK,V⟩:=hrel;have G0:=HK.out.lt;by_cases E4:k<n
   ·have h1:k<xs.length:=Q.o▸E4;obtain⟨b0,o0,rfl,F5,q0,q1,q2⟩:=(X.o.ahead HB.out) k h1;have S:=Qf (fun(h:0<=eO xs[k].d (x1,x2))=>at_of HA.o Zo V.out (fun _=>h));have I:Qg (eO xs[k].d (x1,x2)<0->∀j (h:j<xs.length),j<k+1->eO xs[j].d (x1,x2)<0):=Qf (fun hc j h hj=>by
     rcases gB j k with h2 | h2
     ·exact V.out j h h2
     ·obtain rfl:j=k:=Zo;exact hc)
    generalize xs[k]=it at q0 q1 q2 S I;obtain⟨⟨y1,y2⟩,yd⟩:=it;simp only at q0 q1 q2 S I;have B7:=Qf (fun W=>FB y1 y2 x1 x2 W);generalize eO (y1,y2) (x1,x2)=cv at B7 S I;have U:=Qf (fun d os=>YJ (w:=wr) (d:=d) (os:=os) (B7.o _));obtain⟨e0,e1,e2⟩:=BK.c3 HK.out;have f0:=YG q0;have f1:=YG q1;have g0:=YG e0;have g1:=YG e1;have B6:decide ((k:Int)<(n:Int))=true:=Zt;have D7:decide (k<n)=true:=Zt;have E3:(k:Int)<(n:Int):=Zo;clear B7;by_cases C2:cv<0
    ·have dc:decide (cv<0)=true:=Zu C2;have C8:=Qf (I.o C2);clear V I S;go_wp2_with fail;refine YH Zk Zk ?_
     repeat (any_goals (first | go_big_quiet_step (with_reducible exact U.o _ _) | quiet_step (with_reducible exact U.o _ _)))
     refine YI ?_;intro w2 P;have E:=aX P;obtain⟨B,R⟩:=Yj (XT HB.out E) (HK.out.below E);clear P E U f0 f1 g0 g1;go_wp2;go_roundw
     case rel=>exact⟨k+1,Zo,Zg,B,R,C8⟩
     case measure=>exact Yr
    ·have dc:decide (cv<0)=false:=Zu C2;have A3:=Qf (S.o Zo);have HR:=Qf (Af (x:=⟨(x1,x2),dt⟩) A3.o (A9.o k));clear V I S;go_wp2_with fail;refine YH Zk Zk ?_
     repeat (any_goals (first | go_big_quiet_step (with_reducible exact U.o _ _) | quiet_step (with_reducible exact U.o _ _)))
     refine YI ?_;intro w2 P;have E:=aX P;obtain⟨B,R⟩:=Yj (XT HB.out E) (HK.out.below E);clear P E U f0 f1 g0 g1 q0 q1 q2 e0 e1 e2;obtain⟨a,D0⟩:=Qe (some (⟨b0,o0,none⟩:Addr));rw[<-D0] at X ⊢;clear D0;have HX:=X;obtain⟨A1,c1,M,E5⟩:=IQ a n c k Zo;obtain⟨m,hm⟩:=Qe (n-k);obtain⟨A2,c2,N,E6⟩:=IP a n c k m hk hc hm;have C:=(HX.out).ahead B.o;have F:(xs.take k).length=k:=by rw[aA]; have:=Q.o; omega
     have G:(xs.drop k).length=m:=by rw[ah]; have:=Q.o; omega
     have O:(((xs.take k).length+(xs.drop k).length:Nat):Int)<=900000:=by rw[F,G]; omega
     obtain⟨D5,z1,D6,z2,za,zc,z3,B0,B1,Y,A4,J⟩:=insI1 (c1:=c1) (c2:=c2) (M _ _ _ C) (N _ _ _ Q.o.symm C) x1 x2 dt O F G;obtain⟨D3,y1,D4,y2,ya,yc,y3,B2,B3,Z,E,K⟩:=insI2 (c1:=c1) (c2:=c2) (M _ _ _ C) (N _ _ _ Q.o.symm C) x1 x2 dt O F G;obtain⟨C6,t1,D2,t2,ta,tc,t3,B4,B5,A0,C1,L⟩:=insI3 (c1:=c1) (c2:=c2) (M _ _ _ C) (N _ _ _ Q.o.symm C) x1 x2 dt O F G;have B9:=Qf (R.o.below A4);obtain⟨p0,p1,p2⟩:=BK.c3 B9.o;obtain⟨e0,e1,e2⟩:=BK.c3 R.o;have C0:=fun o=>bP e0 o
     have C4:=fun o=>bP e1 o
     have C5:=fun o=>bP e2 o
     obtain⟨A8,H⟩:=Qe ((xs.take k++((⟨(x1,x2),dt⟩:Itm)::xs.drop k)).length);rw[<-H] at Y Z A0;have D:=Qf H;have E0:(k:Int)<=(c:Int):=Zo;have E1:(k:Int)<=(n:Int):=Zo;clear H F G O C M N A4 E C1 hm;go_wp2_with fail;go_region_law
      (first
      | ((with_reducible refine pW ((w2.alloc (.cells #[] 56)).drew) ?_); refine bN Zr (.tmp 41) (.tmp 44) _ _ Zr _ _ Zr Zr _ _ B0.out ?_)
      | ((with_reducible refine pW (((w2.alloc (.cells #[] 56)).alloc (.cells #[.int .u64 x1,.int .u64 x2,.string ⟨dt.toArray⟩] 56)).drew) ?_); refine bN Zr (.tmp 41) (.tmp 44) _ _ Zr _ _ Zr Zr _ _ B2.out ?_)
      | ((with_reducible refine pW (((w2.alloc (.cells #[.int .u64 x1,.int .u64 x2,.string ⟨dt.toArray⟩] 56)).alloc (.cells #[] 56)).drew) ?_); refine bN Zr (.tmp 41) (.tmp 44) _ _ Zr _ _ Zr Zr _ _ B4.out ?_)
      | ((with_reducible refine pW (z1.alloc (.cells #[.int .u64 x1,.int .u64 x2,.string ⟨dt.toArray⟩] 56)) ?_); refine bN Zr (.tmp 45) (.tmp 47) _ _ Zr _ _ Zr Zr _ _ B1.out ?_)
      | ((with_reducible refine pW y1 ?_); refine bN Zr (.tmp 45) (.tmp 47) _ _ Zr _ _ Zr Zr _ _ B3.out ?_)
      | ((with_reducible refine pW t1 ?_); refine bN Zr (.tmp 45) (.tmp 47) _ _ Zr _ _ Zr Zr _ _ B5.out ?_)
      | fail)
     all_goals
      go_wp2_with (at_builtin; first | (refine Lib.wpList_append_run _ rfl _ _ _ _ rfl _ _ rfl rfl _ _ Y.out ?_) | (refine Lib.wpList_append_run _ rfl _ _ _ _ rfl _ _ rfl rfl _ _ Z.out ?_) | (refine Lib.wpList_append_run _ rfl _ _ _ _ rfl _ _ rfl rfl _ _ A0.out ?_));go_ret2;rw[HR.o]
      first
      | exact⟨za,zc,by first | (rw[D.o]; done) | (rw[D.o]; rfl),Ct J.out.1,J.out.2.1,.inr (fun ad h=>by have:=Nf J.out.1 ad h; have:=B.o.size; omega),B.o.trans (J.out.2.2.mono B.o.size)⟩
      | exact⟨ya,yc,by first | (rw[D.o]; done) | (rw[D.o]; rfl),Ct K.out.1,K.out.2.1,.inr (fun ad h=>by have:=Nf K.out.1 ad h; have:=B.o.size; omega),B.o.trans (K.out.2.2.mono B.o.size)⟩
      | exact⟨ta,tc,by first | (rw[D.o]; done) | (rw[D.o]; rfl),Ct L.out.1,L.out.2.1,.inr (fun ad h=>by have:=Nf L.out.1 ad h; have:=B.o.size; omega),B.o.trans (L.out.2.2.mono B.o.size)⟩
   ·obtain rfl:k=n:=Zo;have A3:=Qf (at_of HA.o (Q.o▸hk) V.out (fun h=>Zh Q.o));have HR:=Qf (Af (x:=⟨(x1,x2),dt⟩) A3.o (A9.o k));have B6:decide ((k:Int)<(k:Int))=false:=Zs;clear V;go_wp2_with fail;refine YH Zk Zk ?_
    repeat (any_goals (first | go_big_quiet_step (fail) | quiet_step (fail)))
    refine YI ?_;intro w2 P;have E:=aX P;obtain⟨B,R⟩:=Yj (XT HB.out E) (HK.out.below E);clear P E;have HX:=X;obtain⟨A1,c1,M,E5⟩:=IQ a k c k Zo;obtain⟨m,hm⟩:=Qe (k-k);obtain⟨A2,c2,N,E6⟩:=IP a k c k m hk hc hm;have C:=(HX.out).ahead B.o;have F:(xs.take k).length=k:=by rw[aA]; have:=Q.o; omega
    have G:(xs.drop k).length=m:=by rw[ah]; have:=Q.o; omega
    have O:(((xs.take k).length+(xs.drop k).length:Nat):Int)<=900000:=by rw[F,G]; omega
    obtain⟨D5,z1,D6,z2,za,zc,z3,B0,B1,Y,A4,J⟩:=insI1 (c1:=c1) (c2:=c2) (M _ _ _ C) (N _ _ _ Q.o.symm C) x1 x2 dt O F G;obtain⟨D3,y1,D4,y2,ya,yc,y3,B2,B3,Z,E,K⟩:=insI2 (c1:=c1) (c2:=c2) (M _ _ _ C) (N _ _ _ Q.o.symm C) x1 x2 dt O F G;obtain⟨C6,t1,D2,t2,ta,tc,t3,B4,B5,A0,C1,L⟩:=insI3 (c1:=c1) (c2:=c2) (M _ _ _ C) (N _ _ _ Q.o.symm C) x1 x2 dt O F G;have B9:=Qf (R.o.below A4);obtain⟨p0,p1,p2⟩:=BK.c3 B9.o;obtain⟨e0,e1,e2⟩:=BK.c3 R.o;have C0:=fun o=>bP e0 o
    have C4:=fun o=>bP e1 o
    have C5:=fun o=>bP e2 o
    obtain⟨A8,H⟩:=Qe ((xs.take k++((⟨(x1,x2),dt⟩:Itm)::xs.drop k)).length);rw[<-H] at Y Z A0;have D:=Qf H;have E0:(k:Int)<=(c:Int):=Zo;have E1:(k:Int)<=(k:Int):=Zo;clear H F G O C M N A4 E C1 hm;go_wp2_with fail;go_region_law
     (first
     | ((with_reducible refine pW ((w2.alloc (.cells #[] 56)).drew) ?_); refine bN Zr (.tmp 41) (.tmp 44) _ _ Zr _ _ Zr Zr _ _ B0.out ?_)
     | ((with_reducible refine pW (((w2.alloc (.cells #[] 56)).alloc (.cells #[.int .u64 x1,.int .u64 x2,.string ⟨dt.toArray⟩] 56)).drew) ?_); refine bN Zr (.tmp 41) (.tmp 44) _ _ Zr _ _ Zr Zr _ _ B2.out ?_)
     | ((with_reducible refine pW (((w2.alloc (.cells #[.int .u64 x1,.int .u64 x2,.string ⟨dt.toArray⟩] 56)).alloc (.cells #[] 56)).drew) ?_); refine bN Zr (.tmp 41) (.tmp 44) _ _ Zr _ _ Zr Zr _ _ B4.out ?_)
     | ((with_reducible refine pW (z1.alloc (.cells #[.int .u64 x1,.int .u64 x2,.string ⟨dt.toArray⟩] 56)) ?_); refine bN Zr (.tmp 45) (.tmp 47) _ _ Zr _ _ Zr Zr _ _ B1.out ?_)
     | ((with_reducible refine pW y1 ?_); refine bN Zr (.tmp 45) (.tmp 47) _ _ Zr _ _ Zr Zr _ _ B3.out ?_)
     | ((with_reducible refine pW t1 ?_); refine bN Zr (.tmp 45) (.tmp 47) _ _ Zr _ _ Zr Zr _ _ B5.out ?_)
     | fail)
    all_goals
     go_wp2_with (at_builtin; first | (refine Lib.wpList_append_run _ rfl _ _ _ _ rfl _ _ rfl rfl _ _ Y.out ?_) | (refine Lib.wpList_append_run _ rfl _ _ _ _ rfl _ _ rfl rfl _ _ Z.out ?_) | (refine Lib.wpList_append_run _ rfl _ _ _ _ rfl _ _ rfl rfl _ _ A0.out ?_));go_ret2;rw[HR.o]
     first
     | exact⟨za,zc,by first | (rw[D.o]; done) | (rw[D.o]; rfl),Ct J.out.1,J.out.2.1,.inr (fun ad h=>by have:=Nf J.out.1 ad h; have:=B.o.size; omega),B.o.trans (J.out.2.2.mono B.o.size)⟩
     | exact⟨ya,yc,by first | (rw[D.o]; done) | (rw[D.o]; rfl),Ct K.out.1,K.out.2.1,.inr (fun ad h=>by have:=Nf K.out.1 ad h; have:=B.o.size; omega),B.o.trans (K.out.2.2.mono B.o.size)⟩
     | exact⟨ta,tc,by first | (rw[D.o]; done) | (rw[D.o]; rfl),Ct L.out.1,L.out.2.1,.inr (fun ad h=>by have:=Nf L.out.1 ad h; have:=B.o.size; omega),B.o.trans (L.out.2.2.mono B.o.size)⟩
theorem dE.drop(h:dE B W a ds)(k:Nat):dE B W (a.map (·.add (k*2))) (ds.drop k):=by
 intro i F;have A:k+i<ds.length:=by simp at F; omega
 obtain⟨b,G,rfl,C,D,E⟩:=h (k+i) A;refine⟨b,G+k*2,by simp[XD],C,?_⟩;rw[eF];rw[show G+k*2+i*2=G+(k+i)*2 by omega];exact⟨D,E⟩
theorem Tg(a:Qa)(n c f m:Nat)(h:f<=n)(E:n<=c)(C:m=n-f):∃(A1:Qa) (c1:Nat),(∀B W (ds:Qd),ds.length=n->dE B W a ds->dE B W A1 (ds.drop f))/\∀W,(Instr.slice 24 (.slice a n c) (some (Yi f)) none none).run prog W=.ok (.slice A1 m c1) W:=by
 refine⟨if c=f then a else a.map (·.add (f*2)),c-f,fun B W ps F D=>?_,fun W=>?_⟩
 ·split
  ·rw[dV Zo]; exact dE.nil _ _ _
  ·exact D.drop f
 ·rw[run_slice_l (P:=prog) W 24 a n c Zk .i64 f Zo Zo,DJ];subst C;simp[sliced,Result.andThen]
def Mm(l:Qd)(d:Int×Int):Nat:=(l.takeWhile fun y=>decide (eO y d<0)).length
def mE(l:Qd)(d:Int×Int):Qd:=if l[Mm l d]? = some d then l else l.take (Mm l d)++(d::l.drop (Mm l d))
def GotW(w:World)(pa:Qa)(L:Qd)(e:Ending)(w':World):Prop:=∃a c,e=.returned (.slice a L.length c)/\dE w' w' a L/\L.length<=c/\(a=pa\/∀ad,a=some ad->(w:Nat)<=ad.block)/\PM w w'
theorem UU{d:Int×Int}(C:k<=l.length)(lo:∀j (h:j<l.length),j<k->eO l[j] d<0)(A:∀h:k<l.length,0<=eO l[k] d):Mm l d=k:=
 QN C (fun j h B=>by simpa using lo j h B) (fun h=>by have:=A h; simp; omega)
theorem SI(a:Qa)(xs:Qd)(c:Nat)(x1 x2:Int)(w:World)(hx:dE w w a xs)(hc:xs.length<=c)(hn:(xs.length:Int)<=10000000):
  Qh 123 #[.slice a xs.length c,.agg #[Yu x1,Yu x2]] w (GotW w a (mE xs (x1,x2))):=by
 obtain⟨n,C2⟩:=Qe xs.length;have S:=Qf C2;rw[<-C2] at hn hc ⊢;have X:=Qf hx;obtain⟨R,hR⟩:=Qe (mE xs (x1,x2));rw[<-hR];unfold mE at hR;have C9:=Qf hR;clear C2 hx hR;obtain⟨w0,A8⟩:=Qe (w.alloc (.cells #[Yu x1,Yu x2] 54));have C6:Qg (BK w #[Yu x1,Yu x2] 54 w0):=Qf (A8▸BK.new _ _ _);have C4:Qg (PM w w0):=Qf (A8▸ba w _);have D0:=Qf A8;clear A8;go_enter func123,ntmps123;go_wp2_with fail;rw[<-D0.o];clear D0;go_loopw [5] (fun iv wr=>∃k:Nat,k<=n/\iv=Yi k/\Qg (PM w wr)/\Qg (BK w #[Yu x1,Yu x2] 54 wr)/\Qg (∀j (h:j<xs.length),j<k->eO xs[j] (x1,x2)<0)) (fun iv _=>n-(intOf iv).toNat)
 case atStart=>exact⟨0,Zo,rfl,C4,C6,Qf (fun j h hj=>Zo)⟩
 case round=>
  clear C4 C6;obtain⟨k,hk,rfl,HB,HK,V⟩:=hrel;have F2:=HK.out.lt;by_cases E0:k<n
  ·have h1:k<xs.length:=S.o▸E0;obtain⟨b0,o0,A5,E7,q0,q1⟩:=(X.o.ahead HB.out) k h1;have D3:=Qf A5;subst A5;have K:=Qf (fun(h:0<=eO xs[k] (x1,x2))=>UU (d:=(x1,x2)) Zo V.out (fun _=>h));have J:Qg (eO xs[k] (x1,x2)<0->∀j (h:j<xs.length),j<k+1->eO xs[j] (x1,x2)<0):=Qf (fun hc j h hj=>by
    rcases gB j k with h2 | h2
    ·exact V.out j h h2
    ·obtain rfl:j=k:=Zo;exact hc)
   have B8:Qg (xs[k]? = some xs[k]):=Qf (XH h1);generalize hit:xs[k]=it at q0 q1 K J B8;have D4:=Qf hit;clear hit;obtain⟨y1,y2⟩:=it;simp only at q0 q1 K J;have B7:=Qf (fun W=>FB y1 y2 x1 x2 W);generalize eO (y1,y2) (x1,x2)=cv at B7 K J;have U:=Qf (fun d os=>YJ (w:=wr) (d:=d) (os:=os) (B7.o _));obtain⟨e0,e1⟩:=BK.c2 HK.out;have f0:=YG q0;have f1:=YG q1;have g0:=YG e0;have g1:=YG e1;have B6:decide ((k:Int)<(n:Int))=true:=Zt;have E4:decide (k<n)=true:=Zt;have E9:(k:Int)<(n:Int):=Zo;clear B7;by_cases C1:cv<0
   ·have dc:decide (cv<0)=true:=Zu C1;have C7:=Qf (J.o C1);clear V J K;go_wp2_with fail;refine YH Zk Zk ?_
    repeat (any_goals (first | go_big_quiet_step (with_reducible exact U.o _ _) | quiet_step (with_reducible exact U.o _ _)))
    refine YI ?_;intro w2 T;have E:=aX T;obtain⟨B,F⟩:=Yj (XT HB.out E) (HK.out.below E);clear T E U f0 f1 g0 g1;go_wp2;go_roundw
    case rel=>exact⟨k+1,Zo,Zg,B,F,C7⟩
    case measure=>exact Yr
   ·have dc:decide (cv<0)=false:=Zu C1;have A7:Qg (R=if some (y1,y2)=some (x1,x2) then xs else xs.take k++((x1,x2)::xs.drop k)):=Qf (by rw[C9.o,K.o Zo,B8.o]);clear V J K B8;go_wp2_with fail;refine YH Zk Zk ?_
    repeat (any_goals (first | go_big_quiet_step (with_reducible exact U.o _ _) | quiet_step (with_reducible exact U.o _ _)))
    refine YI ?_;intro w2 T;have E:=aX T;obtain⟨B,F⟩:=Yj (XT HB.out E) (HK.out.below E);clear T E U f0 f1 g0 g1 q0 q1 e0 e1;obtain⟨_,_,E1,_,q0,q1⟩:=(X.o.ahead B.o) k h1;cases E1;rw[D4.o] at q0 q1;simp only at q0 q1;obtain⟨e0,e1⟩:=BK.c2 F.o;have hq:=fun W=>jD y1 y2 x1 x2 W
    cases hz:(y1==x1&&y2==x2) with
    | true=>
     rw[hz] at hq;have HR:Qg (R=xs):=Qf (by
      simp only[XF,XS] at hz;rw[A7.o,if_pos (by rw[hz.1,hz.2])])
     clear hz A7;go_wp2_with fail;go_quiet (fail);go_wp2_with fail;go_ret;rw[HR.o];exact⟨_,c,by first | (rw[<-S.o]; done) | (rw[<-S.o]; rfl),X.o.ahead (below_drewN B.o _),S.o▸hc,.inl rfl,below_drewN B.o _⟩
    | false=>
     rw[hz] at hq;have HR:Qg (R=xs.take k++((x1,x2)::xs.drop k)):=Qf (by
      rw[A7.o,if_neg];intro h;simp only[XY,XC] at h;simp[h.1,h.2] at hz)
     clear hz A7;go_wp2_with fail;go_quiet (fail);obtain⟨A3,A4⟩:=Yj (below_drewN B.o nq) (F.o.below (below_drewN (bf _) nq));clear B F e0 e1 q0 q1;generalize w2.drewN nq=w3 at A3 A4 ⊢;have B:=A3;have F:=A4;obtain⟨a,A5⟩:=Qe (some (⟨b0,o0,none⟩:Addr));rw[<-A5] at X ⊢;clear A5 D3;have HX:=X;obtain⟨A1,c1,O,E2⟩:=Js a n c k Zo;obtain⟨m,hm⟩:=Qe (n-k);obtain⟨A2,c2,P,E3⟩:=Tg a n c k m hk hc hm;have C:=(HX.out).ahead B.o;have G:(xs.take k).length=k:=by rw[aA]; have:=S.o; omega
     have H:(xs.drop k).length=m:=by rw[ah]; have:=S.o; omega
     have Q:(((xs.take k).length+(xs.drop k).length:Nat):Int)<=90000000:=by rw[G,H]; omega
     obtain⟨D6,z1,D7,z2,za,zc,z3,B0,B1,Y,A6,L⟩:=Xd (c1:=c1) (c2:=c2) (O _ _ _ C) (P _ _ _ S.o.symm C) x1 x2 Q G H;obtain⟨D2,y1,D5,y2,ya,yc,y3,B2,B3,Z,E,M⟩:=Xc (c1:=c1) (c2:=c2) (O _ _ _ C) (P _ _ _ S.o.symm C) x1 x2 Q G H;obtain⟨C8,t1,D1,t2,ta,tc,t3,B4,B5,A0,C0,N⟩:=Xb (c1:=c1) (c2:=c2) (O _ _ _ C) (P _ _ _ S.o.symm C) x1 x2 Q G H;have B9:=Qf (F.o.below A6);obtain⟨p0,p1⟩:=BK.c2 B9.o;obtain⟨e0,e1⟩:=BK.c2 F.o;have C3:=fun o=>bP e0 o
     have C5:=fun o=>bP e1 o
     obtain⟨A9,I⟩:=Qe ((xs.take k++((x1,x2)::xs.drop k)).length);rw[<-I] at Y Z A0;have D:=Qf I;have D8:(k:Int)<=(c:Int):=Zo;have D9:(k:Int)<=(n:Int):=Zo;clear I G H Q C O P A6 E C0 hm;go_wp2_with fail;go_region_law
      (first
      | ((with_reducible refine pW ((w3.alloc (.cells #[] 54)).drew) ?_); refine bN Zr (.tmp 35) (.tmp 38) _ _ Zr _ _ Zr Zr _ _ B0.out ?_)
      | ((with_reducible refine pW (((w3.alloc (.cells #[] 54)).alloc (.cells #[.int .u64 x1,.int .u64 x2] 54)).drew) ?_); refine bN Zr (.tmp 35) (.tmp 38) _ _ Zr _ _ Zr Zr _ _ B2.out ?_)
      | ((with_reducible refine pW (((w3.alloc (.cells #[.int .u64 x1,.int .u64 x2] 54)).alloc (.cells #[] 54)).drew) ?_); refine bN Zr (.tmp 35) (.tmp 38) _ _ Zr _ _ Zr Zr _ _ B4.out ?_)
      | ((with_reducible refine pW (z1.alloc (.cells #[.int .u64 x1,.int .u64 x2] 54)) ?_); refine bN Zr (.tmp 39) (.tmp 41) _ _ Zr _ _ Zr Zr _ _ B1.out ?_)
      | ((with_reducible refine pW y1 ?_); refine bN Zr (.tmp 39) (.tmp 41) _ _ Zr _ _ Zr Zr _ _ B3.out ?_)
      | ((with_reducible refine pW t1 ?_); refine bN Zr (.tmp 39) (.tmp 41) _ _ Zr _ _ Zr Zr _ _ B5.out ?_)
      | fail)
     all_goals
      go_wp2_with (at_builtin; first | (refine Lib.wpList_append_run _ rfl _ _ _ _ rfl _ _ rfl rfl _ _ Y.out ?_) | (refine Lib.wpList_append_run _ rfl _ _ _ _ rfl _ _ rfl rfl _ _ Z.out ?_) | (refine Lib.wpList_append_run _ rfl _ _ _ _ rfl _ _ rfl rfl _ _ A0.out ?_));go_ret;rw[HR.o]
      first
      | exact⟨za,zc,by first | (rw[D.o]; done) | (rw[D.o]; rfl),iy L.out.1,L.out.2.1,.inr (fun ad h=>aC B.o.size (Nf L.out.1 ad h)),B.o.trans (L.out.2.2.mono B.o.size)⟩
      | exact⟨ya,yc,by first | (rw[D.o]; done) | (rw[D.o]; rfl),iy M.out.1,M.out.2.1,.inr (fun ad h=>aC B.o.size (Nf M.out.1 ad h)),B.o.trans (M.out.2.2.mono B.o.size)⟩
      | exact⟨ta,tc,by first | (rw[D.o]; done) | (rw[D.o]; rfl),iy N.out.1,N.out.2.1,.inr (fun ad h=>aC B.o.size (Nf N.out.1 ad h)),B.o.trans (N.out.2.2.mono B.o.size)⟩
  ·obtain rfl:k=n:=Zo;have HR:Qg (R=xs.take k++((x1,x2)::xs.drop k)):=Qf (by
    have hp:=UU (d:=(x1,x2)) (S.o▸hk) V.out (fun h=>Zh S.o);rw[C9.o,hp,if_neg];rw[List.getElem?_eq_none (by rw[<-S.o]; omega)];simp)
   have B6:decide ((k:Int)<(k:Int))=false:=Zs;clear V;go_wp2_with fail;refine YH Zk Zk ?_
   repeat (any_goals (first | go_big_quiet_step (fail) | quiet_step (fail)))
   refine YI ?_;intro w2 T;have E:=aX T;obtain⟨B,F⟩:=Yj (XT HB.out E) (HK.out.below E);clear T E;go_wp2_with fail;go_quiet (fail);obtain⟨A3,A4⟩:=Yj (below_drewN B.o nq) (F.o.below (below_drewN (bf _) nq));clear B F;generalize w2.drewN nq=w3 at A3 A4 ⊢;have B:=A3;have F:=A4;have HX:=X;obtain⟨A1,c1,O,E2⟩:=Js a k c k Zo;obtain⟨m,hm⟩:=Qe (k-k);obtain⟨A2,c2,P,E3⟩:=Tg a k c k m hk hc hm;have C:=(HX.out).ahead B.o;have G:(xs.take k).length=k:=by rw[aA]; have:=S.o; omega
   have H:(xs.drop k).length=m:=by rw[ah]; have:=S.o; omega
   have Q:(((xs.take k).length+(xs.drop k).length:Nat):Int)<=90000000:=by rw[G,H]; omega
   obtain⟨D6,z1,D7,z2,za,zc,z3,B0,B1,Y,A6,L⟩:=Xd (c1:=c1) (c2:=c2) (O _ _ _ C) (P _ _ _ S.o.symm C) x1 x2 Q G H;obtain⟨D2,y1,D5,y2,ya,yc,y3,B2,B3,Z,E,M⟩:=Xc (c1:=c1) (c2:=c2) (O _ _ _ C) (P _ _ _ S.o.symm C) x1 x2 Q G H;obtain⟨C8,t1,D1,t2,ta,tc,t3,B4,B5,A0,C0,N⟩:=Xb (c1:=c1) (c2:=c2) (O _ _ _ C) (P _ _ _ S.o.symm C) x1 x2 Q G H;have B9:=Qf (F.o.below A6);obtain⟨p0,p1⟩:=BK.c2 B9.o;obtain⟨e0,e1⟩:=BK.c2 F.o;have C3:=fun o=>bP e0 o
   have C5:=fun o=>bP e1 o
   obtain⟨A9,I⟩:=Qe ((xs.take k++((x1,x2)::xs.drop k)).length);rw[<-I] at Y Z A0;have D:=Qf I;have D8:(k:Int)<=(c:Int):=Zo;have D9:(k:Int)<=(k:Int):=Zo;clear I G H Q C O P A6 E C0 hm;go_wp2_with fail;go_region_law
    (first
    | ((with_reducible refine pW ((w3.alloc (.cells #[] 54)).drew) ?_); refine bN Zr (.tmp 35) (.tmp 38) _ _ Zr _ _ Zr Zr _ _ B0.out ?_)
    | ((with_reducible refine pW (((w3.alloc (.cells #[] 54)).alloc (.cells #[.int .u64 x1,.int .u64 x2] 54)).drew) ?_); refine bN Zr (.tmp 35) (.tmp 38) _ _ Zr _ _ Zr Zr _ _ B2.out ?_)
    | ((with_reducible refine pW (((w3.alloc (.cells #[.int .u64 x1,.int .u64 x2] 54)).alloc (.cells #[] 54)).drew) ?_); refine bN Zr (.tmp 35) (.tmp 38) _ _ Zr _ _ Zr Zr _ _ B4.out ?_)
    | ((with_reducible refine pW (z1.alloc (.cells #[.int .u64 x1,.int .u64 x2] 54)) ?_); refine bN Zr (.tmp 39) (.tmp 41) _ _ Zr _ _ Zr Zr _ _ B1.out ?_)
    | ((with_reducible refine pW y1 ?_); refine bN Zr (.tmp 39) (.tmp 41) _ _ Zr _ _ Zr Zr _ _ B3.out ?_)
    | ((with_reducible refine pW t1 ?_); refine bN Zr (.tmp 39) (.tmp 41) _ _ Zr _ _ Zr Zr _ _ B5.out ?_)
    | fail)
   all_goals
    go_wp2_with (at_builtin; first | (refine Lib.wpList_append_run _ rfl _ _ _ _ rfl _ _ rfl rfl _ _ Y.out ?_) | (refine Lib.wpList_append_run _ rfl _ _ _ _ rfl _ _ rfl rfl _ _ Z.out ?_) | (refine Lib.wpList_append_run _ rfl _ _ _ _ rfl _ _ rfl rfl _ _ A0.out ?_));go_ret;rw[HR.o]
    first
    | exact⟨za,zc,by first | (rw[D.o]; done) | (rw[D.o]; rfl),iy L.out.1,L.out.2.1,.inr (fun ad h=>aC B.o.size (Nf L.out.1 ad h)),B.o.trans (L.out.2.2.mono B.o.size)⟩
    | exact⟨ya,yc,by first | (rw[D.o]; done) | (rw[D.o]; rfl),iy M.out.1,M.out.2.1,.inr (fun ad h=>aC B.o.size (Nf M.out.1 ad h)),B.o.trans (M.out.2.2.mono B.o.size)⟩
    | exact⟨ta,tc,by first | (rw[D.o]; done) | (rw[D.o]; rfl),iy N.out.1,N.out.2.1,.inr (fun ad h=>aC B.o.size (Nf N.out.1 ad h)),B.o.trans (N.out.2.2.mono B.o.size)⟩
theorem radd_any(a:Qa)(xs:List Itm)(c:Nat)(d1 d2:Int)(T:Qb)(w:World)(hp:jQ w a xs c)(ha:Asc xs)(hT:(T.length:Int)<=1000000)(H:(xs.length:Int)<=100000):
  Qh 165 #[.slice a xs.length c,.agg #[Yu d1,Yu d2],T] w (J7 w a xs (rJ xs ⟨(d1,d2),T⟩)):=by
 obtain⟨L,S,Y⟩:=Yk (fun W=>tO T W hT) (fun W=>Hu T W Zo) (fun W (hW:PM w W)=>rinsert_any a xs c ⟨(d1,d2),T⟩ W (hp.below hW).its ha hp.cap H);simp only[Itm.val] at Y;obtain⟨R,hR⟩:=Qe (rJ xs ⟨(d1,d2),T⟩);rw[<-hR];have C:R=if(bI T).2≠0 then([],13) else if iY T≠(d1,d2) then([],15) else Ag xs ⟨(d1,d2),T⟩:=by
  rw[hR];unfold rJ vg;simp only;by_cases h1:(bI T).2=0
  ·by_cases h2:iY T=(d1,d2)
   ·simp[h1,h2]
   ·simp[h1,h2]
  ·simp[h1]
 clear hR;generalize bI T=D at L C;generalize iY T=dg at S C;generalize Ag xs ⟨(d1,d2),T⟩=I at Y C;obtain⟨o,er⟩:=D;obtain⟨g1,g2⟩:=dg;obtain⟨ys,ei⟩:=I;simp only at L S Y C;have HP:=Qf hp.its;clear hp ha H;obtain⟨n,V⟩:=Qe xs.length;have HN:=Qf V;rw[<-V] at Y ⊢;have Z:=Qf C;clear V C;obtain⟨w0,K⟩:=Qe (w.alloc (.cells #[Yu d1,Yu d2] 54));have A1:Qg (BK w #[Yu d1,Yu d2] 54 w0):=Qf (K▸BK.new _ _ _);have O:Qg (PM w w0):=Qf (K▸ba w _);have Q:=Qf (L.o w0);rw[K] at Q;have A4:=Qf K;clear K L;obtain⟨A7,data,A6,⟨t1,t2⟩,B0,A5,B1,B3⟩:=o;go_enter func165,ntmps165;go_wp2_with fail;refine Q.o.mono ?_;rintro e u ⟨ea,ec,pa,pc,rfl,_,hb⟩;rw[<-A4.o] at hb;obtain⟨P,A2⟩:=Yj (XT O.o hb) (A1.o.below hb);clear hb Q A4 O A1;simp only[Ob.val];generalize A6.length=ne;generalize B0.length=np;obtain⟨u2,M⟩:=Qe (u.alloc (.cells #[Yi A7,data,.slice ea ne ec,Yu t1,Yu t2,.slice pa np pc,A5,Yi B1,B3] 59));have F:Qg (PM w u2):=Qf (M▸P.o.alloc P.o.size _);have A3:Qg (BK w #[Yu d1,Yu d2] 54 u2):=Qf (M▸A2.o.alloc _);have U:=Qf M;clear M P A2;by_cases he:er=0
 ·subst he;obtain⟨e0,e1⟩:=BK.c2 A3.o;have f0:=YG e0;have f1:=YG e1;have hq:=fun W=>nI g1 g2 d1 d2 W
  have X:=Qf (fun d os=>YJ (w:=u2) (d:=d) (os:=os) (S.o _));cases N:(g1==d1&&g2==d2) with
  | false=>
   rw[N] at hq;have G:Qg (R=([],15)):=Qf (by
    rw[Z.o,if_neg Zs,if_pos];intro h;simp only[XC] at h;simp[h.1,h.2] at N)
   clear N Z;go_wp2_with fail;rw[<-U.o];refine YH Zk Zk ?_
   repeat (any_goals (first | go_big_quiet_step (with_reducible exact X.o _ _) | quiet_step (with_reducible exact X.o _ _)))
   refine YI ?_;intro w2 E;have B:=Qf (XT F.o (aX E));clear E X f0 f1;go_wp2;go_ret2;rw[G.o];exact⟨none,0,rfl,iF.none _ _ B.o⟩
  | true=>
   rw[N] at hq;have G:Qg (R=(ys,ei)):=Qf (by
    rw[Z.o,if_neg Zs,if_neg];simp only[XF,XS] at N;simp[N.1,N.2])
   clear N Z;go_wp2_with fail;rw[<-U.o];refine YH Zk Zk ?_
   repeat (any_goals (first | go_big_quiet_step (with_reducible exact X.o _ _) | quiet_step (with_reducible exact X.o _ _)))
   refine YI ?_;intro w2 E;obtain⟨B,A8⟩:=Yj (XT F.o (aX E)) (A3.o.below (aX E));clear E X f0 f1 e0 e1;obtain⟨e0,e1⟩:=BK.c2 A8.o;have A0:=Qf (Y.o w2 B.o);clear Y;go_wp2_with fail;refine A0.o.mono ?_;rintro e u3 ⟨ra,rc,rfl,J⟩;have A9:Qg (iF w a xs ys ra rc u3):=Qf ⟨J.1,J.2.1,by
    rcases J.2.2.1 with h | h
    ·exact .inl h
    ·exact .inr (fun ad B2=>by have:=h ad B2; have:=B.o.size; omega),B.o.trans (J.2.2.2.mono B.o.size)⟩
   clear J A0;go_wp2;go_ret2;rw[G.o];exact⟨ra,rc,rfl,A9.o⟩
 ·have B8:(er !=0)=true:=Zu he;have G:Qg (R=([],13)):=Qf (by rw[Z.o,if_pos he]);clear he Z;go_wp2_with fail;rw[<-U.o];go_ret2;rw[G.o];exact⟨none,0,rfl,iF.none _ _ F.o⟩
theorem yS:Asc (x::xs)↔Asc xs/\∀y∈xs,eO x.d y.d<0:=by
 constructor
 ·intro h;refine⟨fun i j C B A=>?_,fun y F=>?_⟩
  ·have:=h (i+1) (j+1) Zt Zt Zo;simpa using this
  ·obtain⟨j,B,rfl⟩:=aV F;have:=h 0 (j+1) Zs Zt Zo;simpa using this
 ·rintro⟨D,E⟩ i j C B A;cases i with
  | zero=>
   cases j with
   | zero=>omega
   | succ j=>simp only[aS,bK]; exact E _ (ak _)
  | succ i=>
   cases j with
   | zero=>omega
   | succ j=>simp only[bK]; exact D i j (by simp at C; omega) (by simp at B; omega) Zo
theorem Md(h:Asc xs)(E:x∈xs)(F:y∈xs)(B:x.d=y.d):x=y:=by
 obtain⟨i,C,rfl⟩:=aV E;obtain⟨j,D,rfl⟩:=aV F;rcases Nat.lt_trichotomy i j with A | A | A
 ·have:=h i j C D A; rw[B,fO] at this; omega
 ·subst A; rfl
 ·have:=h j i D C A; rw[B,fO] at this; omega
def Oh(xs ys:List Itm):Prop:=∃z y,(z∈xs\/z∈ys)/\(y∈xs\/y∈ys)/\z.d=y.d/\z≠y
theorem Oh.symm(h:Oh xs ys):Oh ys xs:=by
 obtain⟨z,y,A,B,C⟩:=h;exact⟨z,y,A.symm,B.symm,C⟩
theorem Gz(h:Asc xs)(p:Itm->Bool):Asc (xs.filter p):=by
 induction xs with
 | nil=>exact fun i j C=>by simp at C
 | cons x xs ih=>
  obtain⟨A,B⟩:=yS.1 h;rw[kK];split
  ·exact yS.2 ⟨ih A,fun y D=>B y (QJ.1 D).1⟩
  ·exact ih A
theorem EI:∀{xs:List Itm} {p:Option (Int×Int)},(∀x∈xs,vg x=0)->Asc xs->(∀q,p=some q->∀x∈xs,eO q x.d<0)->vR p xs=0
 | [],p,_,_,_=>by cases p <;> rfl
 | x::xs,p,B,C,D=>by
  obtain⟨E,F⟩:=yS.1 C;rw[vR,if_neg (by simpa using B x Zs),if_neg]
  ·exact EI (fun y A=>B y (Zj A)) E (fun q G y A=>by cases G; exact F y A)
  ·cases p with
   | none=>simp[vO]
   | some q=>
    have:=D q rfl x Zs;have:=iZ (a:=x.d) (b:=q);simp[vO];omega
theorem FX(h:(aR o).2=0):gG o=((o.ents.map (·.d))++(if o.kind=3 then[o.tree] else[]))++o.pars:=by
 unfold gG;rw[if_neg (Zu h)];by_cases B:o.kind=3
 ·simp[B]
 ·have A:=(fA (kG h)).1;have E:=eP A;have D:o.pars=[]:=by
   by_cases C:o.kind=1\/o.kind=4
   ·rw[mh A C]; rfl
   ·rw[(jO A Zo).1]; rfl
  simp[B,D]
theorem Ta(W:World)(base:Nat)(e:TypeId)(z:Nat)(h:base<=(W:Nat)):(W.alloc (.cells #[] e)).ownsRow base e z (.slice W 0 0) 0 []:=by
 refine⟨Zs,.inr ⟨W,0,#[],rfl,h,BK.new W #[] e,nr,Zm,Zs,Zs⟩⟩
theorem Uj(o:Ob)(ea:Qa)(ec:Nat)(pa:Qa)(pc:Nat)(w:World)(h:Dw w o ea ec pa pc)(H:ObB o)(C3:OkO o):
  Qh 124 #[o.val ea ec pa pc] w (Oa w (gG o)):=by
 have HC:=Qf (fun W (hW:PM w W)=>FH o ea ec pa pc W (h.below hW) C3);obtain⟨R,hR⟩:=Qe (gG o);have P:=Qf (fun h=>hR.trans (FX (o:=o) h));have A0:Qg ((aR o).2≠0->R=[]):=Qf (fun he=>by rw[hR]; unfold gG; rw[if_pos he]);rw[<-hR];clear hR C3;generalize (aR o).2=er at HC P A0;have C2:=H.elen;have C4:=H.plen;obtain⟨B7,B2⟩:=Yj h.ents h.pars;clear h H;obtain⟨B4,data,A8,⟨t1,t2⟩,C9,A9,B5,C5⟩:=o;simp only[Ob.val] at HC P C2 C4 B7 B2 ⊢;obtain⟨ne,F⟩:=Qe A8.length;obtain⟨n,B3⟩:=Qe C9.length;rw[<-F] at HC C2 ⊢;rw[<-B3] at HC C4 ⊢;obtain⟨Q,A2⟩:=Yj F B3;clear F B3;obtain⟨u,hu⟩:=Qe (w.alloc (.cells #[Yi B4,data,.slice ea ne ec,Yu t1,Yu t2,.slice pa n pc,A9,Yi B5,C5] 59));have B9:Qg (BK w #[Yi B4,data,.slice ea ne ec,Yu t1,Yu t2,.slice pa n pc,A9,Yi B5,C5] 59 u):=Qf (hu▸BK.new _ _ _);have B6:Qg (PM w u):=Qf (hu▸ba w _);have C8:(u:Nat)=(w:Nat)+1:=Zn hu;have HU:=Qf hu;clear hu;obtain⟨u0,J⟩:=Qe (u.alloc (.cells #[] 54));have B8:Qg (BK w #[Yi B4,data,.slice ea ne ec,Yu t1,Yu t2,.slice pa n pc,A9,Yi B5,C5] 59 u0):=Qf (J▸B9.o.alloc _);have L:Qg (PM w u0):=Qf (J▸B6.o.alloc (by omega) _);have B1:Qg (u0.ownsRow ((w:Nat)+1) 54 2 (.slice (some ⟨(w:Nat)+1,0,none⟩) 0 0) 0 []):=Qf (by rw[J,<-C8]; exact Ta _ _ _ _ nr);have M:=Qf (HC.o u0 L.o);rw[J] at M;rw[HU.o] at M;have A3:=Qf J;have D5:(u0:Nat)=(w:Nat)+2:=by rw[J]; simp; omega
 clear J;by_cases he:er=0
 ·subst he;have HR:=Qf (P.o rfl);clear P A0 HC;go_enter func124,ntmps124;go_wp2_with fail;refine M.o.mono ?_;rintro e u2 ⟨rfl,H⟩;rw[<-HU.o] at H;rw[<-A3.o] at H;obtain⟨A1,E,C⟩:=Yk (B8.o.below H) (XT L.o H) (PO B1.o H);have C7:(w:Nat)+1<=(u2:Nat):=Zh H.size;clear H M HU A3 B8 L B1 D5 C8 B9 B6 u0 u;go_wp2;go_loopw [3,4] (fun v i wr=>∃k:Nat,k<=ne/\i=Yi k/\(w:Nat)+1<=(wr:Nat)/\Qg (wr.ownsRow ((w:Nat)+1) 54 2 v ((A8.take k).map (·.d)).length (aW ((A8.take k).map (·.d))))/\Qg (PM w wr)/\Qg (BK w #[Yi B4,data,.slice ea ne ec,Yu t1,Yu t2,.slice pa n pc,A9,Yi B5,C5] 59 wr)) (fun _ i _=>ne-(intOf i).toNat)
  case atStart=>exact⟨0,Zo,rfl,C7,C,E,A1⟩
  case round=>
   clear A1 E C C7;obtain⟨k,hk,rfl,D4,Z,HB,HK⟩:=hrel;have N:((A8.take k).map (·.d)).length=k:=by rw[fC,aA]; have:=Q.o; omega
   obtain⟨av,cv,rfl,K⟩:=aB Z.out;obtain⟨e0,e1,e2,e3,e4,e5,e6,e7,e8⟩:=BK.c9 HK.out;by_cases D9:k<ne
   ·have h1:k<A8.length:=Zh Q.o;obtain⟨b0,o0,rfl,D8,q0,q1,q2,q3⟩:=(B7.o.below HB.out nr) k h1;have B0:=Qf (ym A8 k h1);generalize A8[k]=en at q0 q1 q2 q3 B0;obtain⟨nm,D1,d1,d2⟩:=en;simp only at q0 q1 q2 q3 B0;obtain⟨v',W',A7,X,A4,C1⟩:=gz Z.out d1 d2 Zo Zo;have F:(Value.slice av ((A8.take k).map (·.d)).length cv).ownBlock≠some (w:Nat):=fun hh=>Zh ((Z.out.lt _ hh).1)
    have C:Qg (W'.ownsRow ((w:Nat)+1) 54 2 v' ((A8.take (k+1)).map (·.d)).length (aW ((A8.take (k+1)).map (·.d)))):=Qf (B0.o▸X);have E:Qg (PM w W'):=Qf ((HB.out.alloc Zo _).grown A4 Zt (fun j V=>Zh ((Z.out.lt _ V).1)));have A1:=Qf ((HK.out.alloc _).grow A4 (fun j V e=>F (by rw[V,e])));have C6:(w:Nat)+1<=(W':Nat):=by have:=A4.size; simp at this; omega
    have A6:=Qf A7;clear A7 X A4 C1 N F;generalize ((A8.take k).map (·.d)).length=m at A6 K ⊢;go_wp2_with (at_builtin; refine Lib.wpList_append_run _ rfl _ _ _ _ rfl _ _ rfl rfl _ _ A6.o ?_);go_roundw
    case rel=>exact⟨k+1,Zo,Zg,C6,C,E,A1⟩
    case measure=>exact Yr
   ·have T:A8.take k=A8:=ag (Zh Q.o);rw[T] at Z K N ⊢;clear T;by_cases h3:B4=3
    ·subst h3;rw[if_pos rfl] at HR;obtain⟨v1,W1,Y,I,A5,_⟩:=gz Z.out t1 t2 Zo Zo;have F:(Value.slice av (A8.map (·.d)).length cv).ownBlock≠some (w:Nat):=fun hh=>Zh ((Z.out.lt _ hh).1)
     have O:Qg (PM w W1):=Qf ((HB.out.alloc Zo _).grown A5 Zt (fun j V=>Zh ((Z.out.lt _ V).1)));have c5:W1.cell? ⟨w,5,none⟩=some (.slice pa n pc):=by
      have D2:=(HK.out.alloc _).grow A5 (fun j V e=>F (by rw[V,e]));rw[D2.cell]; rfl
     obtain⟨v2,W2,B,D,U,_⟩:=dM W1 ((w:Nat)+1) 24 v1 _ I pa C9 pc ((B2.o.below O.o nr).mono O.o.size) (by simp; have:=A2.o; have:=Q.o; simp at N; omega) (by have:=A5.size; simp at this; omega);have E:Qg (PM w W2):=Qf (O.o.grown U O.o.size (fun j V=>Zh ((I.lt _ V).1)));rw[<-A2.o] at B;obtain⟨S,G,C⟩:=Yk Y B D;clear Y B I D A5 U O N F;generalize (A8.map (·.d)).length=m at S K ⊢;have D0:True:=trivial;go_wp2_with (at_builtin; first | (have _t:=D0; refine Lib.wpList_append_run _ rfl _ _ _ _ rfl _ _ rfl rfl _ _ S.o ?_; clear _t D0) | (refine Lib.wpList_append_run _ rfl _ _ _ _ rfl _ _ rfl rfl _ _ G.o ?_));obtain⟨a2,C0,rfl,_⟩:=aB C.o;go_ret;rw[HR.o];exact⟨a2,C0,rfl,mP C.o Zo,E.o⟩
    ·rw[if_neg h3,bG] at HR;have e3:(B4==3)=false:=Zu h3;obtain⟨v2,W2,B,D,U,_⟩:=dM wr ((w:Nat)+1) 24 _ _ Z.out pa C9 pc ((B2.o.below HB.out nr).mono HB.out.size) (by simp; have:=A2.o; have:=Q.o; simp at N; omega) D4;have E:Qg (PM w W2):=Qf (HB.out.grown U HB.out.size (fun j V=>Zh ((Z.out.lt _ V).1)));rw[<-A2.o] at B;obtain⟨G,C⟩:=Yj B D;clear h3 N B D U;generalize (A8.map (·.d)).length=m at G K ⊢;go_wp2_with (at_builtin; refine Lib.wpList_append_run _ rfl _ _ _ _ rfl _ _ rfl rfl _ _ G.o ?_);obtain⟨a2,C0,rfl,_⟩:=aB C.o;go_ret;rw[HR.o];exact⟨a2,C0,rfl,mP C.o Zo,E.o⟩
 ·have HR:=Qf (A0.o he);have F:(er !=0)=true:=Zu he;clear P A0 HC he;go_enter func124,ntmps124;go_wp2_with fail;refine M.o.mono ?_;rintro e u2 ⟨rfl,H⟩;rw[<-HU.o] at H;rw[<-A3.o] at H;obtain⟨E,C⟩:=Yj (XT L.o H) (PO B1.o H);clear H M HU A3;go_wp2;go_ret;rw[HR.o];exact⟨_,_,rfl,mP C.o Zo,E.o⟩
open Go.RowKit Go.Shelf Go.Sort
inductive Rch (xs:List Itm) (roots:Qd):Int×Int->Prop
 | root {d:Int×Int}:d∈roots->d≠(0,0)->Rch xs roots d
 | link {d l:Int×Int}:Rch xs roots d->(dW xs d).2=0->l∈gG (dW xs d).1->l≠(0,0)->Rch xs roots l
structure Sea (xs:List Itm) (roots op T M:Qd):Prop where
 o:∀d∈op,d≠(0,0)->Rch xs roots d
 t:∀d∈T,Rch xs roots d/\(dW xs d).2=0
 m:∀d∈M,Rch xs roots d/\(dW xs d).2≠0
 rt:∀d∈roots,d=(0,0)\/d∈T\/d∈M\/d∈op
 ln:∀d∈T,∀l∈gG (dW xs d).1,l=(0,0)\/l∈T\/l∈M\/l∈op
theorem Sea.start(xs:List Itm)(roots:Qd):Sea xs roots roots [] []:=
 ⟨fun d A B=>.root A B,fun d h=>(by simp at h),fun d h=>(by simp at h),fun d h=>.inr (.inr (.inr h)),fun d h=>(by simp at h)⟩
theorem Sea.step{xs:List Itm}{roots op T M op' T' M':Qd}(h:Sea xs roots op T M)
  (C:∀x,x∈op\/x∈T\/x∈M->x=(0,0)\/x∈T'\/x∈M'\/x∈op')
  (N:∀x∈T',x∈T\/(x∈op/\x≠(0,0)/\(dW xs x).2=0))
  (J:∀x∈M',x∈M\/(x∈op/\x≠(0,0)/\(dW xs x).2≠0))
  (L:∀x∈op',x∈op\/∃t∈T',x∈gG (dW xs t).1)
  (K:∀t∈T',t∉T->∀l∈gG (dW xs t).1,l=(0,0)\/l∈T'\/l∈M'\/l∈op'):Sea xs roots op' T' M':=by
 have F:∀d∈T',Rch xs roots d/\(dW xs d).2=0:=fun d B=>by
  rcases N d B with A | ⟨A,D,E⟩
  ·exact h.t d A
  ·exact⟨h.o d A D,E⟩
 refine⟨fun d B I=>?_,F,fun d B=>?_,fun d B=>?_,fun d B l G=>?_⟩
 ·rcases L d B with A | ⟨t,A,D⟩
  ·exact h.o d A I
  ·exact .link (F t A).1 (F t A).2 D I
 ·rcases J d B with A | ⟨A,D,E⟩
  ·exact h.m d A
  ·exact⟨h.o d A D,E⟩
 ·rcases h.rt d B with A | A | A | A
  ·exact .inl A
  ·exact C d (.inr (.inl A))
  ·exact C d (.inr (.inr A))
  ·exact C d (.inl A)
 ·by_cases H:d∈T
  ·rcases h.ln d H l G with A | A | A | A
   ·exact .inl A
   ·exact C l (.inr (.inl A))
   ·exact C l (.inr (.inr A))
   ·exact C l (.inl A)
  ·exact K d B H l G
theorem Sea.done{roots T M:Qd}(h:Sea xs roots [] T M)(d:Int×Int):(d∈T↔Rch xs roots d/\(dW xs d).2=0)/\(d∈M↔Rch xs roots d/\(dW xs d).2≠0):=by
 have G:∀d,Rch xs roots d->d∈T\/d∈M:=by
  intro d D;induction D with
  | root A E=>
   rcases h.rt _ A with B | B | B | B
   ·exact absurd B E
   ·exact .inl B
   ·exact .inr B
   ·simp at B
  | link A E B F ih=>
   rcases ih with ih | ih
   ·rcases h.ln _ ih _ B with C | C | C | C
    ·exact absurd C F
    ·exact .inl C
    ·exact .inr C
    ·simp at C
   ·exact absurd E (h.m _ ih).2
 refine⟨⟨h.t d,fun D=>?_⟩,⟨h.m d,fun D=>?_⟩⟩
 ·rcases G d D.1 with A | A
  ·exact A
  ·exact absurd D.2 (h.m d A).2
 ·rcases G d D.1 with A | A
  ·exact absurd (h.t d A).2 D.2
  ·exact A
theorem wS{R:Qd}{d:Int×Int}(h:R.Nodup)(C:d∉R):(R++[d]).Nodup:=by
 rw[List.nodup_append];refine⟨h,Zs,fun a B b A e=>?_⟩;simp at A;exact C (by rw[<-A,<-e]; exact B)
theorem lK(xs:List Itm)(roots:Qd):∀(f:Nat) (op met R M:Qd),Sea xs roots op R M->(∀d,d∈met↔d=(0,0)\/d∈R\/d∈M)->R.Nodup->M.Nodup->mea xs op met<=f->
  Sea xs roots [] (fI xs f op met R M).1 (fI xs f op met R M).2/\(fI xs f op met R M).1.Nodup/\(fI xs f op met R M).2.Nodup
 | 0,op,met,R,M,h,F,D,E,J=>by
  have:op=[]:=by unfold mea at J; exact aU Zo
  subst this;exact⟨h,D,E⟩
 | f+1,op,met,R,M,h,F,D,E,J=>by
  rcases iI op with rfl | ⟨l,d,rfl⟩
  ·rw[wE]; exact⟨h,D,E⟩
  ·rw[iJ] at h J ⊢;have C:∀x,x∈l++[d]↔x∈l\/x=d:=fun x=>Zs
   by_cases G:d∈met
   ·rw[wF G];refine lK xs roots f l met R M (h.step ?_ (fun x A=>.inl A) (fun x A=>.inl A) (fun x A=>.inl ((C x).2 (.inl A))) (fun t D E=>absurd D E)) F D E (Zh (qm xs l met d));intro x A;rcases A with A | A | A
    ·rcases(C x).1 A with A | rfl
     ·exact .inr (.inr (.inr A))
     ·rcases(F x).1 G with B | B | B
      ·exact .inl B
      ·exact .inr (.inl B)
      ·exact .inr (.inr (.inl B))
    ·exact .inr (.inl A)
    ·exact .inr (.inr (.inl A))
   ·have O:d≠(0,0):=fun e=>G ((F d).2 (.inl e))
    have S:d∉R:=fun e=>G ((F d).2 (.inr (.inl e)))
    have Q:d∉M:=fun e=>G ((F d).2 (.inr (.inr e)))
    by_cases I:(dW xs d).2=0
    ·rw[wG G I];have K:((gG (dW xs d).1).filter fun l=>!decide (l∈d::met)).length<=200:=aC (List.length_filter_le _ _) (rZ _);refine lK xs roots f _ (d::met) (R++[d]) M (h.step ?_ ?_ (fun x A=>.inl A) ?_ ?_) (fun x=>?_) (wS D S) E (Zh (yj (op:=l) G I K))
     ·intro x A;rcases A with A | A | A
      ·rcases(C x).1 A with A | rfl
       ·exact .inr (.inr (.inr (Zj A)))
       ·exact .inr (.inl Zs)
      ·exact .inr (.inl (Zj A))
      ·exact .inr (.inr (.inl A))
     ·intro x A;rcases aD.1 A with A | A
      ·exact .inl A
      ·simp at A; subst A; exact .inr ⟨(C x).2 (.inr rfl),O,I⟩
     ·intro x A;rcases aD.1 A with A | A
      ·exact .inl ((C x).2 (.inl A))
      ·exact .inr ⟨d,Zs,(QJ.1 A).1⟩
     ·intro t U L l2 T;have:t=d:=by
       rcases aD.1 U with B | B
       ·exact absurd B L
       ·simpa using B
      subst this;by_cases N:l2∈t::met
      ·rcases XG.1 N with rfl | P
       ·exact .inr (.inl Zs)
       ·rcases(F l2).1 P with H | H | H
        ·exact .inl H
        ·exact .inr (.inl (Zj H))
        ·exact .inr (.inr (.inl H))
      ·refine .inr (.inr (.inr (aD.2 (.inr (QJ.2 ⟨T,?_⟩)))));rw[XN N]; rfl
     ·rw[XG,F x,aD,aH];constructor
      ·rintro(B | B | B | B)
       ·exact .inr (.inl (.inr B))
       ·exact .inl B
       ·exact .inr (.inl (.inl B))
       ·exact .inr (.inr B)
      ·rintro(B | (B | B) | B)
       ·exact .inr (.inl B)
       ·exact .inr (.inr (.inl B))
       ·exact .inl B
       ·exact .inr (.inr (.inr B))
    ·rw[tN G I];refine lK xs roots f l (d::met) R (M++[d]) (h.step ?_ (fun x A=>.inl A) ?_ (fun x A=>.inl ((C x).2 (.inl A))) (fun t D E=>absurd D E)) (fun x=>?_) D (wS E Q) (Zh (yh xs l met d))
     ·intro x A;rcases A with A | A | A
      ·rcases(C x).1 A with A | rfl
       ·exact .inr (.inr (.inr A))
       ·exact .inr (.inr (.inl Zs))
      ·exact .inr (.inl A)
      ·exact .inr (.inr (.inl (Zj A)))
     ·intro x A;rcases aD.1 A with A | A
      ·exact .inl A
      ·simp at A; subst A; exact .inr ⟨(C x).2 (.inr rfl),O,I⟩
     ·rw[XG,F x,aD,aH];constructor
      ·rintro(B | B | B | B)
       ·exact .inr (.inr (.inr B))
       ·exact .inl B
       ·exact .inr (.inl B)
       ·exact .inr (.inr (.inl B))
      ·rintro(B | B | B | B)
       ·exact .inr (.inl B)
       ·exact .inr (.inr (.inl B))
       ·exact .inr (.inr (.inr B))
       ·exact .inl B
def EX(l:Qd):Prop:=l.Pairwise fun x y=>eO x y<0
theorem yT:∀{xs ys:Qd},EX xs->EX ys->(∀x,x∈xs↔x∈ys)->xs=ys
 | [],[],_,_,_=>rfl
 | [],y::ys,_,_,A=>by have:=(A y).2 Zs; simp at this
 | x::xs,[],_,_,A=>by have:=(A x).1 Zs; simp at this
 | x::xs,y::ys,B,C,A=>by
  unfold EX at B C;rw[vW] at B C;have e:x=y:=by
   rcases XG.1 ((A x).1 Zs) with h | h
   ·exact h
   ·rcases XG.1 ((A y).2 Zs) with E | E
    ·exact E.symm
    ·have g1:=B.1 y E;have g2:=C.1 x h;have:=iZ (a:=x) (b:=y);omega
  subst e;congr 1;refine yT B.2 C.2 fun z=>⟨fun D=>?_,fun D=>?_⟩
  ·rcases XG.1 ((A z).1 (Zj D)) with rfl | h
   ·have:=B.1 z D; rw[fO] at this; omega
   ·exact h
  ·rcases XG.1 ((A z).2 (Zj D)) with rfl | h
   ·have:=C.1 z D; rw[fO] at this; omega
   ·exact h
theorem zm(h:l.Nodup):EX (kV l):=by
 have A:(kV l).Pairwise (fun x y=>(!(ltOf eO) y x)=true):=by
  unfold kV;refine List.pairwise_mergeSort (fun a b c A B=>?_) (fun a b=>?_) l
  ·simp only[Bool.not_eq_true'] at A B ⊢;exact swoD.ntrans c b a B A
  ·unfold ltOf;have g1:=bF a b;have g2:=bF b a;by_cases g:eO b a<0
   ·have:¬eO a b<0:=Zo;simp[g,this]
   ·simp[g]
 have B:(kV l).Nodup:=(lJ l).nodup_iff.2 h;refine(A.and B).imp ?_;rintro x y ⟨C,D⟩;unfold ltOf at C;simp only[Bool.not_eq_true',XL] at C;have g1:=bF x y;have g2:=bF y x;have:¬eO x y=0:=fun e=>D (lv.1 e)
 omega
theorem gW(xs:List Itm)(roots:Qd):EX (dh xs roots).1/\EX (dh xs roots).2/\∀d,(d∈(dh xs roots).1↔Rch xs roots d/\(dW xs d).2=0)/\(d∈(dh xs roots).2↔Rch xs roots d/\(dW xs d).2≠0):=by
 obtain⟨A,B,C⟩:=lK xs roots (jC xs roots) roots [(0,0)] [] [] (Sea.start xs roots) (fun d=>Zs) Zs Zs (zY xs roots);unfold dh;refine⟨zm B,zm C,fun d=>?_⟩;simp only;rw[(lJ _).mem_iff,(lJ _).mem_iff];exact A.done d
theorem Ic(y:Int×Int)(l:Qd)(d:Int×Int):Mm (y::l) d=if eO y d<0 then Mm l d+1 else 0:=by
 unfold Mm;by_cases h:eO y d<0 <;> simp[h]
theorem pR(y:Int×Int)(l:Qd)(d:Int×Int):mE (y::l) d=if eO y d<0 then y::mE l d else if y=d then y::l else d::y::l:=by
 unfold mE;rw[Ic];by_cases h:eO y d<0
 ·rw[if_pos h,if_pos h];simp only[List.getElem?_cons_succ,jS,List.drop_succ_cons];split <;> rfl
 ·rw[if_neg h,if_neg h];simp
theorem eG:∀(l:Qd) (d x:Int×Int),x∈mE l d↔x∈l\/x=d
 | [],d,x=>by simp[mE,Mm]
 | y::l,d,x=>by
  rw[pR];by_cases h:eO y d<0
  ·rw[if_pos h,XG,eG l d x,XG,or_assoc]
  ·rw[if_neg h];by_cases B:y=d
   ·rw[if_pos B];refine⟨.inl,fun A=>?_⟩;rcases A with A | A
    ·exact A
    ·rw[A,<-B]; simp
   ·rw[if_neg B,XG];exact or_comm
theorem tq:∀{l:Qd} (d:Int×Int),EX l->EX (mE l d)
 | [],d,_=>by simp[mE,Mm,EX]
 | y::l,d,h=>by
  rw[pR];have E:=h;unfold EX at h;rw[vW] at h;by_cases C:eO y d<0
  ·rw[if_pos C];refine vW.2 ⟨fun z D=>?_,tq d h.2⟩;rcases(eG l d z).1 D with A | rfl
   ·exact h.1 z A
   ·exact C
  ·rw[if_neg C];by_cases B:y=d
   ·rw[if_pos B]; exact E
   ·rw[if_neg B];have F:eO d y<0:=by
     have g0:¬eO y d=0:=fun e=>B (lv.1 e)
     have:=iZ (a:=d) (b:=y);omega
    refine vW.2 ⟨fun z D=>?_,E⟩;rcases XG.1 D with rfl | A
    ·exact F
    ·exact qA F (h.1 z A)
def Cf(xs:List Itm):Nat->Qd->Qd->Qd->Qd×Qd
 | 0,_,T,M=>(T,M)
 | f+1,[],T,M=>(T,M)
 | f+1,d::ws,T,M=>if d=(0,0)\/d∈T then Cf xs f ws T M else if(dW xs d).2≠0 then Cf xs f ws T (mE M d) else Cf xs f (ws++gG (dW xs d).1) (mE T d) M
theorem KZ(xs:List Itm)(ws T:Qd)(d:Int×Int):mea xs (d::ws) T=mea xs (ws++[d]) T:=by
 unfold mea; simp
theorem KX(xs:List Itm)(ws T:Qd)(d:Int×Int):mea xs ws (mE T d)=mea xs ws (d::T):=by
 unfold mea;congr 3;funext x;congr 1;rw[decide_eq_decide,eG,XG];exact or_comm
theorem rR(xs:List Itm)(roots:Qd):∀(f:Nat) (ws T M:Qd),Sea xs roots ws T M->EX T->EX M->mea xs ws T<=f->
  Sea xs roots [] (Cf xs f ws T M).1 (Cf xs f ws T M).2/\EX (Cf xs f ws T M).1/\EX (Cf xs f ws T M).2
 | 0,ws,T,M,h,B,C,G=>by
  have:ws=[]:=by unfold mea at G; exact aU Zo
  subst this;exact⟨h,B,C⟩
 | f+1,[],T,M,h,B,C,G=>by rw[Cf]; exact⟨h,B,C⟩
 | f+1,d::ws,T,M,h,B,C,G=>by
  rw[Cf];rw[KZ] at G;by_cases E:d=(0,0)\/d∈T
  ·rw[if_pos E];refine rR xs roots f ws T M (h.step ?_ (fun x A=>.inl A) (fun x A=>.inl A) (fun x A=>.inl (Zj A)) (fun t B C=>absurd B C)) B C (Zh (qm xs ws T d));intro x A;rcases A with A | A | A
   ·rcases XG.1 A with rfl | A
    ·rcases E with D | D
     ·exact .inl D
     ·exact .inr (.inl D)
    ·exact .inr (.inr (.inr A))
   ·exact .inr (.inl A)
   ·exact .inr (.inr (.inl A))
  ·rw[if_neg E];have I:d≠(0,0):=fun e=>E (.inl e)
   have J:d∉T:=fun e=>E (.inr e)
   by_cases F:(dW xs d).2=0
   ·rw[if_neg (Zu F)];refine rR xs roots f _ (mE T d) M (h.step ?_ ?_ (fun x A=>.inl A) ?_ ?_) (tq d B) C (by have:=yj (op:=ws) J F (rZ (dW xs d).1); rw[KX]; omega)
    ·intro x A;rcases A with A | A | A
     ·rcases XG.1 A with rfl | A
      ·exact .inr (.inl ((eG _ _ _).2 (.inr rfl)))
      ·exact .inr (.inr (.inr (Zj A)))
     ·exact .inr (.inl ((eG _ _ _).2 (.inl A)))
     ·exact .inr (.inr (.inl A))
    ·intro x A;rcases(eG _ _ _).1 A with A | rfl
     ·exact .inl A
     ·exact .inr ⟨Zs,I,F⟩
    ·intro x A;rcases aD.1 A with A | A
     ·exact .inl (Zj A)
     ·exact .inr ⟨d,(eG _ _ _).2 (.inr rfl),A⟩
    ·intro t L H l2 K;rcases(eG _ _ _).1 L with D | rfl
     ·exact absurd D H
     ·exact .inr (.inr (.inr (aD.2 (.inr K))))
   ·rw[if_pos F];refine rR xs roots f ws T (mE M d) (h.step ?_ (fun x A=>.inl A) ?_ (fun x A=>.inl (Zj A)) (fun t B C=>absurd B C)) B (tq d C) (Zh (qm xs ws T d))
    ·intro x A;rcases A with A | A | A
     ·rcases XG.1 A with rfl | A
      ·exact .inr (.inr (.inl ((eG _ _ _).2 (.inr rfl))))
      ·exact .inr (.inr (.inr A))
     ·exact .inr (.inl A)
     ·exact .inr (.inr (.inl ((eG _ _ _).2 (.inl A))))
    ·intro x A;rcases(eG _ _ _).1 A with A | rfl
     ·exact .inl A
     ·exact .inr ⟨Zs,I,F⟩
theorem Nr(xs:List Itm)(roots:Qd):mea xs roots []<=jC xs roots:=by
 have:xs.countP (fun x=>!decide (x.d∈([]:Qd)))<=xs.length:=List.countP_le_length;unfold mea jC;omega
theorem Na(xs:List Itm)(roots:Qd):Cf xs (jC xs roots) roots [] []=dh xs roots:=by
 obtain⟨A,B,C⟩:=rR xs roots (jC xs roots) roots [] [] (Sea.start xs roots) (List.Pairwise.nil) (List.Pairwise.nil) (Nr xs roots);obtain⟨g1,g2,g3⟩:=gW xs roots;refine Prod.ext (yT B g1 fun d=>?_) (yT C g2 fun d=>?_)
 ·rw[(A.done d).1,(g3 d).1]
 ·rw[(A.done d).2,(g3 d).2]
def GotDD(w:World)(r:Qd×Qd)(e:Ending)(w':World):Prop:=
 ∃a c a' c',e=.returned (.tuple #[.slice a r.1.length c,.slice a' r.2.length c'])/\dE w' w' a r.1/\dE w' w' a' r.2/\PM w w'
theorem Rb:∀(l:Qd) (d:Int×Int),(mE l d).length<=l.length+1
 | [],d=>by simp[mE,Mm]
 | y::l,d=>by
  rw[pR];have:=Rb l d;split
  ·simp; omega
  ·split <;> simp
structure Sc (w wr:World) (ta:Qa) (tc:Nat) (ma:Qa) (mc:Nat) (v:Value) (WL T M:Qd):Prop where
 dt:dE wr wr ta T
 dm:dE wr wr ma M
 tc:T.length<=tc
 mc:M.length<=mc
 ow:wr.ownsRow w 54 2 v WL.length (aW WL)
 at':∀ad,ta=some ad->ad.block<(wr:Nat)/\v.ownBlock≠some ad.block
 am:∀ad,ma=some ad->ad.block<(wr:Nat)/\v.ownBlock≠some ad.block
 be:PM w wr
section
variable {w wr W':World} {ta ma a:Qa} {tc mc c:Nat} {v v':Value} {WL T M T' M' WL':Qd}
theorem Sc.below(h:Sc w wr ta tc ma mc v WL T M)(A:PM wr W'):Sc w W' ta tc ma mc v WL T M:=
 ⟨h.dt.ahead A,h.dm.ahead A,h.tc,h.mc,PO h.ow A,fun ad e=>⟨aO (h.at' ad e).1 A.size,(h.at' ad e).2⟩,fun ad e=>⟨aO (h.am ad e).1 A.size,(h.am ad e).2⟩,(XT h.be A)⟩
theorem Sc.alloc(h:Sc w wr ta tc ma mc v WL T M)(o:Obj):Sc w (wr.alloc o) ta tc ma mc v WL T M:=h.below (ba _ _)
theorem Ws{d:Int×Int}(h:dE B W a ds)(D:d∈ds):∀ad,a=some ad->ad.block<B:=by
 intro ad e;obtain⟨b,E,A,C,_⟩:=h 0 (List.length_pos_of_mem D);rw[A] at e;cases e;exact C
theorem Sc.new(h:Sc w wr ta tc ma mc v WL T M)(I:PM wr W'){d:Int×Int}{L:Qd}{pa:Qa}(B:∀ad,pa=some ad->ad.block<(wr:Nat)/\v.ownBlock≠some ad.block)(D:dE W' W' a L)(E:d∈L)(F:a=pa\/∀ad,a=some ad->(wr:Nat)<=ad.block):∀ad,a=some ad->ad.block<(W':Nat)/\v.ownBlock≠some ad.block:=by
 intro ad e;refine⟨Ws D E ad e,fun C=>?_⟩;rcases F with A | A
 ·exact(B ad (by rw[<-A,e])).2 C
 ·have G:=(h.ow.lt _ C).2;have H:=A ad e;omega
theorem Sc.putT(h:Sc w wr ta tc ma mc v WL T M)(A:PM wr W'){d:Int×Int}(B:dE W' W' a T')(C:T'.length<=c)(D:d∈T')(E:a=ta\/∀ad,a=some ad->(wr:Nat)<=ad.block):Sc w W' a c ma mc v WL T' M:=
 have g:=h.below A
 ⟨B,g.dm,C,g.mc,g.ow,h.new A h.at' B D E,g.am,g.be⟩
theorem Sc.putM(h:Sc w wr ta tc ma mc v WL T M)(A:PM wr W'){d:Int×Int}(B:dE W' W' a M')(C:M'.length<=c)(D:d∈M')(E:a=ma\/∀ad,a=some ad->(wr:Nat)<=ad.block):Sc w W' ta tc a c v WL T M':=
 have g:=h.below A
 ⟨g.dt,B,g.tc,C,g.ow,g.at',h.new A h.am B D E,g.be⟩
theorem Sc.push(h:Sc w wr ta tc ma mc v WL T M)(A:W'.ownsRow w 54 2 v' WL'.length (aW WL'))(B:wr.grownBy W' v.ownBlock)(D:v'.ownBlock=v.ownBlock\/v'.ownBlock=some (wr:Nat)):Sc w W' ta tc ma mc v' WL' T M:=by
 have F:∀ad:Addr,(ad.block<(wr:Nat)/\v.ownBlock≠some ad.block)->ad.block<(W':Nat)/\v'.ownBlock≠some ad.block:=fun ad E=>by
  refine⟨aO E.1 B.size,fun e=>?_⟩;rcases D with C | C
  ·exact E.2 (C▸e)
  ·rw[C] at e;have:=XP e;omega
 exact⟨h.dt.kept B (fun _ ad e=>(h.at' ad e).2),h.dm.kept B (fun _ ad e=>(h.am ad e).2),h.tc,h.mc,A,fun ad e=>F ad (h.at' ad e),fun ad e=>F ad (h.am ad e),gM h.be h.ow B nr⟩
end
structure REq (xs:List Itm) (R:Qd×Qd) (F f j:Nat) (WL T M:Qd):Prop where
 kl:j<=WL.length
 eq:R=Cf xs f (WL.drop j) T M
 me:mea xs (WL.drop j) T<=f
 jf:j+f<=F
 tm:T.length+M.length+f<=F
section
variable {xs:List Itm} {R:Qd×Qd} {F f j:Nat} {WL T M:Qd}
theorem REq.len(h:REq xs R F f j WL T M):WL.length<=F:=by
 have A:=h.me;have B:=h.jf;have C:=h.kl;unfold mea at A;rw[ah] at A;omega
theorem REq.pos(h:REq xs R F f j WL T M)(B:j<WL.length):∃g,f=g+1:=by
 have A:=h.me;unfold mea at A;rw[ah] at A;exact⟨f-1,Zo⟩
theorem REq.fin(h:REq xs R F f j WL T M)(A:¬j<WL.length):R=(T,M):=by
 rw[h.eq,dV Zo];cases f <;> rfl
theorem REq.skip(h:REq xs R F (f+1) j WL T M)(C:j<WL.length)(D:WL[j]=(0,0)\/WL[j]∈T):REq xs R F f (j+1) WL T M:=by
 have A:=h.eq;have B:=h.me;rw[aN C] at A B;rw[Cf,if_pos D] at A;rw[KZ] at B;have E:=qm xs (WL.drop (j+1)) T WL[j];exact⟨C,A,Zo,Zh h.jf,Zh h.tm⟩
theorem REq.miss(h:REq xs R F (f+1) j WL T M)(C:j<WL.length)(D:¬(WL[j]=(0,0)\/WL[j]∈T))(E:(dW xs WL[j]).2≠0):REq xs R F f (j+1) WL T (mE M WL[j]):=by
 have A:=h.eq;have B:=h.me;rw[aN C] at A B;rw[Cf,if_neg D,if_pos E] at A;rw[KZ] at B;have G:=qm xs (WL.drop (j+1)) T WL[j];exact⟨C,A,Zo,Zh h.jf,by have:=h.tm; have:=Rb M WL[j]; omega⟩
theorem REq.hit(h:REq xs R F (f+1) j WL T M)(C:j<WL.length)(D:¬(WL[j]=(0,0)\/WL[j]∈T))(E:(dW xs WL[j]).2=0):REq xs R F f (j+1) (WL++gG (dW xs WL[j]).1) (mE T WL[j]) M:=by
 have A:=h.eq;have B:=h.me;rw[aN C] at A B;rw[Cf,if_neg D,if_neg (Zu E)] at A;rw[KZ] at B;have G:=yj (op:=WL.drop (j+1)) (fun e=>D (.inr e)) E (rZ (dW xs WL[j]).1);refine⟨Zy af,?_,?_,Zh h.jf,by have:=h.tm; have:=Rb T WL[j]; omega⟩
 ·rw[List.drop_append_of_le_length C]; exact A
 ·rw[List.drop_append_of_le_length C,KX]; exact Nat.le_of_succ_le_succ (aC G B)
end
def RY(xs:List Itm)(R:Qd×Qd)(F:Nat)(w:World)(f:Nat)(v6 v7 v8 iv:Value)(wr:World):Prop:=
 ∃j WL T M ta tc ma mc,v6=.slice ta T.length tc/\v7=.slice ma M.length mc/\iv=Yi (j:Nat)/\Sc w wr ta tc ma mc v8 WL T M/\REq xs R F f j WL T M
theorem Wl{d:Int×Int}(h:(dW xs d).2=0):OkO (dW xs d).1:=by
 obtain⟨x,_,_,A⟩:=oW h;have B:bI x.data=((dW xs d).1,0):=by rw[A,<-h]
 exact(kI B).2
theorem Ui(a:Qa)(xs:List Itm)(c:Nat)(ra:Qa)(roots:Qd)(rc:Nat)(w:World)(hp:Its w w a xs)(ha:Asc xs)(hr:dE w w ra roots)(F5:(xs.length:Int)<=2500)(F3:(roots.length:Int)<=10000)(hd:∀x∈xs,(x.data.length:Int)<=1000000):
  Qh 66 #[.slice a xs.length c,.slice ra roots.length rc] w (GotDD w (dh xs roots)):=by
 have HG:=Qf (fun d1 d2 W (hW:PM w W)=>KE a xs c d1 d2 W (hp.ahead hW) ha Zo hd);have F1:((jC xs roots:Nat):Int)<=3000000:=by unfold jC; omega
 obtain⟨R,hR⟩:=Qe (dh xs roots);have C4:Qg (REq xs R (jC xs roots) (jC xs roots) 0 roots [] []):=Qf ⟨Zo,by rw[hR,<-Na]; rfl,Nr xs roots,Zo,Zs⟩;rw[<-hR];generalize jC xs roots=F at C4 F1;obtain⟨n,hn⟩:=Qe xs.length;obtain⟨rn,D3⟩:=Qe roots.length;obtain⟨w1,B6⟩:=Qe (w.alloc (.cells #[] 54));have B4:PM w w1:=B6▸ba w _;have D2:w1.ownsRow w 54 2 (.slice w 0 0) 0 []:=B6▸Ta _ _ _ _ nr;obtain⟨v',W1,E,S,E0,B3⟩:=dM w1 (w:Nat) 24 (.slice w 0 0) [] D2 ra roots rc (hr.ahead B4) Zt B4.size;have G:Qg (Sc w W1 none 0 none 0 v' roots [] []):=Qf ⟨dE.nil _ _ _,dE.nil _ _ _,nr,nr,S,fun ad e=>(by cases e),fun ad e=>(by cases e),gM B4 D2 E0 nr⟩;rw[<-D3,B6] at E;have N:=Qf E;rw[<-hn] at HG ⊢;rw[<-D3];clear hp ha hr hn D3 E S E0 B3 B4 D2 B6 hR F5 F3 hd w1;go_enter func66,ntmps66;go_wp2_with (at_builtin; refine Lib.wpList_append_run _ rfl _ _ _ _ rfl _ _ rfl rfl _ _ N.o ?_);go_loopg [6,7,8,9] F (fun k v6 v7 v8 iv wr=>Qg (RY xs R F w k v6 v7 v8 iv wr))
 case atStart=>exact Qf ⟨0,roots,[],[],none,0,none,0,rfl,rfl,rfl,G.o,C4.o⟩
 case round=>
  clear G C4 N;obtain⟨j,WL,T,M,ta,tc,ma,mc,rfl,rfl,rfl,hm,he⟩:=hrel.out;obtain⟨HM,HE⟩:=Yj hm he;clear hm he hrel;have H1:=HE.o.len;have H0:=HE.o.tm;obtain⟨wa,wc,rfl,F4⟩:=aB HM.o.ow;obtain⟨C9,Q⟩:=Qe WL.length;have HL:=Qf Q;by_cases hj:j<WL.length
  ·obtain⟨C7,rfl⟩:=HE.o.pos hj;have P:=iy HM.o.ow;obtain⟨b0,o0,F0,G6,q0,q1⟩:=P j hj;subst F0;obtain⟨Y,A5,A2⟩:=Yk (fun h=>HE.o.skip hj h) (fun h1 h2=>HE.o.miss hj h1 h2) (fun h1 h2=>HE.o.hit hj h1 h2);have G7:j<C9:=Zo;have G8:j<3000000:=Zo;rw[<-Q] at F4 ⊢;clear P Q HE;generalize WL[j]=d at q0 q1 Y A5 A2;clear hj;obtain⟨d1,d2⟩:=d;simp only at q0 q1;obtain⟨u0,A8⟩:=Qe (wr.alloc (.cells #[Yu d1,Yu d2] 54));have G:Qg (Sc w u0 ta tc ma mc _ WL T M):=Qf (A8▸HM.o.alloc _);have B0:Qg (BK wr #[Yu d1,Yu d2] 54 u0):=Qf (A8▸BK.new _ _ _);have K:=Qf (Hr ta T tc d1 d2 u0 G.o.dt Zo);have hq:=fun W=>jD d1 d2 0 0 W
   rw[A8] at K;have Z:=Qf A8;clear A8 HM;cases hz:(d1==0&&d2==0) with
   | true=>
    rw[hz] at hq;have B:=Qf (Y.o (.inl (by simp only[XF,XS] at hz; rw[hz.1,hz.2])));clear Y A5 A2 hz K;have C:Qg (RY xs R F w C7 (.slice ta T.length tc) (.slice ma M.length mc) (.slice (some ⟨b0,o0,none⟩) C9 wc) (Yi ((j+1:Nat):Int)) u0):=Qf ⟨j+1,WL,T,M,ta,tc,ma,mc,rfl,rfl,rfl,HL.o▸G.o,B.o⟩;rw[Z.o] at C;rw[show(((j+1:Nat):Int))=(j:Int)+1 by omega] at C;clear G B Z B0;go_wp2_with fail;go_roundg C7
    case measure=>omega
    case rel=>exact C
   | false=>
    rw[hz] at hq;have E2:(d1,d2)≠(0,0):=by
     intro e;simp only[XC] at e;simp[e.1,e.2] at hz
    cases A0:decide ((d1,d2)∈T) with
    | true=>
     rw[A0] at K;have B:=Qf (Y.o (.inr (Zu A0)));clear Y A5 A2 hz A0;go_wp2_with fail;refine K.o.mono ?_;rintro e u1 ⟨rfl,D⟩;rw[<-Z.o] at D;have C:Qg (RY xs R F w C7 (.slice ta T.length tc) (.slice ma M.length mc) (.slice (some ⟨b0,o0,none⟩) C9 wc) (Yi ((j+1:Nat):Int)) u1):=Qf ⟨j+1,WL,T,M,ta,tc,ma,mc,rfl,rfl,rfl,HL.o▸G.o.below D,B.o⟩;rw[show(((j+1:Nat):Int))=(j:Int)+1 by omega] at C;clear D K G B Z B0;go_wp2_with fail;go_roundg C7
     case measure=>omega
     case rel=>exact C
    | false=>
     rw[A0] at K;have D1:¬((d1,d2)=(0,0)\/(d1,d2)∈T):=fun h=>by
      rcases h with h | h
      ·exact E2 h
      ·simp[h] at A0
     obtain⟨L,J,A6⟩:=Yk (A5.o D1) (A2.o D1) (fun h=>Wl (xs:=xs) (d:=(d1,d2)) h);clear Y A5 A2 hz A0 E2 D1;have A9:=Qf (fun W hW=>HG.o d1 d2 W hW);generalize dW xs (d1,d2)=OE at A9 L J A6;obtain⟨o,er⟩:=OE;simp only at A9 L J A6;go_wp2_with fail;refine K.o.mono ?_;rintro e u1 ⟨rfl,D⟩;rw[<-Z.o] at D;obtain⟨C8,C5⟩:=Yj (G.o.below D) (B0.o.below D);clear D K G B0 Z u0;obtain⟨e0,e1⟩:=BK.c2 C5.o;have D5:=Qf (A9.o u1 C8.o.be);go_wp2_with fail;refine D5.o.mono ?_;rintro e u2 ⟨ea,ec,pa,pc,rfl,E1,D⟩;obtain⟨D7,B1,D9⟩:=Yk (C8.o.below D) (C5.o.below D) E1;clear D E1 C8 C5 D5 A9 e0 e1;obtain⟨B8,data,E6,⟨t1,t2⟩,E7,B7,C2,E3⟩:=o;simp only[Ob.val];obtain⟨ne,B5⟩:=Qe E6.length;obtain⟨n,D0⟩:=Qe E7.length;rw[<-B5,<-D0];obtain⟨E4,E5⟩:=Yj B5 D0;clear B5 D0;obtain⟨u3,A1⟩:=Qe (u2.alloc (.cells #[Yi B8,data,.slice ea ne ec,Yu t1,Yu t2,.slice pa n pc,B7,Yi C2,E3] 59));have H:=Qf (D7.o.alloc (.cells #[Yi B8,data,.slice ea ne ec,Yu t1,Yu t2,.slice pa n pc,B7,Yi C2,E3] 59));have D6:Qg (BK wr #[Yu d1,Yu d2] 54 u3):=Qf (A1▸B1.o.alloc _);have C6:Qg (BK u2 #[Yi B8,data,.slice ea ne ec,Yu t1,Yu t2,.slice pa n pc,B7,Yi C2,E3] 59 u3):=Qf (A1▸BK.new _ _ _);have X:Qg (dZ (u1:Nat) u3 _ _ _ _ _):=Qf (A1▸D9.o.below (ba _ _));rw[<-A1] at H;have O:=Qf A1;obtain⟨e0,e1⟩:=BK.c2 B1.o;have p0:=fun z=>bP e0 z
     have p1:=fun z=>bP e1 z
     clear A1 D7 D9;by_cases he:er=0
     ·subst he;obtain⟨B,I⟩:=Yj (J.o rfl) (SI ta T tc d1 d2 u3 H.o.dt H.o.tc Zo);rw[O.o] at I;have V:=(eG T (d1,d2) (d1,d2)).2 (.inr rfl);have C1:=Qf (A6.o rfl);have F2:=rZ ⟨B8,data,E6,(t1,t2),E7,B7,C2,E3⟩;have D4:=Qf X.o.bb;clear L J A6;generalize mE T (d1,d2)=T2 at B I V;go_wp2_with fail;refine I.o.mono ?_;rintro e u4 ⟨qa,qc,rfl,P,A7,U,D⟩;rw[<-O.o] at D;rw[<-O.o] at U;obtain⟨A4,B9,C0⟩:=Yk (H.o.putT D P A7 V U) (C6.o.below D) (X.o.below D);have A3:=Qf (Uj _ ea ec pa pc u4 C0.o.inn D4.o C1.o);simp only[Ob.val] at A3;rw[<-E4.o,<-E5.o] at A3;clear D P A7 U I H O B1 D6 C6 X e0 e1 p0 p1 V C0 D4 C1;generalize gG ⟨B8,data,E6,(t1,t2),E7,B7,C2,E3⟩=ls at A3 F2 B;obtain⟨e0,e1,e2,e3,e4,e5,e6,e7,e8⟩:=BK.c9 B9.o;go_wp2_with fail;refine A3.o.mono ?_;rintro e u5 ⟨la,lc,rfl,C3,D⟩;have B2:=Qf (A4.o.below D);obtain⟨v2,u6,E,S,hg,B3⟩:=dM u5 (w:Nat) 24 _ WL B2.o.ow la ls lc (iy C3) (by push_cast; omega) B2.o.be.size;have D8:=Qf (B2.o.push S hg B3);have C:Qg (RY xs R F w C7 (.slice qa T2.length qc) (.slice ma M.length mc) v2 (Yi ((j+1:Nat):Int)) u6):=Qf ⟨j+1,_,T2,M,qa,qc,ma,mc,rfl,rfl,rfl,D8.o,B.o⟩;rw[show(((j+1:Nat):Int))=(j:Int)+1 by omega] at C;rw[<-HL.o] at E;have N:=Qf E;clear C3 D S hg B3 B2 D8 A4 A3 E B B9 e0 e1 e2 e3 e4 e5 e6 e7 e8;generalize T2.length=m2 at C ⊢;generalize ls.length=m3 at N ⊢;go_wp2_with (at_builtin; refine Lib.wpList_append_run _ rfl _ _ _ _ rfl _ _ rfl rfl _ _ N.o ?_);go_roundg C7
      case measure=>omega
      case rel=>exact C
     ·have B5:(er !=0)=true:=Zu he;obtain⟨B,I⟩:=Yj (L.o he) (SI ma M mc d1 d2 u3 H.o.dm H.o.mc Zo);rw[O.o] at I;have V:=(eG M (d1,d2) (d1,d2)).2 (.inr rfl);clear L J A6 he;generalize mE M (d1,d2)=M2 at B I V;go_wp2_with fail;refine I.o.mono ?_;rintro e u4 ⟨qa,qc,rfl,P,A7,U,D⟩;rw[<-O.o] at D;rw[<-O.o] at U;have A4:=Qf (H.o.putM D P A7 V U);have C:Qg (RY xs R F w C7 (.slice ta T.length tc) (.slice qa M2.length qc) (.slice (some ⟨b0,o0,none⟩) C9 wc) (Yi ((j+1:Nat):Int)) u4):=Qf ⟨j+1,WL,T,M2,ta,tc,qa,qc,rfl,rfl,rfl,HL.o▸A4.o,B.o⟩;rw[show(((j+1:Nat):Int))=(j:Int)+1 by omega] at C;clear D P A7 U I H A4 B O B1 D6 C6 X e0 e1 p0 p1 V;generalize M2.length=m2 at C ⊢;go_wp2_with fail;go_roundg C7
      case measure=>omega
      case rel=>exact C
  ·have HF:=Qf (HE.o.fin hj);rw[<-Q];have G9:¬(j<C9):=Q▸hj;go_wp2;go_ret2;rw[HF.o];exact⟨ta,tc,ma,mc,rfl,HM.o.dt,HM.o.dm,HM.o.be⟩
