/- Joined texts: RpH, RpI, RpJ, RpK, RpL, RpM, RpN. -/
import Derived.Test.YtkedhdcnakhbgaaGreatK8
/- The reference's Put,Add,Keep,Union. -/
set_option linter.unusedSimpArgs false
set_option maxRecDepth 100000
set_option maxHeartbeats 16000000
open Go.Lib (hid)
namespace Go.Proofs.YtkedhdcnakhbgaaGreat
open Go.RowKit Go.Shelf
set_option linter.unusedVariables false
variable {x:Itm}{xs:List Itm}
theorem yS:Asc (x::xs)↔Asc xs/\∀y∈xs,eO x.d y.d<0:=by
 constructor
 ·intro h
  refine⟨fun i j C B A=>?_,fun y F=>?_⟩
  ·have:=h (i+1) (j+1) (by simp; omega) (by simp; omega) (by omega)
   simpa using this
  ·obtain⟨j,B,rfl⟩:=aV F
   have:=h 0 (j+1) (by simp) (by simp; omega) (by omega);simpa using this
 ·rintro⟨D,E⟩ i j C B A
  cases i with
  | zero=>
   cases j with
   | zero=>omega
   | succ j=>simp only[aS,bK]; exact E _ (ak _)
  | succ i=>
   cases j with
   | zero=>omega
   | succ j=>simp only[bK]; exact D i j (by simp at C; omega) (by simp at B; omega) (by omega)
theorem Md(h:Asc xs){y:Itm}(E:x∈xs)(F:y∈xs)(B:x.d=y.d):x=y:=by
 obtain⟨i,C,rfl⟩:=aV E;obtain⟨j,D,rfl⟩:=aV F;rcases Nat.lt_trichotomy i j with A | A | A
 ·have:=h i j C D A; rw[B,fO] at this; omega
 ·subst A; rfl
 ·have:=h j i D C A; rw[B,fO] at this; omega
theorem Gz(h:Asc xs)(p:Itm->Bool):Asc (xs.filter p):=by
 induction xs with
 | nil=>exact fun i j C=>by simp at C
 | cons x xs ih=>
  obtain⟨A,B⟩:=yS.1 h;rw[kK];split
  ·exact yS.2 ⟨ih A,fun y D=>B y (List.mem_filter.1 D).1⟩
  ·exact ih A
theorem EI:∀{xs:List Itm} {p:Option (Int×Int)},(∀x∈xs,vg x=0)->Asc xs->(∀q,p=some q->∀x∈xs,eO q x.d<0)->vR p xs=0
 | [],p,_,_,_=>by cases p <;> rfl
 | x::xs,p,B,C,D=>by
  obtain⟨E,F⟩:=yS.1 C;rw[vR,if_neg (by simpa using B x (by simp)),if_neg]
  ·exact EI (fun y A=>B y (by simp[A])) E (fun q G y A=>by cases G; exact F y A)
  ·cases p with
   | none=>simp[vO]
   | some q=>
    have:=D q rfl x (by simp);have:=iZ (a:=x.d) (b:=q);simp[vO];omega
theorem FX{o:Ob}(h:(aR o).2=0):gG o=((o.ents.map (·.d))++(if o.kind=3 then[o.tree] else[]))++o.pars:=by
 unfold gG;rw[if_neg (by simpa using h)];by_cases B:o.kind=3
 ·simp[B]
 ·have A:=(fA (kG h)).1
  have E:=eP A;have D:o.pars=[]:=by
   by_cases C:o.kind=1\/o.kind=4
   ·rw[mh A C]; rfl
   ·rw[(jO A (by omega)).1]; rfl
  simp[B,D]
open Go.RowKit Go.Shelf Go.Sort
inductive Rch (xs:List Itm) (roots:Qd):Int×Int->Prop
 | root {d:Int×Int}:d∈roots->d≠(0,0)->Rch xs roots d
 | link {d l:Int×Int}:Rch xs roots d->(dW xs d).2=0->l∈gG (dW xs d).1->l≠(0,0)->Rch xs roots l
structure Sea (xs:List Itm) (roots op T M:Qd):Prop where
 o:∀d∈op,d≠(0,0)->Rch xs roots d
 t:∀d∈T,Rch xs roots d/\(dW xs d).2=0
 m:∀d∈M,Rch xs roots d/\(dW xs d).2≠0
 rt:∀d∈roots,d=(0,0)\/d∈T\/d∈M\/d∈op
 ln:∀d∈T,∀l∈gG (dW xs d).1,l=(0,0)\/l∈T\/l∈M\/l∈op
theorem Sea.start(xs:List Itm)(roots:Qd):Sea xs roots roots [] []:=
 ⟨fun d A B=>.root A B,fun d h=>(by simp at h),fun d h=>(by simp at h),fun d h=>.inr (.inr (.inr h)),fun d h=>(by simp at h)⟩
theorem Sea.step{xs:List Itm}{roots op T M op' T' M':Qd}(h:Sea xs roots op T M)
  (C:∀x,x∈op\/x∈T\/x∈M->x=(0,0)\/x∈T'\/x∈M'\/x∈op')
  (N:∀x∈T',x∈T\/(x∈op/\x≠(0,0)/\(dW xs x).2=0))
  (J:∀x∈M',x∈M\/(x∈op/\x≠(0,0)/\(dW xs x).2≠0))
  (L:∀x∈op',x∈op\/∃t∈T',x∈gG (dW xs t).1)
  (K:∀t∈T',t∉T->∀l∈gG (dW xs t).1,l=(0,0)\/l∈T'\/l∈M'\/l∈op'):Sea xs roots op' T' M':=by
 have F:∀d∈T',Rch xs roots d/\(dW xs d).2=0:=fun d B=>by
  rcases N d B with A | ⟨A,D,E⟩
  ·exact h.t d A
  ·exact⟨h.o d A D,E⟩
 refine⟨fun d B I=>?_,F,fun d B=>?_,fun d B=>?_,fun d B l G=>?_⟩
 ·rcases L d B with A | ⟨t,A,D⟩
  ·exact h.o d A I
  ·exact .link (F t A).1 (F t A).2 D I
 ·rcases J d B with A | ⟨A,D,E⟩
  ·exact h.m d A
  ·exact⟨h.o d A D,E⟩
 ·rcases h.rt d B with A | A | A | A
  ·exact .inl A
  ·exact C d (.inr (.inl A))
  ·exact C d (.inr (.inr A))
  ·exact C d (.inl A)
 ·by_cases H:d∈T
  ·rcases h.ln d H l G with A | A | A | A
   ·exact .inl A
   ·exact C l (.inr (.inl A))
   ·exact C l (.inr (.inr A))
   ·exact C l (.inl A)
  ·exact K d B H l G
theorem Sea.done{roots T M:Qd}(h:Sea xs roots [] T M)(d:Int×Int):(d∈T↔Rch xs roots d/\(dW xs d).2=0)/\(d∈M↔Rch xs roots d/\(dW xs d).2≠0):=by
 have key:∀d,Rch xs roots d->d∈T\/d∈M:=by
  intro d D;induction D with
  | root A E=>
   rcases h.rt _ A with B | B | B | B
   ·exact absurd B E
   ·exact .inl B
   ·exact .inr B
   ·simp at B
  | link A E B F ih=>
   rcases ih with ih | ih
   ·rcases h.ln _ ih _ B with C | C | C | C
    ·exact absurd C F
    ·exact .inl C
    ·exact .inr C
    ·simp at C
   ·exact absurd E (h.m _ ih).2
 refine⟨⟨h.t d,fun D=>?_⟩,⟨h.m d,fun D=>?_⟩⟩
 ·rcases key d D.1 with A | A
  ·exact A
  ·exact absurd D.2 (h.m d A).2
 ·rcases key d D.1 with A | A
  ·exact absurd (h.t d A).2 D.2
  ·exact A
theorem wS{R:Qd}{d:Int×Int}(h:R.Nodup)(C:d∉R):(R++[d]).Nodup:=by
 rw[List.nodup_append];refine⟨h,by simp,fun a B b A e=>?_⟩;simp at A;exact C (by rw[<-A,<-e]; exact B)
theorem lK(xs:List Itm)(roots:Qd):∀(f:Nat) (op met R M:Qd),Sea xs roots op R M->(∀d,d∈met↔d=(0,0)\/d∈R\/d∈M)->R.Nodup->M.Nodup->mea xs op met<=f->
  Sea xs roots [] (fI xs f op met R M).1 (fI xs f op met R M).2/\(fI xs f op met R M).1.Nodup/\(fI xs f op met R M).2.Nodup
 | 0,op,met,R,M,h,F,D,E,J=>by
  have:op=[]:=by unfold mea at J; exact aU (by omega)
  subst this;exact⟨h,D,E⟩
 | f+1,op,met,R,M,h,F,D,E,J=>by
  rcases iI op with rfl | ⟨l,d,rfl⟩
  ·rw[wE]; exact⟨h,D,E⟩
  ·rw[iJ] at h J ⊢
   have C:∀x,x∈l++[d]↔x∈l\/x=d:=fun x=>by simp
   by_cases G:d∈met
   ·rw[wF G]
    refine lK xs roots f l met R M (h.step ?_ (fun x A=>.inl A) (fun x A=>.inl A) (fun x A=>.inl ((C x).2 (.inl A))) (fun t D E=>absurd D E)) F D E (by have:=qm xs l met d; omega);intro x A;rcases A with A | A | A
    ·rcases(C x).1 A with A | rfl
     ·exact .inr (.inr (.inr A))
     ·rcases(F x).1 G with B | B | B
      ·exact .inl B
      ·exact .inr (.inl B)
      ·exact .inr (.inr (.inl B))
    ·exact .inr (.inl A)
    ·exact .inr (.inr (.inl A))
   ·have O:d≠(0,0):=fun e=>G ((F d).2 (.inl e))
    have S:d∉R:=fun e=>G ((F d).2 (.inr (.inl e)))
    have Q:d∉M:=fun e=>G ((F d).2 (.inr (.inr e)))
    by_cases I:(dW xs d).2=0
    ·rw[wG G I]
     have K:((gG (dW xs d).1).filter fun l=>!decide (l∈d::met)).length<=200:=aC (List.length_filter_le _ _) (rZ _);refine lK xs roots f _ (d::met) (R++[d]) M (h.step ?_ ?_ (fun x A=>.inl A) ?_ ?_) (fun x=>?_) (wS D S) E (by have:=yj (op:=l) G I K; omega)
     ·intro x A
      rcases A with A | A | A
      ·rcases(C x).1 A with A | rfl
       ·exact .inr (.inr (.inr (by simp[A])))
       ·exact .inr (.inl (by simp))
      ·exact .inr (.inl (by simp[A]))
      ·exact .inr (.inr (.inl A))
     ·intro x A
      rcases aD.1 A with A | A
      ·exact .inl A
      ·simp at A; subst A; exact .inr ⟨(C x).2 (.inr rfl),O,I⟩
     ·intro x A
      rcases aD.1 A with A | A
      ·exact .inl ((C x).2 (.inl A))
      ·exact .inr ⟨d,by simp,(List.mem_filter.1 A).1⟩
     ·intro t U L l2 T
      have:t=d:=by
       rcases aD.1 U with B | B
       ·exact absurd B L
       ·simpa using B
      subst this;by_cases N:l2∈t::met
      ·rcases List.mem_cons.1 N with rfl | P
       ·exact .inr (.inl (by simp))
       ·rcases(F l2).1 P with H | H | H
        ·exact .inl H
        ·exact .inr (.inl (by simp[H]))
        ·exact .inr (.inr (.inl H))
      ·refine .inr (.inr (.inr (aD.2 (.inr (List.mem_filter.2 ⟨T,?_⟩)))))
       rw[decide_eq_false N]; rfl
     ·rw[List.mem_cons,F x,aD,aH]
      constructor
      ·rintro(B | B | B | B)
       ·exact .inr (.inl (.inr B))
       ·exact .inl B
       ·exact .inr (.inl (.inl B))
       ·exact .inr (.inr B)
      ·rintro(B | (B | B) | B)
       ·exact .inr (.inl B)
       ·exact .inr (.inr (.inl B))
       ·exact .inl B
       ·exact .inr (.inr (.inr B))
    ·rw[tN G I]
     refine lK xs roots f l (d::met) R (M++[d]) (h.step ?_ (fun x A=>.inl A) ?_ (fun x A=>.inl ((C x).2 (.inl A))) (fun t D E=>absurd D E)) (fun x=>?_) D (wS E Q) (by have:=yh xs l met d; omega)
     ·intro x A
      rcases A with A | A | A
      ·rcases(C x).1 A with A | rfl
       ·exact .inr (.inr (.inr A))
       ·exact .inr (.inr (.inl (by simp)))
      ·exact .inr (.inl A)
      ·exact .inr (.inr (.inl (by simp[A])))
     ·intro x A
      rcases aD.1 A with A | A
      ·exact .inl A
      ·simp at A; subst A; exact .inr ⟨(C x).2 (.inr rfl),O,I⟩
     ·rw[List.mem_cons,F x,aD,aH]
      constructor
      ·rintro(B | B | B | B)
       ·exact .inr (.inr (.inr B))
       ·exact .inl B
       ·exact .inr (.inl B)
       ·exact .inr (.inr (.inl B))
      ·rintro(B | B | B | B)
       ·exact .inr (.inl B)
       ·exact .inr (.inr (.inl B))
       ·exact .inr (.inr (.inr B))
       ·exact .inl B
def EX(l:Qd):Prop:=l.Pairwise fun x y=>eO x y<0
theorem yT:∀{xs ys:Qd},EX xs->EX ys->(∀x,x∈xs↔x∈ys)->xs=ys
 | [],[],_,_,_=>rfl
 | [],y::ys,_,_,A=>by have:=(A y).2 (by simp); simp at this
 | x::xs,[],_,_,A=>by have:=(A x).1 (by simp); simp at this
 | x::xs,y::ys,B,C,A=>by
  unfold EX at B C;rw[vW] at B C;have e:x=y:=by
   rcases List.mem_cons.1 ((A x).1 (by simp)) with h | h
   ·exact h
   ·rcases List.mem_cons.1 ((A y).2 (by simp)) with E | E
    ·exact E.symm
    ·have g1:=B.1 y E
     have g2:=C.1 x h;have:=iZ (a:=x) (b:=y);omega
  subst e;congr 1;refine yT B.2 C.2 fun z=>⟨fun D=>?_,fun D=>?_⟩
  ·rcases List.mem_cons.1 ((A z).1 (by simp[D])) with rfl | h
   ·have:=B.1 z D; rw[fO] at this; omega
   ·exact h
  ·rcases List.mem_cons.1 ((A z).2 (by simp[D])) with rfl | h
   ·have:=C.1 z D; rw[fO] at this; omega
   ·exact h
theorem zm{l:Qd}(h:l.Nodup):EX (kV l):=by
 have A:(kV l).Pairwise (fun x y=>(!(ltOf eO) y x)=true):=by
  unfold kV;refine List.pairwise_mergeSort (fun a b c A B=>?_) (fun a b=>?_) l
  ·simp only[Bool.not_eq_true'] at A B ⊢
   exact swoD.ntrans c b a B A
  ·unfold ltOf
   have g1:=bF a b;have g2:=bF b a;by_cases g:eO b a<0
   ·have:¬eO a b<0:=by omega
    simp[g,this]
   ·simp[g]
 have B:(kV l).Nodup:=(lJ l).nodup_iff.2 h;refine(A.and B).imp ?_;rintro x y ⟨C,D⟩;unfold ltOf at C;simp only[Bool.not_eq_true',decide_eq_false_iff_not] at C;have g1:=bF x y;have g2:=bF y x;have:¬eO x y=0:=fun e=>D (lv.1 e)
 omega
theorem gW(xs:List Itm)(roots:Qd):EX (dh xs roots).1/\EX (dh xs roots).2/\∀d,(d∈(dh xs roots).1↔Rch xs roots d/\(dW xs d).2=0)/\(d∈(dh xs roots).2↔Rch xs roots d/\(dW xs d).2≠0):=by
 obtain⟨A,B,C⟩:=lK xs roots (jC xs roots) roots [(0,0)] [] [] (Sea.start xs roots) (fun d=>by simp) (by simp) (by simp) (zY xs roots);unfold dh;refine⟨zm B,zm C,fun d=>?_⟩;simp only;rw[(lJ _).mem_iff,(lJ _).mem_iff];exact A.done d
theorem Ic(y:Int×Int)(l:Qd)(d:Int×Int):Mm (y::l) d=if eO y d<0 then Mm l d+1 else 0:=by
 unfold Mm;by_cases h:eO y d<0 <;> simp[h]
theorem pR(y:Int×Int)(l:Qd)(d:Int×Int):mE (y::l) d=if eO y d<0 then y::mE l d else if y=d then y::l else d::y::l:=by
 unfold mE;rw[Ic];by_cases h:eO y d<0
 ·rw[if_pos h,if_pos h]
  simp only[List.getElem?_cons_succ,jS,List.drop_succ_cons];split <;> rfl
 ·rw[if_neg h,if_neg h]
  simp
theorem eG:∀(l:Qd) (d x:Int×Int),x∈mE l d↔x∈l\/x=d
 | [],d,x=>by simp[mE,Mm]
 | y::l,d,x=>by
  rw[pR];by_cases h:eO y d<0
  ·rw[if_pos h,List.mem_cons,eG l d x,List.mem_cons,or_assoc]
  ·rw[if_neg h]
   by_cases B:y=d
   ·rw[if_pos B]
    refine⟨.inl,fun A=>?_⟩;rcases A with A | A
    ·exact A
    ·rw[A,<-B]; simp
   ·rw[if_neg B,List.mem_cons]
    exact or_comm
theorem tq:∀{l:Qd} (d:Int×Int),EX l->EX (mE l d)
 | [],d,_=>by simp[mE,Mm,EX]
 | y::l,d,h=>by
  rw[pR];have E:=h;unfold EX at h;rw[vW] at h;by_cases C:eO y d<0
  ·rw[if_pos C]
   refine vW.2 ⟨fun z D=>?_,tq d h.2⟩;rcases(eG l d z).1 D with A | rfl
   ·exact h.1 z A
   ·exact C
  ·rw[if_neg C]
   by_cases B:y=d
   ·rw[if_pos B]; exact E
   ·rw[if_neg B]
    have F:eO d y<0:=by
     have g0:¬eO y d=0:=fun e=>B (lv.1 e)
     have:=iZ (a:=d) (b:=y);omega
    refine vW.2 ⟨fun z D=>?_,E⟩;rcases List.mem_cons.1 D with rfl | A
    ·exact F
    ·exact qA F (h.1 z A)
def Cf(xs:List Itm):Nat->Qd->Qd->Qd->Qd×Qd
 | 0,_,T,M=>(T,M)
 | f+1,[],T,M=>(T,M)
 | f+1,d::ws,T,M=>if d=(0,0)\/d∈T then Cf xs f ws T M else if(dW xs d).2≠0 then Cf xs f ws T (mE M d) else Cf xs f (ws++gG (dW xs d).1) (mE T d) M
theorem KZ(xs:List Itm)(ws T:Qd)(d:Int×Int):mea xs (d::ws) T=mea xs (ws++[d]) T:=by
 unfold mea; simp
theorem KX(xs:List Itm)(ws T:Qd)(d:Int×Int):mea xs ws (mE T d)=mea xs ws (d::T):=by
 unfold mea;congr 3;funext x;congr 1;rw[decide_eq_decide,eG,List.mem_cons];exact or_comm
theorem rR(xs:List Itm)(roots:Qd):∀(f:Nat) (ws T M:Qd),Sea xs roots ws T M->EX T->EX M->mea xs ws T<=f->
  Sea xs roots [] (Cf xs f ws T M).1 (Cf xs f ws T M).2/\EX (Cf xs f ws T M).1/\EX (Cf xs f ws T M).2
 | 0,ws,T,M,h,B,C,G=>by
  have:ws=[]:=by unfold mea at G; exact aU (by omega)
  subst this;exact⟨h,B,C⟩
 | f+1,[],T,M,h,B,C,G=>by rw[Cf]; exact⟨h,B,C⟩
 | f+1,d::ws,T,M,h,B,C,G=>by
  rw[Cf];rw[KZ] at G;by_cases E:d=(0,0)\/d∈T
  ·rw[if_pos E]
   refine rR xs roots f ws T M (h.step ?_ (fun x A=>.inl A) (fun x A=>.inl A) (fun x A=>.inl (by simp[A])) (fun t B C=>absurd B C)) B C (by have:=qm xs ws T d; omega);intro x A;rcases A with A | A | A
   ·rcases List.mem_cons.1 A with rfl | A
    ·rcases E with D | D
     ·exact .inl D
     ·exact .inr (.inl D)
    ·exact .inr (.inr (.inr A))
   ·exact .inr (.inl A)
   ·exact .inr (.inr (.inl A))
  ·rw[if_neg E]
   have I:d≠(0,0):=fun e=>E (.inl e)
   have J:d∉T:=fun e=>E (.inr e)
   by_cases F:(dW xs d).2=0
   ·rw[if_neg (by simpa using F)]
    refine rR xs roots f _ (mE T d) M (h.step ?_ ?_ (fun x A=>.inl A) ?_ ?_) (tq d B) C (by have:=yj (op:=ws) J F (rZ (dW xs d).1); rw[KX]; omega)
    ·intro x A
     rcases A with A | A | A
     ·rcases List.mem_cons.1 A with rfl | A
      ·exact .inr (.inl ((eG _ _ _).2 (.inr rfl)))
      ·exact .inr (.inr (.inr (by simp[A])))
     ·exact .inr (.inl ((eG _ _ _).2 (.inl A)))
     ·exact .inr (.inr (.inl A))
    ·intro x A
     rcases(eG _ _ _).1 A with A | rfl
     ·exact .inl A
     ·exact .inr ⟨by simp,I,F⟩
    ·intro x A
     rcases aD.1 A with A | A
     ·exact .inl (by simp[A])
     ·exact .inr ⟨d,(eG _ _ _).2 (.inr rfl),A⟩
    ·intro t L H l2 K
     rcases(eG _ _ _).1 L with D | rfl
     ·exact absurd D H
     ·exact .inr (.inr (.inr (aD.2 (.inr K))))
   ·rw[if_pos F]
    refine rR xs roots f ws T (mE M d) (h.step ?_ (fun x A=>.inl A) ?_ (fun x A=>.inl (by simp[A])) (fun t B C=>absurd B C)) B (tq d C) (by have:=qm xs ws T d; omega)
    ·intro x A
     rcases A with A | A | A
     ·rcases List.mem_cons.1 A with rfl | A
      ·exact .inr (.inr (.inl ((eG _ _ _).2 (.inr rfl))))
      ·exact .inr (.inr (.inr A))
     ·exact .inr (.inl A)
     ·exact .inr (.inr (.inl ((eG _ _ _).2 (.inl A))))
    ·intro x A
     rcases(eG _ _ _).1 A with A | rfl
     ·exact .inl A
     ·exact .inr ⟨by simp,I,F⟩
theorem Nr(xs:List Itm)(roots:Qd):mea xs roots []<=jC xs roots:=by
 have:xs.countP (fun x=>!decide (x.d∈([]:Qd)))<=xs.length:=List.countP_le_length;unfold mea jC;omega
theorem Na(xs:List Itm)(roots:Qd):Cf xs (jC xs roots) roots [] []=dh xs roots:=by
 obtain⟨A,B,C⟩:=rR xs roots (jC xs roots) roots [] [] (Sea.start xs roots) (List.Pairwise.nil) (List.Pairwise.nil) (Nr xs roots);obtain⟨g1,g2,g3⟩:=gW xs roots;refine Prod.ext (yT B g1 fun d=>?_) (yT C g2 fun d=>?_)
 ·rw[(A.done d).1,(g3 d).1]
 ·rw[(A.done d).2,(g3 d).2]
section
variable {w wr W':World} {ta ma a:Qa} {tc mc c:Nat} {v v':Value} {WL T M T' M' WL':Qd}
end
section
variable {xs:List Itm} {R:Qd×Qd} {F f j:Nat} {WL T M:Qd}
end
