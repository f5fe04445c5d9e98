/- A pool with one more commit; the pools of the chapter's example. Plain. -/
import Derived.Test.YtfdahmicigpnoaaGreatNeEx
import Derived.Test.YtfdahmicigpnoaaGreatNePq
set_option maxRecDepth 100000
set_option maxHeartbeats 16000000
open Go.Lib (hid)
namespace Go.Proofs.YtfdahmicigpnoaaGreat
open Go.RowKit Go.Shelf Go.Sort
set_option linter.unusedVariables false
theorem ins_ok2 {xs:List Itm} {x:Itm} (h:∀ y ∈ xs,y.d=x.d->y.data=x.data):(insS xs x).2=0:=by
 unfold insS
 split
 ·rename_i y hy
  by_cases e:y.d=x.d
  ·rw [if_pos e,if_pos (h y (List.mem_of_getElem? hy) e)]
  ·rw [if_neg e]
 ·rfl
theorem put_ok2 {xs:List Itm} (ha:Asc xs) {o:Ob} {S:List UInt8} (he:encodeS o=(S,0)) (hn:∀ y ∈ xs,y.d=digS S->y.data=S):∃ ys,putS xs o=(ys,digS S,0)/\Asc ys/\(∀ y,y ∈ ys ↔ y ∈ xs\/y=⟨digS S,S⟩)/\ys.length<=xs.length + 1:=by
 have h1:=ins_ok2 (x:=⟨digS S,S⟩) hn
 refine ⟨(insS xs ⟨digS S,S⟩).1,?_,ins_law ha (by rw [<-h1])⟩
 unfold putS
 rw [he]
 simp [h1]
theorem put_asc' {xs:List Itm} {o:Ob} (ha:Asc xs):Asc (putS xs o).1:=by
 rcases put_law ha o with ⟨h,_⟩ | h | ⟨_,x,_,h,_⟩
 ·unfold putS at h ⊢
  split
  ·exact fun i j hi=>by simp at hi
  ·split
   ·exact fun i j hi=>by simp at hi
   ·rename_i h1 h2
    rw [if_neg h1,if_neg h2] at h
    exact absurd rfl h
 ·unfold putS at h ⊢
  split
  ·exact fun i j hi=>by simp at hi
  ·split
   ·exact fun i j hi=>by simp at hi
   ·rename_i h1 h2
    rw [if_neg h1,if_neg h2] at h
    cases h
 ·exact h
theorem put_cases {xs:List Itm} (ha:Asc xs) (o:Ob):(putS xs o).1=[]\/∃ S,encodeS o=(S,0)/\(∀ y,y ∈ (putS xs o).1 ↔ y ∈ xs\/y=⟨digS S,S⟩)/\(putS xs o).1.length<=xs.length + 1:=by
 by_cases he:(encodeS o).2=0
 ·by_cases hi:(insS xs ⟨digS (encodeS o).1,(encodeS o).1⟩).2=0
  ·obtain ⟨a,b,c⟩:=ins_law ha (show insS xs ⟨digS (encodeS o).1,(encodeS o).1⟩=((insS xs ⟨digS (encodeS o).1,(encodeS o).1⟩).1,0) by rw [<-hi])
   right
   refine ⟨(encodeS o).1,Prod.ext rfl he,?_⟩
   unfold putS
   rw [if_neg (by simpa using he),if_neg (by simpa using hi)]
   exact ⟨b,c⟩
  ·left; unfold putS; rw [if_neg (by simpa using he),if_pos hi]
 ·left; unfold putS; rw [if_pos he]
theorem put_dat' {xs:List Itm} {o:Ob} (ha:Asc xs) (h:∀ x ∈ xs,(x.data.length:Int)<=65536):∀ x ∈ (putS xs o).1,(x.data.length:Int)<=65536:=by
 rcases put_cases ha o with h1 | ⟨S,h1,h2,_⟩
 ·rw [h1]; simp
 ·intro x hx
  rcases (h2 x).1 hx with h3 | rfl
  ·exact h x h3
  ·have:=encodeS_len o
   rw [h1] at this
   simp only at this ⊢
   omega
theorem put_size' {xs:List Itm} {o:Ob} (ha:Asc xs):(putS xs o).1.length<=xs.length + 1:=by
 rcases put_cases ha o with h1 | ⟨S,h1,_,h3⟩
 ·rw [h1]; simp
 ·exact h3
def com15 (xs:List Itm) (time:Int) (ps:List (Int × Int)):List Itm × (Int × Int):=
 ((putS (putS xs trO).1 (coO (putS xs trO).2.1 time ps)).1,(putS (putS xs trO).1 (coO (putS xs trO).2.1 time ps)).2.1)
section
variable {T A B C:Int × Int} {TT TA TB TC:List UInt8}
structure NxC (T A B C:Int × Int) (P1 P Q:List Itm):Prop where
 c1:com15 [] 1 []=(P1,A)
 cq:com15 P1 3 [A]=(Q,C)
 cp:com15 P1 2 [A]=(P,B)
 a1:Asc P1
 d1:∀ x ∈ P1,(x.data.length:Int)<=65536
 dp:∀ x ∈ P,(x.data.length:Int)<=65536
 dq:∀ x ∈ Q,(x.data.length:Int)<=65536
 l1:P1.length<=2
 lp:P.length<=4
 lq:Q.length<=4
 qp:NxQ T A B 2 P
 qq:NxQ T A C 3 Q
theorem nxC_of (v:NxV T A B C TT TA TB TC):∃ P1 P Q,NxC T A B C P1 P Q:=by
 obtain ⟨P0,p0,a0,m0,l0⟩:=put_ok2 (xs:=[]) (fun i j hi=>by simp at hi) v.eT (by simp)
 rw [<-v.dT] at p0 m0
 obtain ⟨P1,p1,a1,m1,l1⟩:=put_ok2 a0 v.eA (fun y hy e=>by
  rcases (m0 y).1 hy with h | rfl
  ·simp at h
  ·exact absurd (by rw [v.dA]; exact e) v.ta)
 rw [<-v.dA] at p1 m1
 have hm1:∀ y,y ∈ P1 ↔ y=⟨T,TT⟩\/y=⟨A,TA⟩:=fun y=>by rw [m1 y,m0 y]; simp
 obtain ⟨P2,p2,a2,m2,l2⟩:=put_ok2 a1 v.eT (fun y hy e=>by
  rcases (hm1 y).1 hy with rfl | rfl
  ·rfl
  ·exact absurd (by rw [v.dT]; exact e.symm) v.ta)
 rw [<-v.dT] at p2 m2
 have hm2:∀ y,y ∈ P2 ↔ y=⟨T,TT⟩\/y=⟨A,TA⟩:=fun y=>by
  rw [m2 y,hm1 y]
  constructor
  ·rintro (h | h)
   ·exact h
   ·exact .inl h
  ·exact .inl
 obtain ⟨Q,q,aq,mq,lq⟩:=put_ok2 a2 v.eC (fun y hy e=>by
  rcases (hm2 y).1 hy with rfl | rfl
  ·exact absurd (by rw [v.dC]; exact e) v.tc
  ·exact absurd (by rw [v.dC]; exact e) v.ac)
 rw [<-v.dC] at q mq
 obtain ⟨P,p,ap,mp,lp⟩:=put_ok2 a2 v.eB (fun y hy e=>by
  rcases (hm2 y).1 hy with rfl | rfl
  ·exact absurd (by rw [v.dB]; exact e) v.tb
  ·exact absurd (by rw [v.dB]; exact e) v.ab)
 rw [<-v.dB] at p mp
 have hnp:NxP T A B TT TA TB P:=⟨ap,fun y=>by rw [mp y,hm2 y,or_assoc]⟩
 have hnq:NxP T A C TT TA TC Q:=⟨aq,fun y=>by rw [mq y,hm2 y,or_assoc]⟩
 have d0:=put_dat' (xs:=[]) (o:=trO) (fun i j hi=>by simp at hi) (by simp)
 rw [p0] at d0
 have d1:=put_dat' (o:=coO T 1 []) a0 d0
 rw [p1] at d1
 have d2:=put_dat' (o:=trO) a1 d1
 rw [p2] at d2
 have dp:=put_dat' (o:=coO T 2 [A]) a2 d2
 rw [p] at dp
 have dq:=put_dat' (o:=coO T 3 [A]) a2 d2
 rw [q] at dq
 simp only [List.length_nil] at l0
 refine ⟨P1,P,Q,?_,?_,?_,a1,d1,dp,dq,by omega,by omega,by omega,v.qB hnp,v.qC hnq⟩
 ·unfold com15; rw [p0]; simp only; rw [p1]
 ·unfold com15; rw [p2]; simp only; rw [q]
 ·unfold com15; rw [p2]; simp only; rw [p]
structure NxT (A B C:Int × Int) (P Q:List Itm):Prop where
 b0:beginS P [B] [C]=(⟨[C],[B,A],[],[],false⟩,0)
 v0:ValidT P ⟨[C],[B,A],[],[],false⟩
 k0:askS true ⟨[C],[B,A],[],[],false⟩ 1=(⟨[C],[A],[B],[],false⟩,[B],0)
 w0:answS Q [B]=[]
 v1:ValidT P ⟨[C],[A],[B],[],false⟩
 n1:learnS true P ⟨[C],[A],[B],[],false⟩ []=(⟨[C],[A],[],[],false⟩,0)
 v2:ValidT P ⟨[C],[A],[],[],false⟩
 k2:askS true ⟨[C],[A],[],[],false⟩ 1=(⟨[C],[],[A],[],false⟩,[A],0)
 w2:answS Q [A]=[A]
 v3:ValidT P ⟨[C],[],[A],[],false⟩
 n3:learnS true P ⟨[C],[],[A],[],false⟩ [A]=(⟨[C],[],[],[A],true⟩,0)
 s4:sendS Q [C] [A]=([C],0)
theorem NxC.talk (v:NxV T A B C TT TA TB TC) {P1 P Q:List Itm} (h:NxC T A B C P1 P Q):NxT A B C P Q:=by
 have hp:=h.qp
 have hq:=h.qq
 have hh:hasS P C=false:=by
  unfold hasS hitB
  split
  ·rename_i y hy
   rw [decide_eq_false_iff_not]
   intro hd
   rcases hp.dig y (List.mem_of_getElem? hy) with e2 | e2 | e2
   ·exact v.tc (e2.symm.trans hd)
   ·exact v.ac (e2.symm.trans hd)
   ·exact v.bc (e2.symm.trans hd)
  ·rfl
 have hw:wantS P [C]=[C]:=by unfold wantS; simp [hh]; rfl
 have b0:beginS P [B] [C]=(⟨[C],[B,A],[],[],false⟩,0):=by
  unfold beginS
  rw [hp.ancsX,hw]
  simp
 have v0:ValidT P ⟨[C],[B,A],[],[],false⟩:=by
  have:=(begin_valid (xs:=P) (heads:=[B]) (want:=[C]) (by rw [b0])).1
  rwa [b0] at this
 have v1:ValidT P ⟨[C],[A],[B],[],false⟩:=(ask_valid v0 rfl rfl (n:=1) (by omega)).1
 have kb:Kn P B:=v0.kn B (by simp)
 have l1:learnT P ⟨[C],[A],[B],[],false⟩ []=⟨[C],[A],[],[],false⟩:=by
  unfold learnT
  have e:allS [] []=([]:List (Int × Int)):=rfl
  simp only [e]
  simp [undB]
 have v2:ValidT P ⟨[C],[A],[],[],false⟩:=by
  have:=learn_valid hp.acy v1 (com:=[]) (by simp) (by simp)
  rwa [l1] at this
 have v3:ValidT P ⟨[C],[],[A],[],false⟩:=(ask_valid v2 rfl rfl (n:=1) (by omega)).1
 have l3:learnT P ⟨[C],[],[A],[],false⟩ [A]=⟨[C],[],[],[A],true⟩:=by
  unfold learnT
  have e:allS [] [A]=[A]:=rfl
  simp only [e]
  have ht:topB P [A] A=true:=by unfold topB; simp
  simp [ht]
 refine ⟨b0,v0,?_,?_,v1,?_,v2,?_,?_,v3,?_,hq.send⟩
 ·simp [askS,askT]
 ·unfold answS
  rw [List.foldl_cons,List.foldl_nil]
  unfold answF
  have:=hq.cY v.tb v.ab (fun e=>v.bc e.symm)
  rw [this]; simp
 ·unfold learnS; rw [l1]; simp
 ·simp [askS,askT]
 ·unfold answS
  rw [List.foldl_cons,List.foldl_nil]
  unfold answF
  rw [hq.ancsA]; simp
 ·unfold learnS; rw [l3]; simp
end
end Go.Proofs.YtfdahmicigpnoaaGreat
