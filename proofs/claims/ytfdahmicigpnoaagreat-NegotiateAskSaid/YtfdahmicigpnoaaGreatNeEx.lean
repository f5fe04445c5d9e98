/- The example of the chapter: the client has A and B behind it, the server A and C behind it. Plain. -/
import Derived.Test.YtfdahmicigpnoaaGreatNeTk
set_option maxRecDepth 100000
set_option maxHeartbeats 16000000
open Go.Lib (hid)
namespace Go.Proofs.YtfdahmicigpnoaaGreat
open Go.RowKit Go.Shelf Go.Sort
set_option linter.unusedVariables false
def trO:Ob:=⟨2,[],[],(0,0),[],[],0,[]⟩
def coO (tr:Int × Int) (t:Int) (ps:List (Int × Int)):Ob:=⟨3,[],[],tr,ps,[97,110,110],t,[]⟩
def nxT:Int × Int:=digS (bodyO trO)
def nxA:Int × Int:=digS (bodyO (coO nxT 1 []))
def nxB:Int × Int:=digS (bodyO (coO nxT 2 [nxA]))
def nxC:Int × Int:=digS (bodyO (coO nxT 3 [nxA]))
theorem ncT:encodeS trO=(bodyO trO,0):=by decide +kernel
theorem ncA:encodeS (coO nxT 1 [])=(bodyO (coO nxT 1 []),0):=by decide +kernel
theorem ncB:encodeS (coO nxT 2 [nxA])=(bodyO (coO nxT 2 [nxA]),0):=by decide +kernel
theorem ncC:encodeS (coO nxT 3 [nxA])=(bodyO (coO nxT 3 [nxA]),0):=by decide +kernel
theorem nnTA:nxT ≠ nxA:=by decide +kernel
theorem nnTB:nxT ≠ nxB:=by decide +kernel
theorem nnTC:nxT ≠ nxC:=by decide +kernel
theorem nnAB:nxA ≠ nxB:=by decide +kernel
theorem nnAC:nxA ≠ nxC:=by decide +kernel
theorem nnBC:nxB ≠ nxC:=by decide +kernel
structure NxV (T A B C:Int × Int) (TT TA TB TC:List UInt8):Prop where
 eT:encodeS trO=(TT,0)
 eA:encodeS (coO T 1 [])=(TA,0)
 eB:encodeS (coO T 2 [A])=(TB,0)
 eC:encodeS (coO T 3 [A])=(TC,0)
 dT:T=digS TT
 dA:A=digS TA
 dB:B=digS TB
 dC:C=digS TC
 ta:T ≠ A
 tb:T ≠ B
 tc:T ≠ C
 ab:A ≠ B
 ac:A ≠ C
 bc:B ≠ C
theorem nxV:NxV nxT nxA nxB nxC (bodyO trO) (bodyO (coO nxT 1 [])) (bodyO (coO nxT 2 [nxA])) (bodyO (coO nxT 3 [nxA])):=
 ⟨ncT,ncA,ncB,ncC,rfl,rfl,rfl,rfl,nnTA,nnTB,nnTC,nnAB,nnAC,nnBC⟩
section
variable {T A B C:Int × Int} {TT TA TB TC:List UInt8}
theorem NxV.oT (v:NxV T A B C TT TA TB TC):OkD T:=by rw [v.dT]; exact digS_ok' _
theorem NxV.oA (v:NxV T A B C TT TA TB TC):OkD A:=by rw [v.dA]; exact digS_ok' _
theorem NxV.oB (v:NxV T A B C TT TA TB TC):OkD B:=by rw [v.dB]; exact digS_ok' _
theorem NxV.oC (v:NxV T A B C TT TA TB TC):OkD C:=by rw [v.dC]; exact digS_ok' _
theorem NxV.zT (v:NxV T A B C TT TA TB TC):T ≠ (0,0):=by rw [v.dT]; exact digS_ne' _
theorem NxV.zA (v:NxV T A B C TT TA TB TC):A ≠ (0,0):=by rw [v.dA]; exact digS_ne' _
theorem NxV.zB (v:NxV T A B C TT TA TB TC):B ≠ (0,0):=by rw [v.dB]; exact digS_ne' _
theorem NxV.zC (v:NxV T A B C TT TA TB TC):C ≠ (0,0):=by rw [v.dC]; exact digS_ne' _
theorem ok_co {tr:Int × Int} (ht:OkD tr) (t:Int) {ps:List (Int × Int)} (h:∀ d ∈ ps,OkD d):OkO (coO tr t ps):=⟨ht,h,fun e he=>by simp [coO] at he⟩
structure NxP (T A X:Int × Int) (TT TA TX:List UInt8) (P:List Itm):Prop where
 asc:Asc P
 mem:∀ y,y ∈ P ↔ y=⟨T,TT⟩\/y=⟨A,TA⟩\/y=⟨X,TX⟩
structure NxQ (T A X:Int × Int) (tm:Int) (P:List Itm):Prop where
 asc:Asc P
 dig:∀ y ∈ P,y.d=T\/y.d=A\/y.d=X
 gT:getS P T=(trO,0)
 gA:getS P A=(coO T 1 [],0)
 gX:getS P X=(coO T tm [A],0)
 lT:linksS trO=[]
 lA:linksS (coO T 1 [])=[T]
 lX:linksS (coO T tm [A])=[T,A]
 ta:T ≠ A
 tx:T ≠ X
 ax:A ≠ X
 zT:T ≠ (0,0)
 zA:A ≠ (0,0)
 zX:X ≠ (0,0)
 oX:OkD X
 oA:OkD A
theorem gets_of {P:List Itm} {o:Ob} {S:List UInt8} (ha:Asc P) (hm:(⟨digS S,S⟩:Itm) ∈ P) (he:encodeS o=(S,0)) (ho:OkO o):getS P (digS S)=(o,0):=by
 have h1:getS P (digS S)=decodeS S:=get_mem' (x:=⟨digS S,S⟩) ha hm
 rw [h1,decode_put he ho]
theorem links_tr {S:List UInt8} (h:encodeS trO=(S,0)):linksS trO=[]:=by unfold linksS; rw [h]; simp [trO]
theorem links_co {tr:Int × Int} {t:Int} {ps:List (Int × Int)} {S:List UInt8} (h:encodeS (coO tr t ps)=(S,0)):linksS (coO tr t ps)=tr :: ps:=by unfold linksS; rw [h]; simp [coO]
theorem NxV.qB {P:List Itm} (v:NxV T A B C TT TA TB TC) (h:NxP T A B TT TA TB P):NxQ T A B 2 P:=by
 refine ⟨h.asc,fun y hy=>?_,?_,?_,?_,links_tr v.eT,links_co v.eA,links_co v.eB,v.ta,v.tb,v.ab,v.zT,v.zA,v.zB,v.oB,v.oA⟩
 ·rcases (h.mem y).1 hy with rfl | rfl | rfl
  ·exact .inl rfl
  ·exact .inr (.inl rfl)
  ·exact .inr (.inr rfl)
 ·have:=gets_of h.asc (by rw [<-v.dT]; exact (h.mem _).2 (.inl rfl)) v.eT ⟨⟨⟨by decide,by decide⟩,by decide,by decide⟩,by simp [trO],fun e he=>by simp [trO] at he⟩
  rwa [<-v.dT] at this
 ·have:=gets_of h.asc (by rw [<-v.dA]; exact (h.mem _).2 (.inr (.inl rfl))) v.eA (ok_co v.oT 1 (by simp))
  rwa [<-v.dA] at this
 ·have:=gets_of h.asc (by rw [<-v.dB]; exact (h.mem _).2 (.inr (.inr rfl))) v.eB (ok_co v.oT 2 (by simp; exact v.oA))
  rwa [<-v.dB] at this
theorem NxV.qC {P:List Itm} (v:NxV T A B C TT TA TB TC) (h:NxP T A C TT TA TC P):NxQ T A C 3 P:=by
 refine ⟨h.asc,fun y hy=>?_,?_,?_,?_,links_tr v.eT,links_co v.eA,links_co v.eC,v.ta,v.tc,v.ac,v.zT,v.zA,v.zC,v.oC,v.oA⟩
 ·rcases (h.mem y).1 hy with rfl | rfl | rfl
  ·exact .inl rfl
  ·exact .inr (.inl rfl)
  ·exact .inr (.inr rfl)
 ·have:=gets_of h.asc (by rw [<-v.dT]; exact (h.mem _).2 (.inl rfl)) v.eT ⟨⟨⟨by decide,by decide⟩,by decide,by decide⟩,by simp [trO],fun e he=>by simp [trO] at he⟩
  rwa [<-v.dT] at this
 ·have:=gets_of h.asc (by rw [<-v.dA]; exact (h.mem _).2 (.inr (.inl rfl))) v.eA (ok_co v.oT 1 (by simp))
  rwa [<-v.dA] at this
 ·have:=gets_of h.asc (by rw [<-v.dC]; exact (h.mem _).2 (.inr (.inr rfl))) v.eC (ok_co v.oT 3 (by simp; exact v.oA))
  rwa [<-v.dC] at this
section
variable {X Y:Int × Int} {tm:Int} {P:List Itm}
theorem NxQ.cT (h:NxQ T A X tm P):(commitS P T).2=9:=by unfold commitS; rw [h.gT]; simp [trO]
theorem NxQ.cA (h:NxQ T A X tm P):commitS P A=(coO T 1 [],0):=by unfold commitS; rw [h.gA]; simp [coO]
theorem NxQ.cX (h:NxQ T A X tm P):commitS P X=(coO T tm [A],0):=by unfold commitS; rw [h.gX]; simp [coO]
theorem NxQ.com (h:NxQ T A X tm P) {d:Int × Int} (hd:(commitS P d).2=0):d=A\/d=X:=by
 obtain ⟨x,hx,rfl,_⟩:=getS_good (commit_ok hd).1
 rcases h.dig x hx with e | e | e
 ·rw [e,h.cT] at hd; cases hd
 ·exact .inl e
 ·exact .inr e
theorem NxQ.rk (h:NxQ T A X tm P) {d p:Int × Int} (hd:(commitS P d).2=0) (hp:p ∈ (commitS P d).1.pars):d=X/\p=A:=by
 rcases h.com hd with rfl | rfl
 ·rw [h.cA] at hp; simp [coO] at hp
 ·rw [h.cX] at hp; simp [coO] at hp; exact ⟨rfl,hp⟩
theorem NxQ.ancA (h:NxQ T A X tm P) {d:Int × Int} (hd:Anc P A d):d=A:=by
 cases hd with
 | refl=>rfl
 | step h1 h2 _=>exact absurd (h.rk h1 h2).1 h.ax
theorem NxQ.acy (h:NxQ T A X tm P):AcyS P:=fun d p hd hp ha=>by
 obtain ⟨rfl,rfl⟩:=h.rk hd hp
 exact h.ax (h.ancA ha).symm
theorem NxQ.visA (h:NxQ T A X tm P):visS P [A] []=([A],0):=by
 rw [vis_step h.cA (by simp)]
 show visS P [] [A]=_
 rw [visS_nil]
theorem NxQ.visX (h:NxQ T A X tm P):visS P [X] []=([X,A],0):=by
 rw [vis_step h.cX (by simp)]
 show visS P [A] [X]=_
 rw [vis_step h.cA (by simp; exact h.ax)]
 show visS P [] [X,A]=_
 rw [visS_nil]
theorem NxQ.depA (h:NxQ T A X tm P):depS P A=0:=by rw [depS_eq h.acy,h.cA]; rfl
theorem NxQ.depX (h:NxQ T A X tm P):depS P X=1:=by rw [depS_eq h.acy,h.cX]; simp [coO,h.depA]
theorem NxQ.ancsA (h:NxQ T A X tm P):ancS P [A]=([A],0):=by unfold ancS; rw [h.visA]; simp [sortH]
theorem NxQ.ancsX (h:NxQ T A X tm P):ancS P [X]=([X,A],0):=by
 unfold ancS
 rw [h.visX]
 have hnd:[X,A].Nodup:=by simp; exact fun e=>h.ax e.symm
 have:sortH (depS P) [X,A]=[X,A]:=by
  refine ascH_ext (sortH_asc hnd) ?_ (fun z=>(sortH_perm _ _).mem_iff)
  unfold AscH
  simp [cmpH_lt,h.depA,h.depX]
 simp [this]
theorem NxQ.none (h:NxQ T A X tm P) (hT:T ≠ Y) (hA:A ≠ Y) (hX:X ≠ Y):getS P Y=(obZ,8):=by
 by_cases h1:(getS P Y).2=0
 ·obtain ⟨x,hx,rfl,_⟩:=getS_good h1
  rcases h.dig x hx with e | e | e
  ·exact absurd e.symm hT
  ·exact absurd e.symm hA
  ·exact absurd e.symm hX
 ·unfold getS at h1 ⊢
  split
  ·rename_i y hy
   split
   ·rename_i e
    exfalso
    rcases h.dig y (List.mem_of_getElem? hy) with e2 | e2 | e2
    ·exact hT (e2.symm.trans e)
    ·exact hA (e2.symm.trans e)
    ·exact hX (e2.symm.trans e)
   ·rfl
  ·rfl
theorem NxQ.cY (h:NxQ T A X tm P) (hT:T ≠ Y) (hA:A ≠ Y) (hX:X ≠ Y):(ancS P [Y]).2=8:=by
 have h1:commitS P Y=(obZ,8):=by unfold commitS; rw [h.none hT hA hX]; simp
 have h2:visS P [Y] []=([],8):=by rw [visS_cons,if_neg (by simp),h1]; simp
 rw [ancS_err (by rw [h2]; simp),h2]
theorem NxQ.rchA (h:NxQ T A X tm P) {d:Int × Int}:Rch P [A] d ↔ d=A\/d=T:=by
 constructor
 ·intro hd
  induction hd with
  | root h1 _=>rw [List.mem_singleton] at h1; exact .inl h1
  | link h1 h2 h3 h4 ih=>
   rcases ih with rfl | rfl
   ·rw [h.gA,h.lA] at h3; simp at h3; exact .inr h3
   ·rw [h.gT,h.lT] at h3; simp at h3
 ·rintro (rfl | rfl)
  ·exact .root (by simp) h.zA
  ·exact .link (.root (by simp) h.zA) (by rw [h.gA]) (by rw [h.gA,h.lA]; simp) h.zT
theorem NxQ.rchX (h:NxQ T A X tm P) {d:Int × Int}:Rch P [X] d ↔ d=X\/d=A\/d=T:=by
 constructor
 ·intro hd
  induction hd with
  | root h1 _=>rw [List.mem_singleton] at h1; exact .inl h1
  | link h1 h2 h3 h4 ih=>
   rcases ih with rfl | rfl | rfl
   ·rw [h.gX,h.lX] at h3; simp at h3
    rcases h3 with e | e
    ·exact .inr (.inr e)
    ·exact .inr (.inl e)
   ·rw [h.gA,h.lA] at h3; simp at h3; exact .inr (.inr h3)
   ·rw [h.gT,h.lT] at h3; simp at h3
 ·have hX:Rch P [X] X:=.root (by simp) h.zX
  have hA:Rch P [X] A:=.link hX (by rw [h.gX]) (by rw [h.gX,h.lX]; simp) h.zA
  rintro (rfl | rfl | rfl)
  ·exact hX
  ·exact hA
  ·exact .link hA (by rw [h.gA]) (by rw [h.gA,h.lA]; simp) h.zT
theorem NxQ.send (h:NxQ T A X tm P):sendS P [X] [A]=([X],0):=by
 obtain ⟨a1,a2,a3⟩:=reachS_law P [X]
 obtain ⟨b1,b2,b3⟩:=reachS_law P [A]
 have hc:comE P ([X] ++ [A])=0:=by simp [comE,h.cX,h.cA]
 have hm:(reachS P [X]).2=[]:=by
  rw [List.eq_nil_iff_forall_not_mem]
  intro d hd
  obtain ⟨h1,h2⟩:=(a3 d).2.1 hd
  rcases h.rchX.1 h1 with rfl | rfl | rfl
  ·rw [h.gX] at h2; exact h2 rfl
  ·rw [h.gA] at h2; exact h2 rfl
  ·rw [h.gT] at h2; exact h2 rfl
 unfold sendS
 rw [hc,if_neg (by simp),hm,if_neg (by simp)]
 congr 1
 refine ascD_ext (a1.filter _) (List.pairwise_singleton _ _) (fun d=>?_)
 rw [List.mem_filter,(a3 d).1,List.mem_singleton]
 simp only [Bool.not_eq_true',decide_eq_false_iff_not]
 rw [(b3 d).1,h.rchX,h.rchA]
 constructor
 ·rintro ⟨⟨h1,h2⟩,h3⟩
  rcases h1 with e | e | e
  ·exact e
  ·exact absurd ⟨.inl e,h2⟩ h3
  ·exact absurd ⟨.inr e,h2⟩ h3
 ·rintro rfl
  refine ⟨⟨.inl rfl,by rw [h.gX]⟩,?_⟩
  rintro ⟨e | e,_⟩
  ·exact h.ax e.symm
  ·exact h.tx e.symm
end
end
end Go.Proofs.YtfdahmicigpnoaaGreat
