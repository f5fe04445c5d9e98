/- Joined texts: RpH, RpI, RpJ, RpK, RpL, RpM, RpN. -/
import Derived.Test.YtijkieiihpiljaaGreatK8
/- The reference's Put,Add,Keep,Union. -/
set_option maxRecDepth 100000
set_option maxHeartbeats 16000000
open Go.Lib (hid)
namespace Go.Proofs.YtijkieiihpiljaaGreat
open Go.RowKit Go.Shelf
set_option linter.unusedVariables false
theorem keepS_take (xs:List Itm) (l:List (Int × Int)) (k:Nat) (h:k < xs.length):keepS (xs.take (k + 1)) l=keepS (xs.take k) l ++ (if decide (xs[k].d ∈ l)=true then [xs[k]] else []):=by
 unfold keepS
 rw [List.take_succ_eq_append_getElem h,List.filter_append]
 congr 1
 by_cases hd:xs[k].d ∈ l
 ·simp [hd]
 ·simp [hd]
theorem asc_cons {x:Itm} {xs:List Itm}:Asc (x :: xs) ↔ Asc xs/\∀ y ∈ xs,cmpD x.d y.d < 0:=by
 constructor
 ·intro h
  refine ⟨fun i j hi hj hij=>?_,fun y hy=>?_⟩
  ·have:=h (i + 1) (j + 1) (by simp; omega) (by simp; omega) (by omega)
   simpa using this
  ·obtain ⟨j,hj,rfl⟩:=List.getElem_of_mem hy
   have:=h 0 (j + 1) (by simp) (by simp; omega) (by omega)
   simpa using this
 ·rintro ⟨h1,h2⟩ i j hi hj hij
  cases i with
  | zero=>
   cases j with
   | zero=>omega
   | succ j=>simp only [List.getElem_cons_zero,List.getElem_cons_succ]; exact h2 _ (List.getElem_mem _)
  | succ i=>
   cases j with
   | zero=>omega
   | succ j=>simp only [List.getElem_cons_succ]; exact h1 i j (by simp at hi; omega) (by simp at hj; omega) (by omega)
theorem asc_same {xs:List Itm} (h:Asc xs) {x y:Itm} (hx:x ∈ xs) (hy:y ∈ xs) (hd:x.d=y.d):x=y:=by
 obtain ⟨i,hi,rfl⟩:=List.getElem_of_mem hx
 obtain ⟨j,hj,rfl⟩:=List.getElem_of_mem hy
 rcases Nat.lt_trichotomy i j with h1 | h1 | h1
 ·have:=h i j hi hj h1; rw [hd,cmpD_self] at this; omega
 ·subst h1; rfl
 ·have:=h j i hj hi h1; rw [hd,cmpD_self] at this; omega
def Clash (xs ys:List Itm):Prop:=∃ z y,(z ∈ xs\/z ∈ ys)/\(y ∈ xs\/y ∈ ys)/\z.d=y.d/\z ≠ y
theorem Clash.symm {xs ys:List Itm} (h:Clash xs ys):Clash ys xs:=by
 obtain ⟨z,y,h1,h2,h3⟩:=h
 exact ⟨z,y,h1.symm,h2.symm,h3⟩
structure UniOk (xs ys zs:List Itm):Prop where
 asc:Asc zs
 mem:∀ z,z ∈ zs ↔ z ∈ xs\/z ∈ ys
theorem UniOk.no {xs ys zs:List Itm} (h:UniOk xs ys zs) (hc:Clash xs ys):False:=by
 obtain ⟨z,y,h1,h2,h3,h4⟩:=hc
 exact h4 (asc_same h.asc ((h.mem z).2 h1) ((h.mem y).2 h2) h3)
theorem asc_filter {xs:List Itm} (h:Asc xs) (p:Itm->Bool):Asc (xs.filter p):=by
 induction xs with
 | nil=>exact fun i j hi=>by simp at hi
 | cons x xs ih=>
  obtain ⟨h1,h2⟩:=asc_cons.1 h
  rw [List.filter_cons]
  split
  ·exact asc_cons.2 ⟨ih h1,fun y hy=>h2 y (List.mem_filter.1 hy).1⟩
  ·exact ih h1
theorem chkGo_of:∀ {xs:List Itm} {p:Option (Int × Int)},(∀ x ∈ xs,chkI x=0)->Asc xs->(∀ q,p=some q->∀ x ∈ xs,cmpD q x.d < 0)->chkGo p xs=0
 | [],p,_,_,_=>by cases p <;> rfl
 | x :: xs,p,h1,h2,h3=>by
  obtain ⟨h4,h5⟩:=asc_cons.1 h2
  rw [chkGo,if_neg (by simpa using h1 x (by simp)),if_neg]
  ·exact chkGo_of (fun y hy=>h1 y (by simp [hy])) h4 (fun q hq y hy=>by cases hq; exact h5 y hy)
  ·cases p with
   | none=>simp [prevD]
   | some q=>
    have:=h3 q rfl x (by simp)
    have:=cmpD_anti (a:=x.d) (b:=q)
    simp [prevD]
    omega
theorem own_empty (W:World) (base:Nat) (e:TypeId) (z:Nat) (h:base<=W.heap.size):(W.alloc (.cells #[] e)).ownsRow base e z (.slice (some ⟨W.heap.size,0,none⟩) 0 0) 0 []:=by
 refine ⟨by simp,.inr ⟨W.heap.size,0,#[],rfl,h,BK.new W #[] e,Nat.le_refl _,by unfold maxLen; omega,by simp,by simp⟩⟩
open Go.RowKit Go.Shelf Go.Sort
inductive Rch (xs:List Itm) (roots:List (Int × Int)):Int × Int->Prop
 | root {d:Int × Int}:d ∈ roots->d ≠ (0,0)->Rch xs roots d
 | link {d l:Int × Int}:Rch xs roots d->(getS xs d).2=0->l ∈ linksS (getS xs d).1->l ≠ (0,0)->Rch xs roots l
structure Sea (xs:List Itm) (roots op T M:List (Int × Int)):Prop where
 o:∀ d ∈ op,d ≠ (0,0)->Rch xs roots d
 t:∀ d ∈ T,Rch xs roots d/\(getS xs d).2=0
 m:∀ d ∈ M,Rch xs roots d/\(getS xs d).2 ≠ 0
 rt:∀ d ∈ roots,d=(0,0)\/d ∈ T\/d ∈ M\/d ∈ op
 ln:∀ d ∈ T,∀ l ∈ linksS (getS xs d).1,l=(0,0)\/l ∈ T\/l ∈ M\/l ∈ op
theorem Sea.start (xs:List Itm) (roots:List (Int × Int)):Sea xs roots roots [] []:=
 ⟨fun d h1 h2=>.root h1 h2,fun d h=>(by simp at h),fun d h=>(by simp at h),fun d h=>.inr (.inr (.inr h)),fun d h=>(by simp at h)⟩
theorem Sea.step {xs:List Itm} {roots op T M op' T' M':List (Int × Int)} (h:Sea xs roots op T M)
  (hk:∀ x,x ∈ op\/x ∈ T\/x ∈ M->x=(0,0)\/x ∈ T'\/x ∈ M'\/x ∈ op')
  (hT:∀ x ∈ T',x ∈ T\/(x ∈ op/\x ≠ (0,0)/\(getS xs x).2=0))
  (hM:∀ x ∈ M',x ∈ M\/(x ∈ op/\x ≠ (0,0)/\(getS xs x).2 ≠ 0))
  (hO:∀ x ∈ op',x ∈ op\/∃ t ∈ T',x ∈ linksS (getS xs t).1)
  (hN:∀ t ∈ T',t ∉ T->∀ l ∈ linksS (getS xs t).1,l=(0,0)\/l ∈ T'\/l ∈ M'\/l ∈ op'):Sea xs roots op' T' M':=by
 have ht:∀ d ∈ T',Rch xs roots d/\(getS xs d).2=0:=fun d hd=>by
  rcases hT d hd with h1 | ⟨h1,h2,h3⟩
  ·exact h.t d h1
  ·exact ⟨h.o d h1 h2,h3⟩
 refine ⟨fun d hd hz=>?_,ht,fun d hd=>?_,fun d hd=>?_,fun d hd l hl=>?_⟩
 ·rcases hO d hd with h1 | ⟨t,h1,h2⟩
  ·exact h.o d h1 hz
  ·exact .link (ht t h1).1 (ht t h1).2 h2 hz
 ·rcases hM d hd with h1 | ⟨h1,h2,h3⟩
  ·exact h.m d h1
  ·exact ⟨h.o d h1 h2,h3⟩
 ·rcases h.rt d hd with h1 | h1 | h1 | h1
  ·exact .inl h1
  ·exact hk d (.inr (.inl h1))
  ·exact hk d (.inr (.inr h1))
  ·exact hk d (.inl h1)
 ·by_cases hq:d ∈ T
  ·rcases h.ln d hq l hl with h1 | h1 | h1 | h1
   ·exact .inl h1
   ·exact hk l (.inr (.inl h1))
   ·exact hk l (.inr (.inr h1))
   ·exact hk l (.inl h1)
  ·exact hN d hd hq l hl
theorem Sea.done {xs:List Itm} {roots T M:List (Int × Int)} (h:Sea xs roots [] T M) (d:Int × Int):(d ∈ T ↔ Rch xs roots d/\(getS xs d).2=0)/\(d ∈ M ↔ Rch xs roots d/\(getS xs d).2 ≠ 0):=by
 have key:∀ d,Rch xs roots d->d ∈ T\/d ∈ M:=by
  intro d hd
  induction hd with
  | root h1 h2=>
   rcases h.rt _ h1 with h3 | h3 | h3 | h3
   ·exact absurd h3 h2
   ·exact .inl h3
   ·exact .inr h3
   ·simp at h3
  | link h1 h2 h3 h4 ih=>
   rcases ih with ih | ih
   ·rcases h.ln _ ih _ h3 with h5 | h5 | h5 | h5
    ·exact absurd h5 h4
    ·exact .inl h5
    ·exact .inr h5
    ·simp at h5
   ·exact absurd h2 (h.m _ ih).2
 refine ⟨⟨h.t d,fun hd=>?_⟩,⟨h.m d,fun hd=>?_⟩⟩
 ·rcases key d hd.1 with h1 | h1
  ·exact h1
  ·exact absurd hd.2 (h.m d h1).2
 ·rcases key d hd.1 with h1 | h1
  ·exact absurd (h.t d h1).2 hd.2
  ·exact h1
theorem posD_cons (y:Int × Int) (l:List (Int × Int)) (d:Int × Int):posD (y :: l) d=if cmpD y d < 0 then posD l d + 1 else 0:=by
 unfold posD
 by_cases h:cmpD y d < 0 <;> simp [h]
theorem withS_cons (y:Int × Int) (l:List (Int × Int)) (d:Int × Int):withS (y :: l) d=if cmpD y d < 0 then y :: withS l d else if y=d then y :: l else d :: y :: l:=by
 unfold withS
 rw [posD_cons]
 by_cases h:cmpD y d < 0
 ·rw [if_pos h,if_pos h]
  simp only [List.getElem?_cons_succ,List.take_succ_cons,List.drop_succ_cons]
  split <;> rfl
 ·rw [if_neg h,if_neg h]
  simp
theorem withS_mem:∀ (l:List (Int × Int)) (d x:Int × Int),x ∈ withS l d ↔ x ∈ l\/x=d
 | [],d,x=>by simp [withS,posD]
 | y :: l,d,x=>by
  rw [withS_cons]
  by_cases h:cmpD y d < 0
  ·rw [if_pos h,List.mem_cons,withS_mem l d x,List.mem_cons,or_assoc]
  ·rw [if_neg h]
   by_cases h2:y=d
   ·rw [if_pos h2]
    refine ⟨.inl,fun h3=>?_⟩
    rcases h3 with h3 | h3
    ·exact h3
    ·rw [h3,<-h2]; simp
   ·rw [if_neg h2,List.mem_cons]
    exact or_comm
def refF (xs:List Itm):Nat->List (Int × Int)->List (Int × Int)->List (Int × Int)->List (Int × Int) × List (Int × Int)
 | 0,_,T,M=>(T,M)
 | f + 1,[],T,M=>(T,M)
 | f + 1,d :: ws,T,M=>if d=(0,0)\/d ∈ T then refF xs f ws T M else if (getS xs d).2 ≠ 0 then refF xs f ws T (withS M d) else refF xs f (ws ++ linksS (getS xs d).1) (withS T d) M
theorem mea_cons (xs:List Itm) (ws T:List (Int × Int)) (d:Int × Int):mea xs (d :: ws) T=mea xs (ws ++ [d]) T:=by
 unfold mea; simp
theorem mea_with (xs:List Itm) (ws T:List (Int × Int)) (d:Int × Int):mea xs ws (withS T d)=mea xs ws (d :: T):=by
 unfold mea
 congr 3
 funext x
 congr 1
 rw [decide_eq_decide,withS_mem,List.mem_cons]
 exact or_comm
theorem withS_len:∀ (l:List (Int × Int)) (d:Int × Int),(withS l d).length<=l.length + 1
 | [],d=>by simp [withS,posD]
 | y :: l,d=>by
  rw [withS_cons]
  have:=withS_len l d
  split
  ·simp; omega
  ·split <;> simp
structure RMem (w wr:World) (ta:Option Addr) (tc:Nat) (ma:Option Addr) (mc:Nat) (v:Value) (WL T M:List (Int × Int)):Prop where
 dt:Digs wr.heap.size wr ta T
 dm:Digs wr.heap.size wr ma M
 tc:T.length<=tc
 mc:M.length<=mc
 ow:wr.ownsRow w.heap.size 41 2 v WL.length (dcells WL)
 at':∀ ad,ta=some ad->ad.block < wr.heap.size/\v.ownBlock ≠ some ad.block
 am:∀ ad,ma=some ad->ad.block < wr.heap.size/\v.ownBlock ≠ some ad.block
 be:Below w.heap.size w wr
section
variable {w wr W':World} {ta ma a:Option Addr} {tc mc c:Nat} {v v':Value} {WL T M T' M' WL':List (Int × Int)}
theorem RMem.below (h:RMem w wr ta tc ma mc v WL T M) (hb:Below wr.heap.size wr W'):RMem w W' ta tc ma mc v WL T M:=
 ⟨h.dt.ahead hb,h.dm.ahead hb,h.tc,h.mc,own_below h.ow hb,fun ad e=>⟨Nat.lt_of_lt_of_le (h.at' ad e).1 hb.size,(h.at' ad e).2⟩,fun ad e=>⟨Nat.lt_of_lt_of_le (h.am ad e).1 hb.size,(h.am ad e).2⟩,h.be.trans (hb.mono h.be.size)⟩
theorem RMem.alloc (h:RMem w wr ta tc ma mc v WL T M) (o:Obj):RMem w (wr.alloc o) ta tc ma mc v WL T M:=h.below ((Below.refl _ _).alloc (Nat.le_refl _) _)
theorem digs_lt {B:Nat} {W:World} {ds:List (Int × Int)} {d:Int × Int} (h:Digs B W a ds) (hd:d ∈ ds):∀ ad,a=some ad->ad.block < B:=by
 intro ad e
 obtain ⟨b,off,h1,h2,_⟩:=h 0 (List.length_pos_of_mem hd)
 rw [h1] at e
 cases e
 exact h2
theorem RMem.new (h:RMem w wr ta tc ma mc v WL T M) (hb:Below wr.heap.size wr W') {d:Int × Int} {L:List (Int × Int)} {pa:Option Addr} (hpa:∀ ad,pa=some ad->ad.block < wr.heap.size/\v.ownBlock ≠ some ad.block) (hd:Digs W'.heap.size W' a L) (hm:d ∈ L) (ho:a=pa\/∀ ad,a=some ad->wr.heap.size<=ad.block):∀ ad,a=some ad->ad.block < W'.heap.size/\v.ownBlock ≠ some ad.block:=by
 intro ad e
 refine ⟨digs_lt hd hm ad e,fun hv=>?_⟩
 rcases ho with h1 | h1
 ·exact (hpa ad (by rw [<-h1,e])).2 hv
 ·have h2:=(h.ow.lt _ hv).2
  have h3:=h1 ad e
  omega
theorem RMem.putT (h:RMem w wr ta tc ma mc v WL T M) (hb:Below wr.heap.size wr W') {d:Int × Int} (hd:Digs W'.heap.size W' a T') (hc:T'.length<=c) (hm:d ∈ T') (ho:a=ta\/∀ ad,a=some ad->wr.heap.size<=ad.block):RMem w W' a c ma mc v WL T' M:=
 have g:=h.below hb
 ⟨hd,g.dm,hc,g.mc,g.ow,h.new hb h.at' hd hm ho,g.am,g.be⟩
theorem RMem.push (h:RMem w wr ta tc ma mc v WL T M) (hown:W'.ownsRow w.heap.size 41 2 v' WL'.length (dcells WL')) (hg:wr.grownBy W' v.ownBlock) (hat:v'.ownBlock=v.ownBlock\/v'.ownBlock=some wr.heap.size):RMem w W' ta tc ma mc v' WL' T M:=by
 have key:∀ ad:Addr,(ad.block < wr.heap.size/\v.ownBlock ≠ some ad.block)->ad.block < W'.heap.size/\v'.ownBlock ≠ some ad.block:=fun ad h1=>by
  refine ⟨Nat.lt_of_lt_of_le h1.1 hg.size,fun e=>?_⟩
  rcases hat with h2 | h2
  ·exact h1.2 (by rw [<-h2]; exact e)
  ·rw [h2] at e
   have:=Option.some.inj e
   omega
 exact ⟨h.dt.kept hg (fun _ ad e=>(h.at' ad e).2),h.dm.kept hg (fun _ ad e=>(h.am ad e).2),h.tc,h.mc,hown,fun ad e=>key ad (h.at' ad e),fun ad e=>key ad (h.am ad e),below_own h.be h.ow hg (Nat.le_refl _)⟩
end
structure REq (xs:List Itm) (R:List (Int × Int) × List (Int × Int)) (F f j:Nat) (WL T M:List (Int × Int)):Prop where
 kl:j<=WL.length
 eq:R=refF xs f (WL.drop j) T M
 me:mea xs (WL.drop j) T<=f
 jf:j + f<=F
 tm:T.length + M.length + f<=F
section
variable {xs:List Itm} {R:List (Int × Int) × List (Int × Int)} {F f j:Nat} {WL T M:List (Int × Int)}
theorem REq.len (h:REq xs R F f j WL T M):WL.length<=F:=by
 have h1:=h.me
 have h2:=h.jf
 have h3:=h.kl
 unfold mea at h1
 rw [List.length_drop] at h1
 omega
theorem REq.pos (h:REq xs R F f j WL T M) (hj:j < WL.length):∃ g,f=g + 1:=by
 have h1:=h.me
 unfold mea at h1
 rw [List.length_drop] at h1
 exact ⟨f - 1,by omega⟩
theorem REq.fin (h:REq xs R F f j WL T M) (hj:¬ j < WL.length):R=(T,M):=by
 rw [h.eq,List.drop_of_length_le (by omega)]
 cases f <;> rfl
theorem REq.skip (h:REq xs R F (f + 1) j WL T M) (hj:j < WL.length) (hd:WL[j]=(0,0)\/WL[j] ∈ T):REq xs R F f (j + 1) WL T M:=by
 have h1:=h.eq
 have h2:=h.me
 rw [List.drop_eq_getElem_cons hj] at h1 h2
 rw [refF,if_pos hd] at h1
 rw [mea_cons] at h2
 have h3:=mea_pop xs (WL.drop (j + 1)) T WL[j]
 exact ⟨hj,h1,by omega,by have:=h.jf; omega,by have:=h.tm; omega⟩
theorem REq.hit (h:REq xs R F (f + 1) j WL T M) (hj:j < WL.length) (hd:¬ (WL[j]=(0,0)\/WL[j] ∈ T)) (he:(getS xs WL[j]).2=0):REq xs R F f (j + 1) (WL ++ linksS (getS xs WL[j]).1) (withS T WL[j]) M:=by
 have h1:=h.eq
 have h2:=h.me
 rw [List.drop_eq_getElem_cons hj] at h1 h2
 rw [refF,if_neg hd,if_neg (by simpa using he)] at h1
 rw [mea_cons] at h2
 have h3:=mea_hit (op:=WL.drop (j + 1)) (fun e=>hd (.inr e)) he (links_le (getS xs WL[j]).1)
 refine ⟨by rw [List.length_append]; omega,?_,?_,by have:=h.jf; omega,by have:=h.tm; have:=withS_len T WL[j]; omega⟩
 ·rw [List.drop_append_of_le_length hj]; exact h1
 ·rw [List.drop_append_of_le_length hj,mea_with]; exact Nat.le_of_succ_le_succ (Nat.le_trans h3 h2)
end
end Go.Proofs.YtijkieiihpiljaaGreat
