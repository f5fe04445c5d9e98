/- Negotiations: talks on paper. -/
import Derived.Test.YtfdahmicigpnoaaGreatK7
set_option maxRecDepth 100000
set_option maxHeartbeats 16000000
open Go.Lib (hid)
namespace Go.Proofs.YtfdahmicigpnoaaGreat
open Go.RowKit Go.Shelf Go.Sort
set_option linter.unusedVariables false
def Kn (xs:List Itm) (d:Int × Int):Prop:=(visS xs [d] []).2=0
theorem kn_all {xs:List Itm} {ds:List (Int × Int)}:(visS xs ds []).2=0 ↔ ∀ d ∈ ds,Kn xs d:=by
 constructor
 ·intro h d hd
  exact vis_sub h (fun g hg=>by rw [List.mem_singleton.1 hg]; exact (vis_anc h).2 ⟨d,hd,.refl d⟩)
 ·intro h
  by_cases h2:(visS xs ds []).2=0
  ·exact h2
  ·obtain ⟨_,s,hs,d,h3,_,h4⟩:=visS_bad xs _ ds [] (Nat.le_refl _) h2
   have h5:=h s hs
   have h6:=vis_ok h5 ((vis_anc1 h5).2 h3)
   rw [h6] at h4
   exact absurd h4.symm h2
theorem Kn.anc {xs:List Itm} {a d:Int × Int} (h:Kn xs a) (g:Anc xs a d):Kn xs d:=
 vis_sub h (fun e he=>by rw [List.mem_singleton.1 he]; exact (vis_anc1 h).2 g)
theorem Kn.com {xs:List Itm} {d:Int × Int} (h:Kn xs d):(commitS xs d).2=0:=vis_ok h ((vis_anc1 h).2 (.refl d))
theorem Kn.par {xs:List Itm} {d p:Int × Int} (h:Kn xs d) (hp:p ∈ (commitS xs d).1.pars):Kn xs p:=h.anc (.step h.com hp (.refl p))
theorem kn_iff {xs:List Itm} {d:Int × Int}:Kn xs d ↔ (commitS xs d).2=0/\∀ p ∈ (commitS xs d).1.pars,Kn xs p:=by
 constructor
 ·exact fun h=>⟨h.com,fun p hp=>h.par hp⟩
 ·rintro ⟨h1,h2⟩
  by_cases h3:(visS xs [d] []).2=0
  ·exact h3
  ·obtain ⟨_,s,hs,e,h4,_,h5⟩:=visS_bad xs _ [d] [] (Nat.le_refl _) h3
   rw [List.mem_singleton] at hs
   subst hs
   have h6:(commitS xs e).2=0:=by
    cases h4 with
    | refl=>exact h1
    | step _ hp g=>exact ((h2 _ hp).anc g).com
   rw [h6] at h5
   exact absurd h5.symm h3
theorem anc_kn {xs:List Itm} {ds:List (Int × Int)} (h:∀ d ∈ ds,Kn xs d):(ancS xs ds).2=0/\∀ e,e ∈ (ancS xs ds).1 ↔ ∃ d ∈ ds,Anc xs d e:=⟨ancS_ok (kn_all.2 h),fun e=>anc_mem (kn_all.2 h)⟩
theorem anc_knE {xs:List Itm} {ds:List (Int × Int)}:(ancS xs ds).2=0 ↔ ∀ d ∈ ds,Kn xs d:=by
 constructor
 ·intro h
  by_cases h2:(visS xs ds []).2=0
  ·exact kn_all.1 h2
  ·rw [ancS_err h2] at h; exact absurd h h2
 ·exact fun h=>(anc_kn h).1
theorem anc_ascH {xs:List Itm} {ds:List (Int × Int)} (h:∀ d ∈ ds,Kn xs d):AscH (depS xs) (ancS xs ds).1:=by
 unfold ancS
 rw [if_neg (by simpa using kn_all.2 h)]
 exact sortH_asc (visS_anc (kn_all.2 h)).1
theorem anc_proper {xs:List Itm} (ha:AcyS xs) {c d:Int × Int} (hc:(commitS xs c).2=0):(∃ p ∈ (commitS xs c).1.pars,Anc xs p d) ↔ Anc xs c d/\c ≠ d:=by
 constructor
 ·rintro ⟨p,hp,h⟩
  exact ⟨.step hc hp h,fun e=>by subst e; exact ha c p hc hp h⟩
 ·rintro ⟨h,hne⟩
  cases h with
  | refl=>exact absurd rfl hne
  | step _ hp g=>exact ⟨_,hp,g⟩
structure Tk where
 want:List (Int × Int)
 queue:List (Int × Int)
 asked:List (Int × Int)
 common:List (Int × Int)
 done:Bool
def tk0:Tk:=⟨[],[],[],[],false⟩
structure ValidT (xs:List Itm) (t:Tk):Prop where
 w:AscD t.want
 c:AscD t.common
 kn:∀ d ∈ t.queue ++ t.asked ++ t.common,Kn xs d
 qo:AscH (depS xs) t.queue
 ao:AscH (depS xs) t.asked
 dj:∀ d ∈ t.queue,d ∉ t.asked
 mx:∀ c ∈ t.common,∀ d ∈ t.common,Anc xs c d->c=d
 sp:∀ c ∈ t.common,∀ d ∈ t.queue ++ t.asked,¬ Anc xs c d
 dn:t.done=true ↔ (t.want=[]\/(t.queue=[]/\t.asked=[]))
 id:t.want=[]->t.queue=[]/\t.asked=[]
theorem ascD_adj:∀ {l:List (Int × Int)},(∀ i (h:i + 1 < l.length),cmpD l[i] l[i + 1] < 0)->AscD l
 | [],_=>List.Pairwise.nil
 | [x],_=>List.pairwise_singleton _ _
 | x :: y :: l,h=>by
  have h1:=h 0 (by simp)
  simp only [List.getElem_cons_zero,List.getElem_cons_succ] at h1
  have h2:AscD (y :: l):=ascD_adj (fun i hi=>by have:=h (i + 1) (by simpa using hi); simpa using this)
  refine List.Pairwise.cons (fun z hz=>?_) h2
  rcases List.mem_cons.1 hz with rfl | hz
  ·exact h1
  ·exact cmpD_trans h1 ((List.pairwise_cons.1 h2).1 z hz)
theorem ascD_adj' {l:List (Int × Int)} (h:AscD l):∀ i (hi:i + 1 < l.length),cmpD l[i] l[i + 1] < 0:=fun i hi=>
 List.pairwise_iff_getElem.1 h i (i + 1) (by omega) hi (by omega)
theorem cmpH_trans {dep:Int × Int->Nat} {a b c:Int × Int} (h:cmpH dep a b < 0) (g:cmpH dep b c < 0):cmpH dep a c < 0:=by
 have:=(swoH dep).trans a b c (by unfold ltOf; simpa using h) (by unfold ltOf; simpa using g)
 unfold ltOf at this; simpa using this
theorem ascH_adj {dep:Int × Int->Nat}:∀ {l:List (Int × Int)},(∀ i (h:i + 1 < l.length),cmpH dep l[i] l[i + 1] < 0)->AscH dep l
 | [],_=>List.Pairwise.nil
 | [x],_=>List.pairwise_singleton _ _
 | x :: y :: l,h=>by
  have h1:=h 0 (by simp)
  simp only [List.getElem_cons_zero,List.getElem_cons_succ] at h1
  have h2:AscH dep (y :: l):=ascH_adj (fun i hi=>by have:=h (i + 1) (by simpa using hi); simpa using this)
  refine List.Pairwise.cons (fun z hz=>?_) h2
  rcases List.mem_cons.1 hz with rfl | hz
  ·exact h1
  ·exact cmpH_trans h1 ((List.pairwise_cons.1 h2).1 z hz)
theorem ascH_nodup {dep:Int × Int->Nat} {l:List (Int × Int)} (h:AscH dep l):l.Nodup:=by
 refine List.Pairwise.imp (fun {a b} hab e=>?_) h
 subst e
 exact absurd hab (cmpH_asymm dep a a hab)
theorem ascD_nodup {l:List (Int × Int)} (h:AscD l):l.Nodup:=by
 refine List.Pairwise.imp (fun {a b} hab e=>?_) h
 subst e
 rw [cmpD_self] at hab
 omega
theorem place_lt {dep:Int × Int->Nat} {all:List (Int × Int)} (h:AscH dep all) {i j:Nat} (hi:i < all.length) (hj:j < all.length):cmpH dep all[i] all[j] < 0 ↔ i < j:=by
 constructor
 ·intro hc
  by_cases e:i < j
  ·exact e
  ·exfalso
   by_cases e2:i=j
   ·subst e2; exact cmpH_asymm dep _ _ hc hc
   ·exact cmpH_asymm dep _ _ hc (List.pairwise_iff_getElem.1 h j i hj hi (by omega))
 ·exact fun hij=>List.pairwise_iff_getElem.1 h i j hi hj hij
theorem ascH_places {dep:Int × Int->Nat} {all:List (Int × Int)} (h:AscH dep all) {P:Int × Int->Nat} (hP:∀ i (hi:i < all.length),P all[i]=i) {l:List (Int × Int)} (hl:∀ d ∈ l,d ∈ all):(∀ i (hi:i + 1 < l.length),P l[i] < P l[i + 1]) ↔ AscH dep l:=by
 have key:∀ x ∈ l,∀ y ∈ l,P x < P y ↔ cmpH dep x y < 0:=by
  intro x hx y hy
  obtain ⟨i,hi,rfl⟩:=List.getElem_of_mem (hl x hx)
  obtain ⟨j,hj,rfl⟩:=List.getElem_of_mem (hl y hy)
  rw [hP i hi,hP j hj,place_lt h hi hj]
 constructor
 ·intro hh
  exact ascH_adj (fun i hi=>(key _ (List.getElem_mem _) _ (List.getElem_mem _)).1 (hh i hi))
 ·intro hh i hi
  exact (key _ (List.getElem_mem _) _ (List.getElem_mem _)).2 (List.pairwise_iff_getElem.1 hh i (i + 1) (by omega) hi (by omega))
end Go.Proofs.YtfdahmicigpnoaaGreat
