/- Negotiations: what is sent is enough. -/
import Derived.Test.YtfdahmicigpnoaaGreatNeTr
set_option maxRecDepth 100000
set_option maxHeartbeats 16000000
open Go.Lib (hid)
namespace Go.Proofs.YtfdahmicigpnoaaGreat
open Go.RowKit Go.Shelf Go.Sort
set_option linter.unusedVariables false
theorem get_sub {xs p:List Itm} (hx:Asc xs) (hp:Asc p) {d:Int × Int} (h:(getS xs d).2=0) (hs:∀ x ∈ xs,x.d=d->x ∈ p):getS p d=getS xs d:=by
 obtain ⟨x,hx2,rfl,he⟩:=getS_good h
 rw [get_mem' hp (hs x hx2 rfl),he]
theorem comE_zero {xs:List Itm}:∀ {l:List (Int × Int)},comE xs l=0->∀ d ∈ l,(commitS xs d).2=0
 | [],_,d,hd=>by simp at hd
 | e :: l,h,d,hd=>by
  unfold comE at h
  by_cases he:(commitS xs e).2=0
  ·rw [if_neg (by simpa using he)] at h
   rcases List.mem_cons.1 hd with rfl | hd
   ·exact he
   ·exact comE_zero h d hd
  ·rw [if_pos he] at h; exact absurd h he
theorem send_ok {ys:List Itm} {W Cm l:List (Int × Int)} (h:sendS ys W Cm=(l,0)):(∀ d ∈ W ++ Cm,(commitS ys d).2=0)/\(∀ d ∈ (reachS ys W).2,d ∈ (reachS ys Cm).2)/\l=(reachS ys W).1.filter fun d=>!decide (d ∈ (reachS ys Cm).1):=by
 unfold sendS at h
 by_cases h1:comE ys (W ++ Cm)=0
 ·rw [if_neg (by simpa using h1)] at h
  by_cases h2:∀ d ∈ (reachS ys W).2,d ∈ (reachS ys Cm).2
  ·rw [if_neg (by simpa using h2)] at h
   exact ⟨comE_zero h1,h2,(Prod.ext_iff.1 h).1.symm⟩
  ·rw [if_pos h2] at h; cases h
 ·rw [if_pos h1] at h
  exact absurd (Prod.ext_iff.1 h).2 h1
theorem rch_over {xs ys:List Itm} (hC:Con xs ys) {Cm:List (Int × Int)} (hl:(reachS xs Cm).2=[]) {d:Int × Int} (h:Rch ys Cm d):Rch xs Cm d:=by
 have hin:∀ e,Rch xs Cm e->(getS xs e).2=0:=fun e he=>by
  by_cases h1:(getS xs e).2=0
  ·exact h1
  ·have:=((reachS_law xs Cm).2.2 e).2.2 ⟨he,h1⟩
   rw [hl] at this; simp at this
 induction h with
 | root h1 h2=>exact .root h1 h2
 | link h1 h2 h3 h4 ih=>
  have h5:=hin _ ih
  exact .link ih h5 (by rw [con_get hC h5 h2]; exact h3) h4
theorem enough {xs ys p:List Itm} (hx:Asc xs) (hy:Asc ys) (hp:Asc p) (hC:Con xs ys) {W Cm l:List (Int × Int)} (hS:sendS ys W Cm=(l,0)) (hl:(reachS xs Cm).2=[]) (hm:∀ z,z ∈ p ↔ z ∈ xs\/z ∈ keepS ys l):(reachS p W).2=[]:=by
 obtain ⟨s1,s2,s3⟩:=send_ok hS
 have hin:∀ e,Rch xs Cm e->(getS xs e).2=0:=fun e he=>by
  by_cases h1:(getS xs e).2=0
  ·exact h1
  ·have:=((reachS_law xs Cm).2.2 e).2.2 ⟨he,h1⟩
   rw [hl] at this; simp at this
 have hg1:∀ e,Rch xs Cm e->getS p e=getS xs e:=fun e he=>get_sub hx hp (hin e he) (fun x h1 _=>(hm x).2 (.inl h1))
 have hml:∀ {e},e ∈ l ↔ (Rch ys W e/\(getS ys e).2=0)/\e ∉ (reachS ys Cm).1:=fun {e}=>by
  rw [s3,List.mem_filter,((reachS_law ys W).2.2 e).1]
  simp
 have hg2:∀ e,e ∈ l->getS p e=getS ys e:=fun e he=>get_sub hy hp (hml.1 he).1.2 (fun y h1 h2=>(hm y).2 (.inr (by
  unfold keepS
  exact List.mem_filter.2 ⟨h1,by rw [h2]; simpa using he⟩)))
 have hcase:∀ e,Rch ys W e->Rch xs Cm e\/e ∈ l:=fun e he=>by
  by_cases h1:(getS ys e).2=0
  ·by_cases h2:e ∈ (reachS ys Cm).1
   ·exact .inl (rch_over hC hl (((reachS_law ys Cm).2.2 e).1.1 h2).1)
   ·exact .inr (hml.2 ⟨⟨he,h1⟩,h2⟩)
  ·have h2:=s2 e (((reachS_law ys W).2.2 e).2.2 ⟨he,h1⟩)
   exact .inl (rch_over hC hl (((reachS_law ys Cm).2.2 e).2.1 h2).1)
 have key:∀ d,Rch p W d->Rch xs Cm d\/d ∈ l:=fun d hd=>by
  induction hd with
  | root h1 h2=>exact hcase _ (.root h1 h2)
  | link h1 h2 h3 h4 ih=>
   rcases ih with ih | ih
   ·rw [hg1 _ ih] at h3
    exact .inl (.link ih (hin _ ih) h3 h4)
   ·rw [hg2 _ ih] at h3
    exact hcase _ (.link (hml.1 ih).1.1 (hml.1 ih).1.2 h3 h4)
 rw [List.eq_nil_iff_forall_not_mem]
 intro d hd
 obtain ⟨h1,h2⟩:=((reachS_law p W).2.2 d).2.1 hd
 rcases key d h1 with h3 | h3
 ·rw [hg1 d h3] at h2; exact h2 (hin d h3)
 ·rw [hg2 d h3] at h2; exact h2 (hml.1 h3).1.2
end Go.Proofs.YtfdahmicigpnoaaGreat
