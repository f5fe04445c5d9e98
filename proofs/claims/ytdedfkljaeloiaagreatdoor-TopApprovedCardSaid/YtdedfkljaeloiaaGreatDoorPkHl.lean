/- A region that draws its order and whose last operation stores into a cell that it loads: what the loads read holds till the last operation. No program in sight. -/
import Derived.Test.YtdedfkljaeloiaaGreatDoorRows
import Derived.Deep.RegionHeldLaw
namespace Go.Proofs.YtdedfkljaeloiaaGreatDoor
open Go
section
variable {P : Program} {ops : Array Oper} {Q : Exit → Act → World → Prop} {md : Region.Mode} {S : World → Prop}
/-- What came up has all that it waits for. -/
def ClL (md : Region.Mode) (ops : Array Oper) (ls : Array Bool) : Prop := ∀ j o, ops[j]? = some o → ls.getD j true = true → ∀ e ∈ o.after, Region.binds md e = true → ls.getD e.on true = true
/-- Operation j waits for operation i. -/
def waitsL (md : Region.Mode) (ops : Array Oper) : Nat → Nat → Nat → Bool
  | 0, _, _ => false
  | f + 1, j, i => match ops[j]? with
    | none => false
    | some o => o.after.any fun e => Region.binds md e && (e.on == i || waitsL md ops f e.on i)
theorem getD_listed {ls : Array Bool} {j : Nat} (h : j < ls.size) : ls.getD j true = ls.getD j false := by simp [h]
theorem ClL.waits {ls : Array Bool} (h : ClL md ops ls) (i : Nat) : ∀ (f j : Nat), waitsL md ops f j i = true → (∀ o, ops[j]? = some o → ∀ e ∈ o.after, Region.binds md e = true → ls.getD e.on true = true) → ls.getD i true = true
  | 0, j, hw, _ => by simp [waitsL] at hw
  | f + 1, j, hw, ha => by
    rw [waitsL] at hw
    cases ho : ops[j]? with
    | none => rw [ho] at hw; simp at hw
    | some o =>
      rw [ho] at hw
      simp only at hw
      obtain ⟨e, he, hb⟩ : ∃ e ∈ o.after, (Region.binds md e && (e.on == i || waitsL md ops f e.on i)) = true := by
        rw [Array.any_eq_true] at hw
        obtain ⟨k, hk, hb⟩ := hw
        exact ⟨_, Array.getElem_mem hk, hb⟩
      simp only [Bool.and_eq_true, Bool.or_eq_true, beq_iff_eq] at hb
      have h1 := ha o ho e he hb.1
      rcases hb.2 with rfl | h2
      · exact h1
      · exact h.waits i f e.on h2 (fun o' ho' => h e.on o' ho' h1)
theorem ready_all {ls : Array Bool} {j : Nat} (hj : j ∈ Region.ready md ops ls) : ls.getD j true = false ∧ ∀ o, ops[j]? = some o → ∀ e ∈ o.after, Region.binds md e = true → ls.getD e.on true = true := by
  obtain ⟨h1, o, ho, hall⟩ := mem_ready.1 hj
  refine ⟨h1, fun o' ho' e he hb => ?_⟩
  rw [ho] at ho'
  cases ho'
  have := hall e he hb
  rcases Nat.lt_or_ge e.on ls.size with h | h
  · rw [getD_listed h]; simpa using this
  · simp [h]
theorem ClL.set {ls : Array Bool} (h : ClL md ops ls) {j : Nat} (hj : j ∈ Region.ready md ops ls) : ClL md ops (ls.setIfInBounds j true) := by
  intro k o ho hk e he hb
  have key : ∀ x, ls.getD x true = true → (ls.setIfInBounds j true).getD x true = true := fun x hx => by
    by_cases ex : j = x
    · subst ex
      rcases Nat.lt_or_ge j ls.size with h' | h'
      · simp [h']
      · simp [h']
    · rw [getD_set_ne true ex]; exact hx
  by_cases ek : j = k
  · subst ek; exact key _ ((ready_all hj).2 o ho e he hb)
  · rw [getD_set_ne true ek] at hk; exact key _ (h k o ho hk e he hb)
/-- None of the last operations has come up. -/
def liveL (ts : List Nat) (ls : Array Bool) : Bool := ts.all fun t => !(ls.getD t true)
theorem liveL_iff {ts : List Nat} {ls : Array Bool} : liveL ts ls = true ↔ ∀ t ∈ ts, ls.getD t true = false := by simp [liveL]
/-- Whatever order is picked; S holds till one of the last operations, ts, comes up. -/
def anyG (P : Program) (md : Region.Mode) (ops : Array Oper) (Q : Exit → Act → World → Prop) (S : World → Prop) (ts : List Nat) : Nat → Array Bool → Act → World → Prop
  | 0, ls, a, w => Region.ready md ops ls = [] ∧ Q .normal a w
  | f + 1, ls, a, w => (Region.ready md ops ls = [] → Q .normal a w) ∧ ∀ i ∈ Region.ready md ops ls, wpOp P ops Q i (fun a' w' => (liveL ts (ls.setIfInBounds i true) = true → S w') ∧ anyG P md ops Q S ts f (ls.setIfInBounds i true) a' w') a w
def anyL (P : Program) (md : Region.Mode) (ops : Array Oper) (Q : Exit → Act → World → Prop) (S : World → Prop) (ts : List Nat) (f : Nat) (ls : Array Bool) (a : Act) (w : World) : Prop := ClL md ops ls → anyG P md ops Q S ts f ls a w
theorem any_of_G {ts : List Nat} : ∀ (f : Nat) (ls : Array Bool) (a : Act) (w : World), anyG P md ops Q S ts f ls a w → wpAny P md ops Q f ls a w
  | 0, _, _, _, h => h
  | f + 1, _, _, _, h => ⟨h.1, fun i hi => wpOp_mono (fun a' w' h' => any_of_G f _ a' w' h'.2) (h.2 i hi)⟩
/-- An operation that yields in every world of S' may be taken first, if S' holds as long as it may come up. -/
theorem anyG_first {ts : List Nat} {S' : World → Prop} {i : Nat} {oi : Oper} {v : Value} (hi : ops[i]? = some oi) (hsel : ∀ (j : Nat) (o : Oper) cs b, ops[j]? = some o → o.op ≠ .select cs b) (hQ : ∀ c a w, Q (.panic c) (a.put oi.dst v) w → Q (.panic c) a w)
    (hst : ∀ (ls : Array Bool) (j : Nat) (w : World), ClL md ops ls → i ∈ Region.ready md ops ls → j ∈ Region.ready md ops ls → j ≠ i → (liveL ts ((ls.setIfInBounds j true).setIfInBounds i true) = true → S w) → S' w ∧ (liveL ts (ls.setIfInBounds j true) = true → S w)) :
    ∀ (f : Nat) (ls : Array Bool) (a : Act) (w : World), ClL md ops ls → (∀ j oj, ops[j]? = some oj → j ≠ i → ls.getD j true = false → (∀ e ∈ oj.after, Region.binds md e = true → e.on ≠ i) → oi.apart ops oj = true) →
      i ∈ Region.ready md ops ls → YieldsIf P ops S' oi v a → S' w → (liveL ts (ls.setIfInBounds i true) = true → S w) → anyG P md ops Q S ts f (ls.setIfInBounds i true) (a.put oi.dst v) w → anyG P md ops Q S ts (f + 1) ls a w
  | 0, ls, a, w, hC, _, hr, hy, hS, hS2, H => by
    refine ⟨fun h => (by rw [h] at hr; cases hr), fun j hj => ?_⟩
    by_cases e : j = i
    · subst e; exact hy.wpOp hi hS ⟨hS2, H⟩
    · have := ready_mono hj e
      rw [H.1] at this
      cases this
  | f + 1, ls, a, w, hC, hfree, hr, hy, hS, hS2, H => by
    refine ⟨fun h => (by rw [h] at hr; cases hr), fun j hj => ?_⟩
    by_cases e : j = i
    · subst e; exact hy.wpOp hi hS ⟨hS2, H⟩
    have h1 := H.2 j (ready_mono hj e)
    obtain ⟨hjun, oj, hoj, hall⟩ := mem_ready.1 hj
    have hnot : ∀ e ∈ oj.after, Region.binds md e = true → e.on ≠ i := fun e he hb heq => by
      have g1 := (ready_all hj).2 oj hoj e he hb
      rw [heq, (ready_all hr).1] at g1
      cases g1
    have h2 := wpOp_putIf hoj (hfree j oj hoj e hjun hnot) (fun cs b => hsel i oi cs b hi) (fun cs b => hsel j oj cs b hoj) hQ hy h1
    refine wpOp_mono (fun a' w' h3 => ?_) h2
    have hcm := Array.setIfInBounds_comm (xs := ls) true true e
    have h4 := hst ls j w' hC hr hj e (by rw [hcm]; exact h3.2.1)
    refine ⟨h4.2, anyG_first hi hsel hQ hst f (ls.setIfInBounds j true) a' w' (hC.set hj) (fun k ok hk hki hun hno => ?_) (ready_mono hr (Ne.symm e)) h3.1 h4.1 (by rw [hcm]; exact h3.2.1) ?_⟩
    · refine hfree k ok hk hki ?_ hno
      by_cases hjk : j = k
      · subst hjk; exact hjun
      · rw [getD_set_ne true hjk] at hun; exact hun
    · rw [hcm]
      exact h3.2.2
theorem live_add {ts : List Nat} {ls : Array Bool} {i : Nat} (hi : ts.contains i = false) (h : liveL ts ls = true) : liveL ts (ls.setIfInBounds i true) = true := by
  rw [liveL_iff] at h ⊢
  intro t ht
  have e : i ≠ t := fun e => by
    subst e
    have : ts.contains i = true := by simpa using ht
    rw [hi] at this; cases this
  rw [getD_set_ne true e]; exact h t ht
/-- An operation that reads what S tells. -/
theorem anyL_take {ts : List Nat} {i : Nat} {oi : Oper} {v : Value} {f : Nat} {ls : Array Bool} {a : Act} {w : World} (hi : ops[i]? = some oi) (hs : Region.noSelect ops = true) (hf : Region.free md ops ls i = true) (hr : (Region.ready md ops ls).contains i = true) (ht : (!ts.contains i && ts.all (fun t => waitsL md ops ops.size t i)) = true)
    (hQ : ∀ c a w, Q (.panic c) (a.put oi.dst v) w → Q (.panic c) a w) (hy : YieldsIf P ops S oi v a) (hS : S w) (h : anyL P md ops Q S ts f (ls.setIfInBounds i true) (a.put oi.dst v) w) : anyL P md ops Q S ts (f + 1) ls a w := fun hC => by
  simp only [Bool.and_eq_true, Bool.not_eq_true', List.all_eq_true] at ht
  refine anyG_first hi (Region.noSelect_spec hs) hQ (fun ls j w hC hri hrj hne hw => ?_) f ls a w hC (Region.free_spec hi hf) (by simpa using hr) hy hS (fun _ => hS) (h (hC.set (by simpa using hr)))
  have hl : liveL ts (ls.setIfInBounds j true) = true := by
    rw [liveL_iff]
    intro t htt
    have key : ∀ t ∈ ts, (∀ o, ops[t]? = some o → ∀ e ∈ o.after, Region.binds md e = true → ls.getD e.on true = true) → False := fun t htt ha => by
      have h1 := hC.waits i _ t (ht.2 t htt) ha
      rw [(ready_all hri).1] at h1
      cases h1
    have e : j ≠ t := fun e => by subst e; exact key j htt (ready_all hrj).2
    rw [getD_set_ne true e]
    cases hx : ls.getD t true with
    | false => rfl
    | true => exact (key t htt (fun o ho => hC t o ho hx)).elim
  have := hw (live_add ht.1 hl)
  exact ⟨this, fun _ => this⟩
/-- An operation that looks at no memory. -/
theorem anyL_take0 {ts : List Nat} {i : Nat} {oi : Oper} {v : Value} {f : Nat} {ls : Array Bool} {a : Act} {w : World} (hi : ops[i]? = some oi) (hs : Region.noSelect ops = true) (hf : Region.free md ops ls i = true) (hr : (Region.ready md ops ls).contains i = true) (ht : ts.contains i = false)
    (hQ : ∀ c a w, Q (.panic c) (a.put oi.dst v) w → Q (.panic c) a w) (hy : YieldsIf P ops (fun _ => True) oi v a) (hS : S w) (h : anyL P md ops Q S ts f (ls.setIfInBounds i true) (a.put oi.dst v) w) : anyL P md ops Q S ts (f + 1) ls a w := fun hC =>
  anyG_first hi (Region.noSelect_spec hs) hQ (fun ls j w hC hri hrj hne hw => ⟨trivial, fun hl => hw (live_add ht hl)⟩) f ls a w hC (Region.free_spec hi hf) (by simpa using hr) hy trivial (fun _ => hS) (h (hC.set (by simpa using hr)))
/-- One operation alone may come up. -/
theorem anyL_one {ts : List Nat} {i : Nat} {o : Oper} {f : Nat} {ls : Array Bool} {a : Act} {w : World} (hr : Region.ready md ops ls = [i]) (ho : ops[i]? = some o)
    (h : ∀ K' : Act → World → Prop, Shut (∀ a w, (liveL ts (ls.setIfInBounds i true) = true → S w) → ((liveL ts (ls.setIfInBounds i true) = true → S w) → anyL P md ops Q S ts f (ls.setIfInBounds i true) a w) → K' a w) → if Region.wanted o (yielded ops a.tmps) = true then Oper.wp P o a w K' Q else K' (a.put o.dst undef) w) : anyL P md ops Q S ts (f + 1) ls a w :=
  fun hC => ⟨fun h0 => (by rw [hr] at h0; cases h0), fun j hj => by
    have hj0 := hj
    rw [hr] at hj
    obtain rfl : j = i := by simpa using hj
    exact wpOp_step ho (fun K' hK => h K' (fun a w hS hW => hK a w ⟨hS, hW hS (hC.set hj0)⟩))⟩
theorem anyL_done {ts : List Nat} {ls : Array Bool} {a : Act} {w : World} (hr : Region.ready md ops ls = []) (h : Q .normal a w) : ∀ f, anyL P md ops Q S ts f ls a w
  | 0 => fun _ => ⟨hr, h⟩
  | _ + 1 => fun _ => ⟨fun _ => h, by rw [hr]; simp⟩
theorem getD_repl (n j : Nat) : (Array.replicate n false).getD j true = true → n ≤ j := fun h => by
  rcases Nat.lt_or_ge j n with h' | h'
  · simp [h'] at h
  · exact h'
theorem wp_region_L (ts : List Nat) {id : Nat} {a : Act} {w : World} (hm : P.follows .mixedOrders = true) (hS : S w.drew) (h : S w.drew → anyL P .any ops Q S ts ops.size (Array.replicate ops.size false) a w.drew) : (Code.region id ops true).wp P Q a w :=
  wp_region_any hm (any_of_G _ _ _ _ (h hS (fun j o ho hj => by
    have h1 := getD_repl _ _ hj
    have h2 := (Array.getElem?_eq_some_iff.1 ho).1
    omega)))
end
end Go.Proofs.YtdedfkljaeloiaaGreatDoor
