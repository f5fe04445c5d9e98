/- slices.Concat at items. -/
import Derived.Test.YtlfodnehgedpmaaPoAp
namespace Go.Proofs.Ytlfodnehgedpmaa
open Go.RowKit Go.Shelf
set_option linter.unusedVariables false

/-- A slice of items. -/
structure SlI where
  a : Option Addr
  xs : List Itm
  c : Nat
def allI (L : List SlI) : List Itm := L.flatMap (·.xs)
theorem allI_take {L : List SlI} {k : Nat} (h : k < L.length) : allI (L.take (k + 1)) = allI (L.take k) ++ L[k].xs := by
  unfold allI
  rw [List.take_succ_eq_append_getElem h, List.flatMap_append]
  simp
theorem allI_le (L : List SlI) (k : Nat) : (allI (L.take k)).length ≤ (allI L).length := by
  have h : allI L = allI (L.take k) ++ allI (L.drop k) := by
    unfold allI
    rw [← List.flatMap_append, List.take_append_drop]
  rw [h, List.length_append]
  omega
/-- Slices of items, in a block. -/
structure Sls (B : Nat) (W : World) (bb : Nat) (L : List SlI) : Prop where
  blk : bb < B
  cell : ∀ i (h : i < L.length), W.cell? ⟨bb, i, none⟩ = some (.slice L[i].a L[i].xs.length L[i].c)
  its : ∀ i (h : i < L.length), Its B W L[i].a L[i].xs
theorem Sls.below {B : Nat} {W W' : World} {bb : Nat} {L : List SlI} (h : Sls B W bb L) (hb : Below B W W') : Sls B W' bb L :=
  ⟨h.blk, fun i hi => (hb.cell (p := ⟨bb, i, none⟩) h.blk).trans (h.cell i hi), fun i hi => (h.its i hi).below hb (Nat.le_refl _)⟩
/-- A pool that was handed back: pa's own, or in new memory. -/
def PoolAt (w : World) (pa : Option Addr) (ps xs : List Itm) (a : Option Addr) (c : Nat) (w' : World) : Prop :=
  Its w'.heap.size w' a xs ∧ xs.length ≤ c ∧ ((a = pa ∧ xs = ps) ∨ ∀ ad, a = some ad → w.heap.size ≤ ad.block) ∧ Below w.heap.size w w'
def GotP (w : World) (pa : Option Addr) (xs : List Itm) (e : Ending) (w' : World) : Prop := ∃ a c, e = .returned (.slice a xs.length c) ∧ PoolAt w pa [] xs a c w'
theorem own_new {W : World} {base : Nat} {e : TypeId} {z : Nat} {a : Option Addr} {n c : Nat} {xs : List Value} (h : W.ownsRow base e z (.slice a n c) n xs) : ∀ ad, a = some ad → base ≤ ad.block := by
  intro ad ha
  subst ha
  exact (h.lt ad.block rfl).1

set_option maxRecDepth 100000 in
set_option maxHeartbeats 2000000 in
theorem concatI_any (bb cc : Nat) (L : List SlI) (w : World) (hL : Sls w.heap.size w bb L) (h1 : 1 ≤ (allI L).length) (hn : ((allI L).length : Int) ≤ 1000000000) (hl : (L.length : Int) ≤ 1000) :
    Calls Try.prog 27 #[.slice (some ⟨bb, 0, none⟩) L.length cc] w (GotP w none (allI L)) := by
  have HL := Lib.hid hL
  have HG := Lib.hid (fun W => growI_any (allI L).length W h1 hn)
  have HT := Lib.hid (fun k (h : k < L.length) => allI_take h)
  have HLE := Lib.hid (allI_le L)
  obtain ⟨T, hT⟩ : ∃ T, T = (allI L).length := ⟨_, rfl⟩
  rw [← hT] at HG hn
  have HTT := Lib.hid hT
  obtain ⟨n, hnn⟩ : ∃ n, n = L.length := ⟨_, rfl⟩
  have HN := Lib.hid hnn
  rw [← hnn] at hl ⊢
  clear hL hT hnn h1
  go_enter Try.func27, Try.ntmps27
  go_wp2_with fail
  go_loop [3, 11] (fun s i => ∃ k t : Nat, k ≤ n ∧ i = .int .i64 k ∧ s = .int .i64 t ∧ t ≤ T ∧ Hid (t = (allI (L.take k)).length)) (fun _ i => n - (intOf i).toNat)
  case atStart => exact ⟨0, 0, by omega, rfl, rfl, by omega, Lib.hid rfl⟩
  case round =>
    obtain ⟨k, t, hk, rfl, rfl, ht, HK⟩ := hrel
    by_cases hlt : k < n
    · have h1 : k < L.length := by have := HN.out; omega
      have c0 := HL.out.cell k h1
      have hle : t + L[k].xs.length ≤ T := by
        have a1 := HLE.out (k + 1)
        have a2 := HT.out k h1
        rw [a2, List.length_append, ← HK.out, ← HTT.out] at a1
        exact a1
      have HK2 : Hid (t + L[k].xs.length = (allI (L.take (k + 1))).length) := Lib.hid (by rw [HT.out k h1, List.length_append, ← HK.out])
      generalize L[k] = S at c0 hle HK2
      obtain ⟨sa, sx, sc⟩ := S
      simp only at c0 hle HK2
      generalize sx.length = m at c0 hle HK2
      go_wp2_with fail
      go_round
      case rel => exact ⟨k + 1, t + m, by omega, by go_num, by go_num, by omega, HK2⟩
      case measure => simp [intOf]; omega
    · obtain rfl : n = k := by omega
      obtain rfl : T = t := by rw [HK.out, HTT.out, List.take_of_length_le (by have := HN.out; omega)]
      clear HK hlt hk ht
      go_wp2_with fail
      have hx := HG.out w
      (with_reducible refine hx.mono ?_)
      clear hx HG
      rintro e w1 ⟨g, cap, rfl, hown, hb⟩
      have HO := Lib.hid hown
      have HB := Lib.hid hb
      clear hown hb
      go_wp2_with fail
      go_loopw [6, 27] (fun v i wr => ∃ (k : Nat), k ≤ n ∧ i = .int .i64 k ∧ Hid (wr.ownsRow w.heap.size 52 3 v (allI (L.take k)).length (icells (allI (L.take k)))) ∧ Hid (Below w.heap.size w wr)) (fun _ i _ => n - (intOf i).toNat)
      case atStart => exact ⟨0, by omega, rfl, HO, HB⟩
      case round =>
        clear HO HB
        obtain ⟨k, hk, rfl, HO, HB⟩ := hrel
        have hws := HB.out.size
        by_cases hlt : k < n
        · have h1 : k < L.length := by have := HN.out; omega
          have hSl := HL.out.below HB.out
          have c0 := hSl.cell k h1
          have hle : (allI (L.take k)).length + L[k].xs.length ≤ T := by
            have a1 := HLE.out (k + 1)
            have a2 := HT.out k h1
            rw [a2, List.length_append, ← HTT.out] at a1
            exact a1
          obtain ⟨av, cv, rfl, hcap⟩ := ownsRow_sliceN HO.out
          obtain ⟨v', W', hrun, hown', hg', hat'⟩ := append_its wr w.heap.size 25 _ _ HO.out L[k].a L[k].xs L[k].c ((hSl.its k h1).mono hws) (by omega) hws
          have HO2 : Hid (W'.ownsRow w.heap.size 52 3 v' (allI (L.take (k + 1))).length (icells (allI (L.take (k + 1))))) := Lib.hid (by rw [HT.out k h1]; exact hown')
          have HB2 : Hid (Below w.heap.size w W') := Lib.hid (below_own HB.out HO.out hg' (Nat.le_refl _))
          have HRUN := Lib.hid hrun
          clear hrun hown' hg' hat' hSl hle
          generalize L[k] = S at c0 HRUN
          obtain ⟨sa, sx, sc⟩ := S
          simp only at c0 HRUN
          go_wp2_with (at_builtin; refine Lib.wpList_append_run _ rfl _ _ _ _ rfl _ _ rfl rfl _ _ HRUN.out ?_)
          go_roundw
          case rel => exact ⟨k + 1, by omega, by go_num, HO2, HB2⟩
          case measure => simp [intOf]; omega
        · obtain ⟨av, cv, rfl, hcap⟩ := ownsRow_sliceN HO.out
          have hf : allI (L.take k) = allI L := by rw [List.take_of_length_le (by have := HN.out; omega)]
          have HF : Hid (PoolAt w none [] (allI L) av cv wr) := Lib.hid (by
            have h := HO.out
            rw [hf] at h hcap
            exact ⟨ownsRow_its h, hcap, .inr (own_new h), HB.out⟩)
          rw [hf]
          clear hf HO
          go_wp2_with fail
          go_ret
          exact ⟨av, cv, rfl, HF.out⟩

end Go.Proofs.Ytlfodnehgedpmaa
