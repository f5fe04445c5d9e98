/- cordwoodref07.Links. -/
import Derived.Test.YtlfodnehgedpmaaGreatRpK
namespace Go.Proofs.YtlfodnehgedpmaaGreat
open Go.RowKit Go.Shelf
set_option linter.unusedVariables false

theorem links_form {o : Ob} (h : (encodeS o).2 = 0) : linksS o = ((o.ents.map (·.d)) ++ (if o.kind = 3 then [o.tree] else [])) ++ o.pars := by
  unfold linksS
  rw [if_neg (by simpa using h)]
  by_cases h3 : o.kind = 3
  · simp [h3]
  · have hc := (encodeS_parts (encodeS_err h)).1
    have hk := checkS_kind hc
    have hp : o.pars = [] := by
      by_cases h1 : o.kind = 1 ∨ o.kind = 4
      · rw [checkS_one hc h1]; rfl
      · rw [(checkS_two hc (by omega)).1]; rfl
    simp [h3, hp]
theorem own_empty (W : World) (base : Nat) (e : TypeId) (z : Nat) (h : base ≤ W.heap.size) : (W.alloc (.cells #[] e)).ownsRow base e z (.slice (some ⟨W.heap.size, 0, none⟩) 0 0) 0 [] := by
  refine ⟨by simp, .inr ⟨W.heap.size, 0, #[], rfl, h, BK.new W #[] e, Nat.le_refl _, by unfold maxLen; omega, by simp, by simp⟩⟩

set_option maxRecDepth 100000 in
set_option maxHeartbeats 4000000 in
theorem rlinks_any (o : Ob) (ea : Option Addr) (ec : Nat) (pa : Option Addr) (pc : Nat) (w : World) (h : ObIn w o ea ec pa pc) (hb : ObB o) (hok : OkO o) :
    Calls Tryz.prog 63 #[o.val ea ec pa pc] w (GotDs w (linksS o)) := by
  have HC := Lib.hid (fun W (hW : Below w.heap.size w W) => rcheck_any o ea ec pa pc W (h.below hW) hok)
  obtain ⟨R, hR⟩ : ∃ R, R = linksS o := ⟨_, rfl⟩
  have HF0 := Lib.hid (fun h => hR.trans (links_form (o := o) h))
  have HF1 : Hid ((encodeS o).2 ≠ 0 → R = []) := Lib.hid (fun he => by rw [hR]; unfold linksS; rw [if_pos he])
  rw [← hR]
  clear hR hok
  generalize (encodeS o).2 = er at HC HF0 HF1
  have hel := hb.elen
  have hpl := hb.plen
  have HEN := Lib.hid h.ents
  have HPA := Lib.hid h.pars
  clear h hb
  obtain ⟨kind, data, ents, ⟨t1, t2⟩, pars, author, time, msg⟩ := o
  simp only [Ob.val] at HC HF0 hel hpl HEN HPA ⊢
  obtain ⟨ne, hne⟩ : ∃ ne, ne = ents.length := ⟨_, rfl⟩
  obtain ⟨n, hnp⟩ : ∃ n, n = pars.length := ⟨_, rfl⟩
  rw [← hne] at HC hel ⊢
  rw [← hnp] at HC hpl ⊢
  have HNE := Lib.hid hne
  have HNP := Lib.hid hnp
  clear hne hnp
  obtain ⟨u, hu⟩ : ∃ u, u = w.alloc (.cells #[.int .i64 kind, .string ⟨data.toArray⟩, .slice ea ne ec, .int .u64 t1, .int .u64 t2, .slice pa n pc, .string ⟨author.toArray⟩, .int .i64 time, .string ⟨msg.toArray⟩] 35) := ⟨_, rfl⟩
  have HKU : Hid (BK w.heap.size #[.int .i64 kind, .string ⟨data.toArray⟩, .slice ea ne ec, .int .u64 t1, .int .u64 t2, .slice pa n pc, .string ⟨author.toArray⟩, .int .i64 time, .string ⟨msg.toArray⟩] 35 u) := Lib.hid (by rw [hu]; exact BK.new _ _ _)
  have HBU : Hid (Below w.heap.size w u) := Lib.hid (by rw [hu]; exact (Below.refl _ w).alloc (Nat.le_refl _) _)
  have hzu : u.heap.size = w.heap.size + 1 := by rw [hu]; simp
  have HU := Lib.hid hu
  clear hu
  obtain ⟨u0, hu0⟩ : ∃ u0, u0 = u.alloc (.cells #[] 26) := ⟨_, rfl⟩
  have HK0 : Hid (BK w.heap.size #[.int .i64 kind, .string ⟨data.toArray⟩, .slice ea ne ec, .int .u64 t1, .int .u64 t2, .slice pa n pc, .string ⟨author.toArray⟩, .int .i64 time, .string ⟨msg.toArray⟩] 35 u0) := Lib.hid (by rw [hu0]; exact HKU.out.alloc _)
  have HB0 : Hid (Below w.heap.size w u0) := Lib.hid (by rw [hu0]; exact HBU.out.alloc (by omega) _)
  have HO0 : Hid (u0.ownsRow (w.heap.size + 1) 26 2 (.slice (some ⟨w.heap.size + 1, 0, none⟩) 0 0) 0 []) := Lib.hid (by rw [hu0, ← hzu]; exact own_empty _ _ _ _ (Nat.le_refl _))
  have HC0 := Lib.hid (HC.out u0 HB0.out)
  rw [hu0] at HC0
  rw [HU.out] at HC0
  have HU0 := Lib.hid hu0
  have hz0 : u0.heap.size = w.heap.size + 2 := by rw [hu0]; simp; omega
  clear hu0
  by_cases he : er = 0
  · subst he
    have HR := Lib.hid (HF0.out rfl)
    clear HF0 HF1 HC
    go_enter Tryz.func63, Tryz.ntmps63
    go_wp2_with fail
    (with_reducible refine (HC0.out).mono ?_)
    rintro e u2 ⟨rfl, hb⟩
    rw [← HU.out] at hb
    rw [← HU0.out] at hb
    have HK2 := Lib.hid (HK0.out.below hb)
    have HB2 := Lib.hid (HB0.out.trans (hb.mono HB0.out.size))
    have HO2 := Lib.hid (own_below HO0.out hb)
    have hz2 : w.heap.size + 1 ≤ u2.heap.size := by have := hb.size; omega
    clear hb HC0 HU HU0 HK0 HB0 HO0 hz0 hzu HKU HBU u0 u
    go_wp2_with fail
    go_loopw [3, 4] (fun v i wr => ∃ k : Nat, k ≤ ne ∧ i = .int .i64 k ∧ w.heap.size + 1 ≤ wr.heap.size ∧ Hid (wr.ownsRow (w.heap.size + 1) 26 2 v ((ents.take k).map (·.d)).length (dcells ((ents.take k).map (·.d)))) ∧ Hid (Below w.heap.size w wr) ∧ Hid (BK w.heap.size #[.int .i64 kind, .string ⟨data.toArray⟩, .slice ea ne ec, .int .u64 t1, .int .u64 t2, .slice pa n pc, .string ⟨author.toArray⟩, .int .i64 time, .string ⟨msg.toArray⟩] 35 wr)) (fun _ i _ => ne - (intOf i).toNat)
    case atStart => exact ⟨0, by omega, rfl, hz2, HO2, HB2, HK2⟩
    case round =>
      clear HK2 HB2 HO2 hz2
      obtain ⟨k, hk, rfl, hws, HO, HB, HK⟩ := hrel
      have hlk : ((ents.take k).map (·.d)).length = k := by rw [List.length_map, List.length_take]; have := HNE.out; omega
      obtain ⟨av, cv, rfl, hcap⟩ := ownsRow_sliceN HO.out
      have e0 : wr.cell? ⟨w.heap.size, 0, none⟩ = some (.int .i64 kind) := by rw [HK.out.cell]; rfl
      have e1 : wr.cell? ⟨w.heap.size, 1, none⟩ = some (.string ⟨data.toArray⟩) := by rw [HK.out.cell]; rfl
      have e2 : wr.cell? ⟨w.heap.size, 2, none⟩ = some (.slice ea ne ec) := by rw [HK.out.cell]; rfl
      have e3 : wr.cell? ⟨w.heap.size, 3, none⟩ = some (.int .u64 t1) := by rw [HK.out.cell]; rfl
      have e4 : wr.cell? ⟨w.heap.size, 4, none⟩ = some (.int .u64 t2) := by rw [HK.out.cell]; rfl
      have e5 : wr.cell? ⟨w.heap.size, 5, none⟩ = some (.slice pa n pc) := by rw [HK.out.cell]; rfl
      have e6 : wr.cell? ⟨w.heap.size, 6, none⟩ = some (.string ⟨author.toArray⟩) := by rw [HK.out.cell]; rfl
      have e7 : wr.cell? ⟨w.heap.size, 7, none⟩ = some (.int .i64 time) := by rw [HK.out.cell]; rfl
      have e8 : wr.cell? ⟨w.heap.size, 8, none⟩ = some (.string ⟨msg.toArray⟩) := by rw [HK.out.cell]; rfl
      by_cases hlt : k < ne
      · have h1 : k < ents.length := by have := HNE.out; omega
        obtain ⟨b0, o0, rfl, hb0, q0, q1, q2, q3⟩ := (HEN.out.below HB.out (Nat.le_refl _)) k h1
        have HMS := Lib.hid (map_take_succ ents k h1)
        generalize ents[k] = en at q0 q1 q2 q3 HMS
        obtain ⟨nm, dir, d1, d2⟩ := en
        simp only at q0 q1 q2 q3 HMS
        obtain ⟨v', W', hrun, hown', hg', hat'⟩ := append_one HO.out d1 d2 (by omega) (by omega)
        have hne : (Value.slice av ((ents.take k).map (·.d)).length cv).ownBlock ≠ some w.heap.size := fun hh => by have := (HO.out.lt _ hh).1; omega
        have HO2 : Hid (W'.ownsRow (w.heap.size + 1) 26 2 v' ((ents.take (k + 1)).map (·.d)).length (dcells ((ents.take (k + 1)).map (·.d)))) := Lib.hid (by rw [HMS.out]; exact hown')
        have HB2 : Hid (Below w.heap.size w W') := Lib.hid ((HB.out.alloc (by omega) _).grown hg' (by simp; omega) (fun j hj => by have := (HO.out.lt _ hj).1; omega))
        have HK2 := Lib.hid ((HK.out.alloc _).grow hg' (fun j hj e => hne (by rw [hj, e])))
        have hws2 : w.heap.size + 1 ≤ W'.heap.size := by have := hg'.size; simp at this; omega
        have HRUN := Lib.hid hrun
        clear hrun hown' hg' hat' hlk hne
        generalize ((ents.take k).map (·.d)).length = m at HRUN hcap ⊢
        go_wp2_with (at_builtin; refine Lib.wpList_append_run _ rfl _ _ _ _ rfl _ _ rfl rfl _ _ HRUN.out ?_)
        go_roundw
        case rel => exact ⟨k + 1, by omega, by go_num, hws2, HO2, HB2, HK2⟩
        case measure => simp [intOf] <;> omega
      · have hfull : ents.take k = ents := List.take_of_length_le (by have := HNE.out; omega)
        rw [hfull] at HO hcap hlk ⊢
        clear hfull
        by_cases h3 : kind = 3
        · subst h3
          rw [if_pos rfl] at HR
          obtain ⟨v1, W1, hrun1, hown1, hg1, _⟩ := append_one HO.out t1 t2 (by omega) (by omega)
          have hne : (Value.slice av (ents.map (·.d)).length cv).ownBlock ≠ some w.heap.size := fun hh => by have := (HO.out.lt _ hh).1; omega
          have HB1 : Hid (Below w.heap.size w W1) := Lib.hid ((HB.out.alloc (by omega) _).grown hg1 (by simp; omega) (fun j hj => by have := (HO.out.lt _ hj).1; omega))
          have c5 : W1.cell? ⟨w.heap.size, 5, none⟩ = some (.slice pa n pc) := by
            have HK1 := (HK.out.alloc _).grow hg1 (fun j hj e => hne (by rw [hj, e]))
            rw [HK1.cell]; rfl
          obtain ⟨v2, W2, hrun2, hown2, hg2, _⟩ := append_digs W1 (w.heap.size + 1) 33 v1 _ hown1 pa pars pc ((HPA.out.below HB1.out (Nat.le_refl _)).mono HB1.out.size) (by simp; have := HNP.out; have := HNE.out; simp at hlk; omega) (by have := hg1.size; simp at this; omega)
          have HB2 : Hid (Below w.heap.size w W2) := Lib.hid (HB1.out.grown hg2 HB1.out.size (fun j hj => by have := (hown1.lt _ hj).1; omega))
          rw [← HNP.out] at hrun2
          have HRUN1 := Lib.hid hrun1
          have HRUN2 := Lib.hid hrun2
          have HO2 := Lib.hid hown2
          clear hrun1 hrun2 hown1 hown2 hg1 hg2 HB1 hlk hne
          generalize (ents.map (·.d)).length = m at HRUN1 hcap ⊢
          have tok1 : True := trivial
          go_wp2_with (at_builtin; first | (have _t := tok1; refine Lib.wpList_append_run _ rfl _ _ _ _ rfl _ _ rfl rfl _ _ HRUN1.out ?_; clear _t tok1) | (refine Lib.wpList_append_run _ rfl _ _ _ _ rfl _ _ rfl rfl _ _ HRUN2.out ?_))
          obtain ⟨a2, cap2, rfl, _⟩ := ownsRow_sliceN HO2.out
          go_ret
          rw [HR.out]
          exact ⟨a2, cap2, rfl, own_le HO2.out (by omega), HB2.out⟩
        · rw [if_neg h3, List.append_nil] at HR
          have e3 : (kind == 3) = false := by simpa using h3
          obtain ⟨v2, W2, hrun2, hown2, hg2, _⟩ := append_digs wr (w.heap.size + 1) 33 _ _ HO.out pa pars pc ((HPA.out.below HB.out (Nat.le_refl _)).mono HB.out.size) (by simp; have := HNP.out; have := HNE.out; simp at hlk; omega) hws
          have HB2 : Hid (Below w.heap.size w W2) := Lib.hid (HB.out.grown hg2 HB.out.size (fun j hj => by have := (HO.out.lt _ hj).1; omega))
          rw [← HNP.out] at hrun2
          have HRUN2 := Lib.hid hrun2
          have HO2 := Lib.hid hown2
          clear h3 hlk hrun2 hown2 hg2
          generalize (ents.map (·.d)).length = m at HRUN2 hcap ⊢
          go_wp2_with (at_builtin; refine Lib.wpList_append_run _ rfl _ _ _ _ rfl _ _ rfl rfl _ _ HRUN2.out ?_)
          obtain ⟨a2, cap2, rfl, _⟩ := ownsRow_sliceN HO2.out
          go_ret
          rw [HR.out]
          exact ⟨a2, cap2, rfl, own_le HO2.out (by omega), HB2.out⟩
  · have HR := Lib.hid (HF1.out he)
    have hne : (er != 0) = true := by simpa using he
    clear HF0 HF1 HC he
    go_enter Tryz.func63, Tryz.ntmps63
    go_wp2_with fail
    (with_reducible refine (HC0.out).mono ?_)
    rintro e u2 ⟨rfl, hb⟩
    rw [← HU.out] at hb
    rw [← HU0.out] at hb
    have HB2 := Lib.hid (HB0.out.trans (hb.mono HB0.out.size))
    have HO2 := Lib.hid (own_below HO0.out hb)
    clear hb HC0 HU HU0
    go_wp2_with fail
    go_ret
    rw [HR.out]
    exact ⟨_, _, rfl, own_le HO2.out (by omega), HB2.out⟩
end Go.Proofs.YtlfodnehgedpmaaGreat
