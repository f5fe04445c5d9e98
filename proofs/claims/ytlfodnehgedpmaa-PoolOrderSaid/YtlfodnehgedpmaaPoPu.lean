/- pool.Put, pool.Add, pool.Check. -/
import Derived.Test.YtlfodnehgedpmaaPoGe
namespace Go.Proofs.Ytlfodnehgedpmaa
open Go.RowKit Go.Shelf
set_option linter.unusedVariables false

/-- A pool with an object, its digest, and the error. -/
def putS (xs : List Itm) (o : Ob) : List Itm × (Int × Int) × Int :=
  if (encodeS o).2 ≠ 0 then ([], (0, 0), (encodeS o).2)
  else if (insS xs ⟨digS (encodeS o).1, (encodeS o).1⟩).2 ≠ 0 then ([], (0, 0), (insS xs ⟨digS (encodeS o).1, (encodeS o).1⟩).2)
  else ((insS xs ⟨digS (encodeS o).1, (encodeS o).1⟩).1, digS (encodeS o).1, 0)
def GotPut (w : World) (pa : Option Addr) (ps : List Itm) (r : List Itm × (Int × Int) × Int) (e : Ending) (w' : World) : Prop := ∃ a c, e = .returned (.tuple #[.slice a r.1.length c, .agg #[.int .u64 r.2.1.1, .int .u64 r.2.1.2], .int .i64 r.2.2]) ∧ PoolAt w pa ps r.1 a c w'
theorem PoolAt.none {w w' : World} (pa : Option Addr) (ps : List Itm) (h : Below w.heap.size w w') : PoolAt w pa ps [] Option.none 0 w' := ⟨Its.nil _ _ _, Nat.le_refl _, .inr (fun ad h => by cases h), h⟩
theorem encodeS_len (o : Ob) : (encodeS o).1.length ≤ 65536 := by
  unfold encodeS
  split
  · simp
  · split
    · simp
    · simp only; omega
theorem Its.set {B : Nat} {W : World} {a : Option Addr} {xs : List Itm} (h : Its B W a xs) {c : Nat} (hc : ∀ ad, a = some ad → 0 < xs.length → ad.block ≠ c) (j : Nat) (v : Value) : Its B (W.setCell ⟨c, j, none⟩ v) a xs := by
  intro i hi
  obtain ⟨b, off, rfl, hlt, h0, h1, h2⟩ := h i hi
  have hne : b ≠ c := hc _ rfl (by omega)
  have hk := Below.heap_setCell W ⟨c, j, none⟩ v b hne
  exact ⟨b, off, rfl, hlt, (World.cell?_of_block (a := ⟨b, off + i * 3, none⟩) hk).trans h0, (World.cell?_of_block (a := ⟨b, off + i * 3 + 1, none⟩) hk).trans h1, (World.cell?_of_block (a := ⟨b, off + i * 3 + 2, none⟩) hk).trans h2⟩

set_option maxRecDepth 100000 in
set_option maxHeartbeats 2000000 in
theorem put_any (a : Option Addr) (xs : List Itm) (c : Nat) (o : Ob) (ea : Option Addr) (ec : Nat) (pa : Option Addr) (pc : Nat) (w : World) (hp : PoolIn w a xs c) (ha : Asc xs) (ho : ObIn w o ea ec pa pc) :
    Calls Try.prog 6 #[.slice a xs.length c, o.val ea ec pa pc] w (GotPut w a xs (putS xs o)) := by
  have HE := Lib.hid (fun W (hW : Below w.heap.size w W) => encode_any o ea ec pa pc W (ho.below hW))
  have hel := encodeS_len o
  obtain ⟨R, hR⟩ : ∃ R, R = putS xs o := ⟨_, rfl⟩
  rw [← hR]
  unfold putS at hR
  generalize encodeS o = r at HE hel hR
  obtain ⟨T, er⟩ := r
  simp only at HE hel hR
  have HOf := Lib.hid (fun W => of_any T W (by omega))
  generalize hdg : digS T = dg at HOf hR
  clear hdg
  obtain ⟨g1, g2⟩ := dg
  simp only at HOf
  have HI := Lib.hid (fun W (hW : Below w.heap.size w W) => insert_any a xs c ⟨(g1, g2), T⟩ W (hp.below hW).its ha hp.cap hp.len)
  simp only [Itm.val] at HI
  generalize insS xs ⟨(g1, g2), T⟩ = I at HI hR
  obtain ⟨ys, ei⟩ := I
  simp only at HI hR
  obtain ⟨kind, data, ents, ⟨t1, t2⟩, pars, author, time, msg⟩ := o
  simp only [Ob.val] at HE ⊢
  have HP := Lib.hid hp.its
  clear ho hp ha
  obtain ⟨n, hnn⟩ : ∃ n, n = xs.length := ⟨_, rfl⟩
  have HN := Lib.hid hnn
  rw [← hnn] at HI ⊢
  clear hnn
  generalize ents.length = ne at HE ⊢
  generalize pars.length = np at HE ⊢
  obtain ⟨u0, hu0⟩ : ∃ u0, u0 = ((w.alloc (.cells #[.int .i64 kind, .string ⟨data.toArray⟩, .slice ea ne ec, .int .u64 t1, .int .u64 t2, .slice pa np pc, .string ⟨author.toArray⟩, .int .i64 time, .string ⟨msg.toArray⟩] 33)).alloc (.cells #[.int .u64 0, .int .u64 0] 30)) := ⟨_, rfl⟩
  have HB0 : Hid (Below w.heap.size w u0) := Lib.hid (by rw [hu0]; exact ((Below.refl _ w).alloc (Nat.le_refl _) _).alloc (by simp) _)
  have HK0 : Hid (BK (w.heap.size + 1) #[.int .u64 0, .int .u64 0] 30 u0) := Lib.hid (by rw [hu0]; exact BK.new2 _ _ _ _)
  have hz0 : w.heap.size + 2 ≤ u0.heap.size := by rw [hu0]; simp
  have HE0 : Hid (Calls Try.prog 11 _ _ _) := Lib.hid (HE.out u0 HB0.out)
  rw [hu0] at HE0
  have HU0 := Lib.hid hu0
  clear HE
  by_cases he : er = 0
  · subst he
    rw [if_neg (by simp)] at hR
    have HR := Lib.hid hR
    clear hR hu0
    go_enter Try.func6, Try.ntmps6
    go_wp2_with fail
    have hx := HE0.out
    (with_reducible refine hx.mono ?_)
    clear hx HE0
    rintro e u1 ⟨rfl, hb⟩
    rw [← HU0.out] at hb
    have HB1 : Hid (Below w.heap.size w u1) := Lib.hid (HB0.out.trans (hb.mono (by omega)))
    have HK1 := Lib.hid (HK0.out.below hb)
    have hz1 : w.heap.size + 2 ≤ u1.heap.size := by have := hb.size; omega
    clear hb HU0 HB0 HK0 hz0
    go_wp2_with fail
    have hx := HOf.out u1
    (with_reducible refine hx.mono ?_)
    clear hx HOf
    rintro e u2 ⟨rfl, hb⟩
    have HB2 : Hid (Below w.heap.size w u2) := Lib.hid (HB1.out.trans (hb.mono (by omega)))
    have HK2 := Lib.hid (HK1.out.below hb)
    have hz2 : w.heap.size + 2 ≤ u2.heap.size := by have := hb.size; omega
    clear hb HB1 HK1 hz1
    have HB3 : Hid (Below w.heap.size w (u2.alloc (.cells #[.int .u64 g1, .int .u64 g2] 30))) := Lib.hid (HB2.out.alloc (by omega) _)
    have HK3 : Hid (BK (w.heap.size + 1) #[.int .u64 0, .int .u64 0] 30 (u2.alloc (.cells #[.int .u64 g1, .int .u64 g2] 30))) := Lib.hid (HK2.out.alloc _)
    have HD3 : Hid (BK u2.heap.size #[.int .u64 g1, .int .u64 g2] 30 (u2.alloc (.cells #[.int .u64 g1, .int .u64 g2] 30))) := Lib.hid (BK.new _ _ _)
    go_wp2_with fail
    have hx := HI.out _ HB3.out
    (with_reducible refine hx.mono ?_)
    clear hx HI
    rintro e u4 ⟨ra, rc, rfl, hpo⟩
    have HPO := Lib.hid hpo
    have hb := hpo.2.2.2
    have HK4 := Lib.hid (HK3.out.below hb)
    have HD4 := Lib.hid (HD3.out.below hb)
    have HB4 : Hid (Below w.heap.size w u4) := Lib.hid (HB3.out.trans (hb.mono (by simp; omega)))
    have c0 : u4.cell? ⟨w.heap.size + 1, 0, none⟩ = some (.int .u64 0) := by rw [HK4.out.cell]; rfl
    have c1 : u4.cell? ⟨w.heap.size + 1, 1, none⟩ = some (.int .u64 0) := by rw [HK4.out.cell]; rfl
    have f0 : u4.frozen? ⟨w.heap.size + 1, 0, none⟩ = false := HK4.out.frozen 0
    have f1 : u4.frozen? ⟨w.heap.size + 1, 1, none⟩ = false := HK4.out.frozen 1
    have k0 : u4.cell? ⟨u2.heap.size, 0, none⟩ = some (.int .u64 g1) := by rw [HD4.out.cell]; rfl
    have k1 : u4.cell? ⟨u2.heap.size, 1, none⟩ = some (.int .u64 g2) := by rw [HD4.out.cell]; rfl
    have hne : u2.heap.size ≠ w.heap.size + 1 := by omega
    clear hpo hb HB3 HK3 HD3 HK4 HD4
    by_cases hi : ei = 0
    · subst hi
      have HR2 : Hid (R = (ys, (g1, g2), 0)) := Lib.hid (by rw [HR.out, if_neg (by simp)])
      have HFN : Hid (∀ W, (∀ B, Its B u4 ra ys → Its B W ra ys) → W.heap.size = u4.heap.size → Below w.heap.size w W → GotPut w a xs R (.returned (.tuple #[.slice ra ys.length rc, .agg #[.int .u64 g1, .int .u64 g2], .int .i64 0])) W) := Lib.hid (fun W h1 h2 h3 => by
        rw [HR2.out]
        refine ⟨ra, rc, rfl, by rw [h2]; exact h1 _ HPO.out.1, HPO.out.2.1, ?_, h3⟩
        rcases HPO.out.2.2.1 with h | h
        · exact .inl h
        · exact .inr (fun ad had => by have := h ad had; simp at this; omega))
      have HAW : Hid (∀ ad, ra = some ad → 0 < ys.length → ad.block ≠ w.heap.size + 1) := Lib.hid (fun ad had hpos => by
        rcases HPO.out.2.2.1 with h | h
        · have h0 : 0 < xs.length := by rw [← h.2]; exact hpos
          obtain ⟨b, off, hb, hlt, _⟩ := HP.out 0 h0
          rw [← h.1, had] at hb
          cases hb
          simp only
          omega
        · have := h ad had; simp at this; omega)
      clear HR
      go_wp2_with fail
      go_region
      all_goals go_wp2_with fail
      refine bodyPost_ret (v := .tuple #[.slice ra ys.length rc, .agg #[.int .u64 g1, .int .u64 g2], .int .i64 0]) (by simp [results, Try.results6, go_sem, c0, c1]) rfl ?_
      exact HFN.out _ (fun B h => (h.set HAW.out _ _).set HAW.out _ _) (by simp) ((HB4.out.setCell (by simp) _).setCell (by simp) _).drew
    · have HR2 : Hid (R = ([], (0, 0), ei)) := Lib.hid (by rw [HR.out, if_pos hi])
      have hne2 : (ei != 0) = true := by simpa using hi
      clear HR hi
      go_wp2_with fail
      refine bodyPost_ret (v := .tuple #[.slice none 0 0, .agg #[.int .u64 0, .int .u64 0], .int .i64 ei]) (by simp [results, Try.results6, go_sem, c0, c1]) rfl ?_
      rw [HR2.out]
      exact ⟨none, 0, rfl, PoolAt.none _ _ ((HB4.out.setCell (by simp) _).setCell (by simp) _)⟩
  · rw [if_pos he] at hR
    have HR := Lib.hid hR
    have hne : (er != 0) = true := by simpa using he
    clear hR he HOf HI hu0
    go_enter Try.func6, Try.ntmps6
    go_wp2_with fail
    have hx := HE0.out
    (with_reducible refine hx.mono ?_)
    clear hx HE0
    rintro e u1 ⟨rfl, hb⟩
    rw [← HU0.out] at hb
    have HB1 : Hid (Below w.heap.size w u1) := Lib.hid (HB0.out.trans (hb.mono (by omega)))
    have HK1 := Lib.hid (HK0.out.below hb)
    have c0 : u1.cell? ⟨w.heap.size + 1, 0, none⟩ = some (.int .u64 0) := by rw [HK1.out.cell]; rfl
    have c1 : u1.cell? ⟨w.heap.size + 1, 1, none⟩ = some (.int .u64 0) := by rw [HK1.out.cell]; rfl
    have f0 : u1.frozen? ⟨w.heap.size + 1, 0, none⟩ = false := HK1.out.frozen 0
    have f1 : u1.frozen? ⟨w.heap.size + 1, 1, none⟩ = false := HK1.out.frozen 1
    clear hb HU0
    go_wp2_with fail
    refine bodyPost_ret (v := .tuple #[.slice none 0 0, .agg #[.int .u64 0, .int .u64 0], .int .i64 er]) (by simp [results, Try.results6, go_sem, c0, c1]) rfl ?_
    rw [HR.out]
    exact ⟨none, 0, rfl, PoolAt.none _ _ ((HB1.out.setCell (by simp) _).setCell (by simp) _)⟩

end Go.Proofs.Ytlfodnehgedpmaa
