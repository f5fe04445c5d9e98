/- tree.Store. -/
import Derived.Test.YtceacjnhkcikgaaGreatDoorTtSy
import Derived.Test.YtceacjnhkcikgaaGreatDoorTtLp
namespace Go.Proofs.YtceacjnhkcikgaaGreatDoor
open Go.RowKit Go.Shelf
set_option linter.unusedVariables false

/-- What Store, Set, Remove hand back. -/
def GotSo (w : World) (a : Option Addr) (xs : List Itm) (m : Nat) (r : StR) (e : Ending) (w' : World) : Prop := GotSt w a xs r e w' ∧ r.1.length ≤ xs.length + m
theorem GotSo.bad {w w' : World} (a : Option Addr) (xs : List Itm) (m : Nat) (er : Int) (hb : Below w.heap.size w w') : GotSo w a xs m (badR er) (.returned (.tuple #[.slice none 0 0, .agg #[.int .u64 0, .int .u64 0], .int .i64 er])) w' :=
  ⟨⟨none, 0, rfl, PoolAt.none a xs hb, ⟨Its.nil _ _ _, Nat.zero_le _, by simp [badR], by simp [badR]⟩, asc_nil⟩, by simp [badR]⟩
/-- The result's cells are written. -/
theorem res_cells {w W1 u : World} {a : Option Addr} {xs : List Itm} {c b : Nat} {r : StR} {ra : Option Addr} {rc : Nat} (hp : PoolIn w a xs c) (hb1 : w.heap.size ≤ b) (hb2 : b < W1.heap.size) (hw : Below w.heap.size w W1) (hat : PoolAt W1 a xs r.1 ra rc u) (hin : PoolIn u ra r.1 rc) (hasc : Asc r.1) (x y : Value) :
    GotSt w a xs r (.returned (.tuple #[.slice ra r.1.length rc, .agg #[.int .u64 r.2.1.1, .int .u64 r.2.1.2], .int .i64 r.2.2])) ((u.setCell ⟨b, 0, none⟩ x).setCell ⟨b, 1, none⟩ y) := by
  have hne : ∀ ad, ra = some ad → 0 < r.1.length → some b ≠ some ad.block := by
    intro ad e hq e2
    have e2 := Option.some.inj e2
    rcases hat.2.2.1 with ⟨h1, h2⟩ | h1
    · rw [h1] at e
      rw [h2] at hq
      have := its_lt hp.its ad e hq
      omega
    · have := h1 ad e; omega
  have hin2 : PoolIn ((u.setCell ⟨b, 0, none⟩ x).setCell ⟨b, 1, none⟩ y) ra r.1 rc := (hin.grown (grownBy_setCellX _ _ _ _) hne).grown (grownBy_setCellX _ _ _ _) hne
  refine ⟨ra, rc, rfl, ⟨hin2.its, hin2.cap, ?_, ((hw.trans (hat.2.2.2.mono hw.size)).setCell hb1 _).setCell hb1 _⟩, hin2, hasc⟩
  rcases hat.2.2.1 with h | h
  · exact .inl h
  · exact .inr (fun ad e => Nat.le_trans hw.size (h ad e))
set_option maxRecDepth 100000 in
set_option maxHeartbeats 4000000 in
theorem Store_any (a : Option Addr) (xs : List Itm) (c : Nat) (la : Option Addr) (l : List Fl) (lc : Nat) (w : World) (hp : PoolIn w a xs c) (ha : Asc xs) (hl : Fls w.heap.size w la l) (hsz : SzF l) (hpl : ∀ x ∈ l, x.path.length ≤ 1000) (hlen : xs.length ≤ 50000000) :
    Calls Tryz.prog 7 #[.slice a xs.length c, .slice la l.length lc] w (GotSo w a xs 20201 (storeC xs l)) := by
  have hll := hsz.len
  obtain ⟨u1, hu1⟩ : ∃ u1, u1 = w.alloc (.cells #[.int .u64 0, .int .u64 0] 31) := ⟨_, rfl⟩
  have hb1 : Below w.heap.size w u1 := by rw [hu1]; exact (Below.refl _ _).alloc (Nat.le_refl _) _
  have hz1 : u1.heap.size = w.heap.size + 1 := by rw [hu1]; simp
  have HR1 : Hid (BK w.heap.size #[.int .u64 0, .int .u64 0] 31 u1) := Lib.hid (by rw [hu1]; exact BK.new _ _ _)
  have HC := Lib.hid (tcheck_any la l lc u1 (hl.ahead hb1) hll (fun x hx => by have := hpl x hx; omega) hsz.dat)
  have HS := Lib.hid (fun W (hW : Below w.heap.size w W) (hg : GoodF l) => store_any 101 a xs c la l lc W (hp.below hW) ha (hl.ahead hW) (by omega) (hg.ok (Nat.le_refl _)) hsz hpl (by have : l.length * 101 ≤ 200 * 101 := Nat.mul_le_mul_right _ hll; omega))
  have HP := Lib.hid hp
  obtain ⟨R, hR⟩ : ∃ R, R = storeC xs l := ⟨_, rfl⟩
  rw [← hR]
  unfold storeC at hR
  have HGO : Hid (checkF l = 0 → GoodF l) := Lib.hid check_ok
  generalize checkF l = ce at HC hR HGO
  have HQ := Lib.hid hR
  rw [hu1] at HC
  have HU1 := Lib.hid hu1
  have HB1 := Lib.hid hb1
  clear hu1 hb1 hR hp hl hsz ha hpl
  obtain ⟨nl, hnl⟩ : ∃ k, k = l.length := ⟨_, rfl⟩
  obtain ⟨nx, hnx⟩ : ∃ k, k = xs.length := ⟨_, rfl⟩
  rw [← hnl] at HC HS hll ⊢
  rw [← hnx] at HS ⊢
  have HNX := Lib.hid hnx
  clear hnl hnx
  go_enter Tryz.func7, Tryz.ntmps7
  go_wp2_with fail
  (with_reducible refine HC.out.mono ?_)
  rintro e u2 ⟨rfl, hb2⟩
  rw [← HU1.out] at hb2
  have HB2 : Hid (Below w.heap.size w u2) := Lib.hid (HB1.out.trans (hb2.mono HB1.out.size))
  have HR2 := Lib.hid (HR1.out.below hb2)
  have hz2 := hb2.size
  clear hb2 HC
  by_cases hce : ce = 0
  · subst hce
    have hS := HS.out u2 HB2.out (HGO.out rfl)
    rw [if_neg (by simp)] at HQ
    rw [← HQ.out] at hS
    have HST := Lib.hid hS
    clear hS
    go_wp2_with fail
    (with_reducible refine HST.out.mono ?_)
    rintro e u9 ⟨⟨ra, rc, rfl, hpat, hpin, hasc⟩, hql⟩
    have hres := fun x y => res_cells (b := w.heap.size) HP.out (Nat.le_refl _) (by omega) HB2.out hpat hpin hasc x y
    have hrc := HR2.out.below hpat.2.2.2
    have HLQ : Hid (R.1.length ≤ xs.length + 20201) := Lib.hid (by have := HNX.out; omega)
    obtain ⟨nq, hnq⟩ : ∃ nq, nq = R.1.length := ⟨_, rfl⟩
    rw [← hnq] at hres ⊢
    clear hpat hpin hasc hql HST
    have HRE : Hid (R = R) := Lib.hid rfl
    generalize hg1 : R.2.1.1 = g1 at hres ⊢
    generalize hg2 : R.2.1.2 = g2 at hres ⊢
    generalize her : R.2.2 = er at hres ⊢
    obtain ⟨t0, t1⟩ := hrc.c2
    obtain ⟨s0, s1⟩ := hrc.f2
    have hrc1 : BK w.heap.size #[.int .u64 g1, .int .u64 0] 31 (u9.setCell ⟨w.heap.size, 0, none⟩ (.int .u64 g1)) := hrc.set 0 _
    obtain ⟨t2, t3⟩ := hrc1.c2
    obtain ⟨s2, s3⟩ := hrc1.f2
    have hrc2 : BK w.heap.size #[.int .u64 g1, .int .u64 g2] 31 ((u9.setCell ⟨w.heap.size, 0, none⟩ (.int .u64 g1)).setCell ⟨w.heap.size, 1, none⟩ (.int .u64 g2)) := hrc1.set 1 _
    obtain ⟨t4, t5⟩ := hrc2.c2
    have HFN : Hid (GotSo w a xs 20201 R (.returned (.tuple #[.slice ra nq rc, .agg #[.int .u64 g1, .int .u64 g2], .int .i64 er])) ((u9.setCell ⟨w.heap.size, 0, none⟩ (.int .u64 g1)).setCell ⟨w.heap.size, 1, none⟩ (.int .u64 g2))) := Lib.hid ⟨hres _ _, HLQ.out⟩
    clear hres hrc hrc1 hrc2 hg1 hg2 her hnq
    go_wp2_with fail
    refine bodyPost_ret (v := .tuple #[.slice ra nq rc, .agg #[.int .u64 g1, .int .u64 g2], .int .i64 er]) (by simp [results, Tryz.results7, go_sem, t4, t5]) rfl ?_
    exact HFN.out
  · rw [if_pos hce] at HQ
    have hrc := HR2.out
    obtain ⟨t0, t1⟩ := hrc.c2
    obtain ⟨s0, s1⟩ := hrc.f2
    have hrc1 : BK w.heap.size #[.int .u64 0, .int .u64 0] 31 (u2.setCell ⟨w.heap.size, 0, none⟩ (.int .u64 0)) := hrc.set 0 _
    obtain ⟨t2, t3⟩ := hrc1.c2
    obtain ⟨s2, s3⟩ := hrc1.f2
    have hrc2 : BK w.heap.size #[.int .u64 0, .int .u64 0] 31 ((u2.setCell ⟨w.heap.size, 0, none⟩ (.int .u64 0)).setCell ⟨w.heap.size, 1, none⟩ (.int .u64 0)) := hrc1.set 1 _
    obtain ⟨t4, t5⟩ := hrc2.c2
    have HFN : Hid (GotSo w a xs 20201 R (.returned (.tuple #[.slice none 0 0, .agg #[.int .u64 0, .int .u64 0], .int .i64 ce])) ((u2.setCell ⟨w.heap.size, 0, none⟩ (.int .u64 0)).setCell ⟨w.heap.size, 1, none⟩ (.int .u64 0))) := Lib.hid (by rw [HQ.out]; exact GotSo.bad a xs _ _ ((HB2.out.setCell (Nat.le_refl _) _).setCell (Nat.le_refl _) _))
    clear hrc hrc1 hrc2
    go_wp2_with fail
    refine bodyPost_ret (v := .tuple #[.slice none 0 0, .agg #[.int .u64 0, .int .u64 0], .int .i64 ce]) (by simp [results, Tryz.results7, go_sem, t4, t5]) rfl ?_
    exact HFN.out
end Go.Proofs.YtceacjnhkcikgaaGreatDoor
