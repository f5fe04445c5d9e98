/- object.reader's methods. -/
import Derived.Test.YtlfodnehgedpmaaObEn
namespace Go.Proofs.Ytlfodnehgedpmaa
open Go.RowKit Go.Shelf
set_option linter.unusedVariables false

/-- What is left of a text, and whether something was wrong. -/
abbrev RS := List UInt8 × Bool
def rNum (r : RS) : Int × RS := ((Cw.getI r.1).1, (r.1.drop (Cw.getI r.1).2.1.toNat, r.2 || (Cw.getI r.1).2.2 != 0))
def rStr (r : RS) : List UInt8 × RS := ((Cw.getT r.1).1, (r.1.drop (Cw.getT r.1).2.1.toNat, r.2 || (Cw.getT r.1).2.2 != 0))
def rDig (r : RS) : (Int × Int) × RS := if r.1.length < 16 then ((0, 0), (r.1, true)) else ((fixS (r.1.take 8), fixS ((r.1.drop 8).take 8)), (r.1.drop 16, r.2))
/-- A reader in a block. -/
def RD (b : Nat) (r : RS) (W : World) : Prop := W.heap[b]? = some (.cells #[.string ⟨r.1.toArray⟩, .bool r.2] 88 (0, 0))
theorem getI_all {l : List UInt8} {n u er : Int} (h : Cw.getI l = (n, u, er)) : 0 ≤ n ∧ n ≤ 1099511627776 ∧ 0 ≤ u ∧ u ≤ l.length := by
  by_cases he : er = 0
  · subst he
    have := getI_bounds h
    omega
  · have h1 : (Cw.getGo 6 0 0 1 l).2.2 ≠ 0 := by
      have : Cw.getGo 6 0 0 1 l = (n, u, er) := h
      rw [this]; exact he
    have h2 : Cw.getGo 6 0 0 1 l = (n, u, er) := h
    rcases getGo_err 6 0 0 1 l h1 with h3 | h3
    · rw [h3] at h2; simp only [Prod.mk.injEq] at h2; omega
    · rw [h3] at h2; simp only [Prod.mk.injEq] at h2; omega
theorem getT_all {l x : List UInt8} {u er : Int} (h : Cw.getT l = (x, u, er)) : 0 ≤ u ∧ u ≤ l.length ∧ x.length ≤ 65536 := by
  obtain ⟨n, k, er', hI, hc⟩ := getT_cases l
  have hb := getI_all hI
  rcases hc with ⟨_, hr⟩ | ⟨_, _, hr⟩ | ⟨_, _, _, hr⟩ | ⟨_, _, _, hr⟩
  · rw [h] at hr; simp only [Prod.mk.injEq] at hr; rw [hr.1, hr.2.1]; simp
  · rw [h] at hr; simp only [Prod.mk.injEq] at hr; rw [hr.1, hr.2.1]; simp
  · rw [h] at hr; simp only [Prod.mk.injEq] at hr; rw [hr.1, hr.2.1]; simp
  · rw [h] at hr; simp only [Prod.mk.injEq] at hr; rw [hr.1, hr.2.1]; simp only [List.length_take, List.length_drop]; omega
theorem rd_set {b : Nat} {l l' : List UInt8} {bad bad' : Bool} {W : World} (h : RD b (l, bad) W) : RD b (l', bad') ((W.setCell ⟨b, 1, none⟩ (.bool bad')).setCell ⟨b, 0, none⟩ (.string ⟨l'.toArray⟩)) := by
  unfold RD at h ⊢
  simp [World.setCell, Array.getElem?_modify, h]

set_option maxRecDepth 100000 in
set_option maxHeartbeats 1000000 in
theorem rnumber_any (b : Nat) (r : RS) (w : World) (h : RD b r w) (hl : (r.1.length : Int) ≤ 140737488355328) :
    Calls Try.prog 41 #[.pointer (some ⟨b, 0, none⟩)] w fun e w' => e = .returned (.int .i64 (rNum r).1) ∧ Hid (RD b (rNum r).2 w') ∧ Hid (w.grownBy w' (some b)) := by
  obtain ⟨l, bad⟩ := r
  obtain ⟨n, u, er, hg⟩ : ∃ n u er, Cw.getI l = (n, u, er) := ⟨_, _, _, rfl⟩
  have HGI := Lib.hid (fun X => getInt_is (s := ⟨l.toArray⟩) (n := n) (k := u) (er := er) (by simpa using hg) X)
  have hb := getI_all hg
  have hR : rNum (l, bad) = (n, (l.drop u.toNat, bad || er != 0)) := by unfold rNum; rw [hg]
  obtain ⟨u0, rfl⟩ : ∃ u0 : Nat, u = (u0 : Int) := ⟨u.toNat, by omega⟩
  rw [Int.toNat_natCast] at hR
  have hul : u0 ≤ l.length := by omega
  have hsl := fun W => sl_lo l u0 hul W
  have hex : (⟨l.toArray⟩ : ByteArray).extract u0 l.length = ⟨(l.drop u0).toArray⟩ := by rw [ex_mid, List.take_of_length_le (by simp)]
  rw [hR]
  generalize l.drop u0 = l' at hsl hex ⊢
  have HH := Lib.hid h
  have c0 : w.cell? ⟨b, 0, none⟩ = some (.string ⟨l.toArray⟩) := by rw [Lib.cell_of_heap h]; rfl
  have c1 : w.cell? ⟨b, 1, none⟩ = some (.bool bad) := by rw [Lib.cell_of_heap h]; rfl
  have f0 : w.frozen? ⟨b, 0, none⟩ = false := Lib.frozen_of_heap h 0
  have f1 : w.frozen? ⟨b, 1, none⟩ = false := Lib.frozen_of_heap h 1
  simp only at hl
  clear hg hR h
  cases bad with
  | true =>
    go_enter Try.func41, Try.ntmps41
    go_wp2_with fail
    refine (HGI.out _).mono ?_
    rintro e w' ⟨rfl, rfl⟩
    go_wp2_with fail
    go_ret
    exact ⟨rfl, Lib.hid (rd_set HH.out), Lib.hid (gtrans (gset _ _ _ _) (gset _ _ _ _))⟩
  | false =>
    cases he : (er != 0) with
    | true =>
      go_enter Try.func41, Try.ntmps41
      go_wp2_with fail
      refine (HGI.out _).mono ?_
      rintro e w' ⟨rfl, rfl⟩
      go_wp2_with fail
      go_ret
      exact ⟨rfl, Lib.hid (rd_set HH.out), Lib.hid (gtrans (gset _ _ _ _) (gset _ _ _ _))⟩
    | false =>
      go_enter Try.func41, Try.ntmps41
      go_wp2_with fail
      refine (HGI.out _).mono ?_
      rintro e w' ⟨rfl, rfl⟩
      go_wp2_with fail
      go_ret
      exact ⟨rfl, Lib.hid (rd_set HH.out), Lib.hid (gtrans (gset _ _ _ _) (gset _ _ _ _))⟩

set_option maxRecDepth 100000 in
set_option maxHeartbeats 1000000 in
theorem rstring_any (b : Nat) (r : RS) (w : World) (h : RD b r w) (hl : (r.1.length : Int) ≤ 140737488355328) :
    Calls Try.prog 42 #[.pointer (some ⟨b, 0, none⟩)] w fun e w' => e = .returned (.string ⟨(rStr r).1.toArray⟩) ∧ Hid (RD b (rStr r).2 w') ∧ Hid (w.grownBy w' (some b)) := by
  obtain ⟨l, bad⟩ := r
  obtain ⟨n, u, er, hg⟩ : ∃ n u er, Cw.getT l = (n, u, er) := ⟨_, _, _, rfl⟩
  have HGI : Hid (∀ X, Calls Try.prog 65 #[.string ⟨l.toArray⟩] X fun e w' => e = .returned (.tuple #[.string ⟨n.toArray⟩, .int .i64 u, .int .i64 er]) ∧ X = w') := Lib.hid (fun X => by
    have := getText_any ⟨l.toArray⟩ X (by rw [ba_len]; exact hl)
    rw [show (⟨l.toArray⟩ : ByteArray).data.toList = l by simp, hg] at this
    exact this)
  have hb := getT_all hg
  have hR : rStr (l, bad) = (n, (l.drop u.toNat, bad || er != 0)) := by unfold rStr; rw [hg]
  obtain ⟨u0, rfl⟩ : ∃ u0 : Nat, u = (u0 : Int) := ⟨u.toNat, by omega⟩
  rw [Int.toNat_natCast] at hR
  have hul : u0 ≤ l.length := by omega
  have hsl := fun W => sl_lo l u0 hul W
  have hex : (⟨l.toArray⟩ : ByteArray).extract u0 l.length = ⟨(l.drop u0).toArray⟩ := by rw [ex_mid, List.take_of_length_le (by simp)]
  rw [hR]
  generalize l.drop u0 = l' at hsl hex ⊢
  have HH := Lib.hid h
  have c0 : w.cell? ⟨b, 0, none⟩ = some (.string ⟨l.toArray⟩) := by rw [Lib.cell_of_heap h]; rfl
  have c1 : w.cell? ⟨b, 1, none⟩ = some (.bool bad) := by rw [Lib.cell_of_heap h]; rfl
  have f0 : w.frozen? ⟨b, 0, none⟩ = false := Lib.frozen_of_heap h 0
  have f1 : w.frozen? ⟨b, 1, none⟩ = false := Lib.frozen_of_heap h 1
  simp only at hl
  clear hg hR h
  cases bad with
  | true =>
    go_enter Try.func42, Try.ntmps42
    go_wp2_with fail
    refine (HGI.out _).mono ?_
    rintro e w' ⟨rfl, rfl⟩
    go_wp2_with fail
    go_ret
    exact ⟨rfl, Lib.hid (rd_set HH.out), Lib.hid (gtrans (gset _ _ _ _) (gset _ _ _ _))⟩
  | false =>
    cases he : (er != 0) with
    | true =>
      go_enter Try.func42, Try.ntmps42
      go_wp2_with fail
      refine (HGI.out _).mono ?_
      rintro e w' ⟨rfl, rfl⟩
      go_wp2_with fail
      go_ret
      exact ⟨rfl, Lib.hid (rd_set HH.out), Lib.hid (gtrans (gset _ _ _ _) (gset _ _ _ _))⟩
    | false =>
      go_enter Try.func42, Try.ntmps42
      go_wp2_with fail
      refine (HGI.out _).mono ?_
      rintro e w' ⟨rfl, rfl⟩
      go_wp2_with fail
      go_ret
      exact ⟨rfl, Lib.hid (rd_set HH.out), Lib.hid (gtrans (gset _ _ _ _) (gset _ _ _ _))⟩

end Go.Proofs.Ytlfodnehgedpmaa
