/- The reference's way to put an element into a list: append, twice, in any order. -/
import Derived.Test.YtgdhkcocdmdoaaaGreatRpD
namespace Go.Proofs.YtgdhkcocdmdoaaaGreat
open Go.RowKit Go.Shelf
set_option linter.unusedVariables false

/-- The world that an operation of a drawn region stands in, by name: another world is refused at once. -/
theorem step_at {P : Program} {ops : Array Oper} {o : Oper} {a : Act} {K : Act → World → Prop} {Q : Exit → Act → World → Prop} {E : Prop} (w : World) (h : if Region.wanted o (yielded ops a.tmps) = true then Oper.wp P o a w K Q else E) :
    if Region.wanted o (yielded ops a.tmps) = true then Oper.wp P o a w K Q else E := h
theorem Digs.ahead {W W' : World} {a : Option Addr} {ds : List (Int × Int)} (h : Digs W.heap.size W a ds) (hb : Below W.heap.size W W') : Digs W'.heap.size W' a ds := (h.below hb (Nat.le_refl _)).mono hb.size
theorem digs_one {W : World} {b : Nat} {x1 x2 : Int} (hk : BK b #[.int .u64 x1, .int .u64 x2] 32 W) : Digs W.heap.size W (some ⟨b, 0, none⟩) [(x1, x2)] := fun i hi => by
  obtain rfl : i = 0 := by simp at hi; omega
  exact ⟨_, 0, rfl, hk.lt, by rw [Nat.zero_mul, hk.cell]; rfl, by rw [Nat.zero_mul, hk.cell]; rfl⟩

theorem insI1 {u : World} {A1 A2 : Option Addr} {k m c1 c2 : Nat} {T1 T2 : List Itm} (h1 : Its u.heap.size u A1 T1) (h2 : Its u.heap.size u A2 T2) (x1 x2 : Int) (dt : List UInt8) (hb : ((T1.length + T2.length : Nat) : Int) ≤ 900000) (hk : T1.length = k) (hm : T2.length = m) :
    ∃ (v1 : Value) (z1 : World) (v2 : Value) (z2 : World) (a3 : Option Addr) (c3 : Nat) (z3 : World), Hid ((Builtin.append_ #[23, 23] 23 #[.slice (some ⟨u.heap.size, 0, none⟩) 0 0, .slice A1 k c1]).run Tryz.prog ((u.alloc (.cells #[] 79)).drew) = .ok v1 z1) ∧ Hid ((Builtin.append_ #[23, 23] 23 #[v1, .slice (some ⟨z1.heap.size, 0, none⟩) 1 1]).run Tryz.prog (z1.alloc (.cells #[.int .u64 x1, .int .u64 x2, .string ⟨dt.toArray⟩] 79)) = .ok v2 z2) ∧
      Hid ((Builtin.append_ #[23, 23] 23 #[v2, .slice A2 m c2]).run Tryz.prog (z2) = .ok (.slice a3 (T1 ++ ((⟨(x1, x2), dt⟩ : Itm) :: T2)).length c3) z3) ∧ Below u.heap.size u z1 ∧ Hid (z3.ownsRow u.heap.size 79 3 (.slice a3 (T1 ++ ((⟨(x1, x2), dt⟩ : Itm) :: T2)).length c3) (T1 ++ ((⟨(x1, x2), dt⟩ : Itm) :: T2)).length (icells (T1 ++ ((⟨(x1, x2), dt⟩ : Itm) :: T2))) ∧ (T1 ++ ((⟨(x1, x2), dt⟩ : Itm) :: T2)).length ≤ c3 ∧ Below u.heap.size u z3) := by
  have ho : (u.alloc (.cells #[] 79)).drew.ownsRow u.heap.size 79 3 (.slice (some ⟨u.heap.size, 0, none⟩) 0 0) 0 [] := (World.ownsRow_made (size := 3) u #[] 0 (Nat.le_refl _) (by decide) rfl).drew
  have hB0 : Below u.heap.size u (u.alloc (.cells #[] 79)).drew := ((Below.refl _ u).alloc (Nat.le_refl _) _).drew
  obtain ⟨v1, z1, hr1, hown1, hg1, _⟩ := append_its (u.alloc (.cells #[] 79)).drew u.heap.size 23 _ [] ho A1 T1 c1 (Its.ahead h1 hB0) (by simp; omega) hB0.size
  have hB1 : Below u.heap.size u z1 := below_own hB0 ho hg1 (Nat.le_refl _)
  obtain ⟨v2, z2, hr2, hown2, hg2⟩ := append_itm hown1 (x1, x2) dt (by simp; omega) hB1.size
  have hown1' := hown1.alloc (.cells #[.int .u64 x1, .int .u64 x2, .string ⟨dt.toArray⟩] 79)
  have HBN : Below u.heap.size u (z1.alloc (.cells #[.int .u64 x1, .int .u64 x2, .string ⟨dt.toArray⟩] 79)) := hB1.alloc hB1.size _
  rw [hk] at hr1
  have hB2 : Below u.heap.size u z2 := below_own HBN hown1' hg2 (Nat.le_refl _)
  obtain ⟨v3, z3, hr3, hown3, hg3, _⟩ := append_its z2 u.heap.size 23 v2 _ hown2 A2 T2 c2 (Its.ahead h2 hB2) (by simp; omega) hB2.size
  have hB3 : Below u.heap.size u z3 := below_own hB2 hown2 hg3 (Nat.le_refl _)
  have hL : ([] ++ T1 ++ [(⟨(x1, x2), dt⟩ : Itm)]) ++ T2 = (T1 ++ ((⟨(x1, x2), dt⟩ : Itm) :: T2)) := by simp
  rw [hL] at hown3
  obtain ⟨a3, c3, rfl, hc3⟩ := ownsRow_sliceN hown3
  rw [hm] at hr3
  exact ⟨v1, z1, v2, z2, a3, c3, z3, Lib.hid hr1, Lib.hid hr2, Lib.hid hr3, hB1, Lib.hid ⟨hown3, hc3, hB3⟩⟩

theorem insI2 {u : World} {A1 A2 : Option Addr} {k m c1 c2 : Nat} {T1 T2 : List Itm} (h1 : Its u.heap.size u A1 T1) (h2 : Its u.heap.size u A2 T2) (x1 x2 : Int) (dt : List UInt8) (hb : ((T1.length + T2.length : Nat) : Int) ≤ 900000) (hk : T1.length = k) (hm : T2.length = m) :
    ∃ (v1 : Value) (z1 : World) (v2 : Value) (z2 : World) (a3 : Option Addr) (c3 : Nat) (z3 : World), Hid ((Builtin.append_ #[23, 23] 23 #[.slice (some ⟨u.heap.size, 0, none⟩) 0 0, .slice A1 k c1]).run Tryz.prog (((u.alloc (.cells #[] 79)).alloc (.cells #[.int .u64 x1, .int .u64 x2, .string ⟨dt.toArray⟩] 79)).drew) = .ok v1 z1) ∧ Hid ((Builtin.append_ #[23, 23] 23 #[v1, .slice (some ⟨(u.heap.size + 1), 0, none⟩) 1 1]).run Tryz.prog (z1) = .ok v2 z2) ∧
      Hid ((Builtin.append_ #[23, 23] 23 #[v2, .slice A2 m c2]).run Tryz.prog (z2) = .ok (.slice a3 (T1 ++ ((⟨(x1, x2), dt⟩ : Itm) :: T2)).length c3) z3) ∧ Below u.heap.size u z1 ∧ Hid (z3.ownsRow u.heap.size 79 3 (.slice a3 (T1 ++ ((⟨(x1, x2), dt⟩ : Itm) :: T2)).length c3) (T1 ++ ((⟨(x1, x2), dt⟩ : Itm) :: T2)).length (icells (T1 ++ ((⟨(x1, x2), dt⟩ : Itm) :: T2))) ∧ (T1 ++ ((⟨(x1, x2), dt⟩ : Itm) :: T2)).length ≤ c3 ∧ Below u.heap.size u z3) := by
  have ho : (((u.alloc (.cells #[] 79)).alloc (.cells #[.int .u64 x1, .int .u64 x2, .string ⟨dt.toArray⟩] 79)).drew).ownsRow u.heap.size 79 3 (.slice (some ⟨u.heap.size, 0, none⟩) 0 0) 0 [] := by
    exact ((World.ownsRow_made (size := 3) u #[] 0 (Nat.le_refl _) (by decide) rfl).alloc (.cells #[.int .u64 x1, .int .u64 x2, .string ⟨dt.toArray⟩] 79)).drew
  have hB0 : Below u.heap.size u (((u.alloc (.cells #[] 79)).alloc (.cells #[.int .u64 x1, .int .u64 x2, .string ⟨dt.toArray⟩] 79)).drew) := (((Below.refl _ u).alloc (Nat.le_refl _) _).alloc (by simp) _).drew
  have hk0 : BK (u.heap.size + 1) #[.int .u64 x1, .int .u64 x2, .string ⟨dt.toArray⟩] 79 (((u.alloc (.cells #[] 79)).alloc (.cells #[.int .u64 x1, .int .u64 x2, .string ⟨dt.toArray⟩] 79)).drew) := BK.new2 u (.cells #[] 79) #[.int .u64 x1, .int .u64 x2, .string ⟨dt.toArray⟩] 79
  obtain ⟨v1, z1, hr1, hown1, hg1, _⟩ := append_its (((u.alloc (.cells #[] 79)).alloc (.cells #[.int .u64 x1, .int .u64 x2, .string ⟨dt.toArray⟩] 79)).drew) u.heap.size 23 _ [] ho A1 T1 c1 (Its.ahead h1 hB0) (by simp; omega) hB0.size
  have hB1 : Below u.heap.size u z1 := below_own hB0 ho hg1 (Nat.le_refl _)
  have hk1 : BK (u.heap.size + 1) #[.int .u64 x1, .int .u64 x2, .string ⟨dt.toArray⟩] 79 z1 := hk0.grow1 hg1 (by simp)
  obtain ⟨v2, z2, hr2, hown2, hg2, _⟩ := append_its z1 u.heap.size 23 v1 _ hown1 (some ⟨(u.heap.size + 1), 0, none⟩) [(⟨(x1, x2), dt⟩ : Itm)] 1 (its_one hk1) (by simp; omega) hB1.size
  have hown1' := hown1
  have HBN := hB1
  rw [hk] at hr1
  have hB2 : Below u.heap.size u z2 := below_own HBN hown1' hg2 (Nat.le_refl _)
  obtain ⟨v3, z3, hr3, hown3, hg3, _⟩ := append_its z2 u.heap.size 23 v2 _ hown2 A2 T2 c2 (Its.ahead h2 hB2) (by simp; omega) hB2.size
  have hB3 : Below u.heap.size u z3 := below_own hB2 hown2 hg3 (Nat.le_refl _)
  have hL : ([] ++ T1 ++ [(⟨(x1, x2), dt⟩ : Itm)]) ++ T2 = (T1 ++ ((⟨(x1, x2), dt⟩ : Itm) :: T2)) := by simp
  rw [hL] at hown3
  obtain ⟨a3, c3, rfl, hc3⟩ := ownsRow_sliceN hown3
  rw [hm] at hr3
  exact ⟨v1, z1, v2, z2, a3, c3, z3, Lib.hid hr1, Lib.hid hr2, Lib.hid hr3, hB1, Lib.hid ⟨hown3, hc3, hB3⟩⟩

theorem insI3 {u : World} {A1 A2 : Option Addr} {k m c1 c2 : Nat} {T1 T2 : List Itm} (h1 : Its u.heap.size u A1 T1) (h2 : Its u.heap.size u A2 T2) (x1 x2 : Int) (dt : List UInt8) (hb : ((T1.length + T2.length : Nat) : Int) ≤ 900000) (hk : T1.length = k) (hm : T2.length = m) :
    ∃ (v1 : Value) (z1 : World) (v2 : Value) (z2 : World) (a3 : Option Addr) (c3 : Nat) (z3 : World), Hid ((Builtin.append_ #[23, 23] 23 #[.slice (some ⟨(u.heap.size + 1), 0, none⟩) 0 0, .slice A1 k c1]).run Tryz.prog (((u.alloc (.cells #[.int .u64 x1, .int .u64 x2, .string ⟨dt.toArray⟩] 79)).alloc (.cells #[] 79)).drew) = .ok v1 z1) ∧ Hid ((Builtin.append_ #[23, 23] 23 #[v1, .slice (some ⟨u.heap.size, 0, none⟩) 1 1]).run Tryz.prog (z1) = .ok v2 z2) ∧
      Hid ((Builtin.append_ #[23, 23] 23 #[v2, .slice A2 m c2]).run Tryz.prog (z2) = .ok (.slice a3 (T1 ++ ((⟨(x1, x2), dt⟩ : Itm) :: T2)).length c3) z3) ∧ Below u.heap.size u z1 ∧ Hid (z3.ownsRow u.heap.size 79 3 (.slice a3 (T1 ++ ((⟨(x1, x2), dt⟩ : Itm) :: T2)).length c3) (T1 ++ ((⟨(x1, x2), dt⟩ : Itm) :: T2)).length (icells (T1 ++ ((⟨(x1, x2), dt⟩ : Itm) :: T2))) ∧ (T1 ++ ((⟨(x1, x2), dt⟩ : Itm) :: T2)).length ≤ c3 ∧ Below u.heap.size u z3) := by
  have ho : (((u.alloc (.cells #[.int .u64 x1, .int .u64 x2, .string ⟨dt.toArray⟩] 79)).alloc (.cells #[] 79)).drew).ownsRow u.heap.size 79 3 (.slice (some ⟨(u.heap.size + 1), 0, none⟩) 0 0) 0 [] := by
    have := (World.ownsRow_made (size := 3) (base := u.heap.size) (e := 79) (u.alloc (.cells #[.int .u64 x1, .int .u64 x2, .string ⟨dt.toArray⟩] 79)) #[] 0 (by simp) (by decide) rfl).drew
    rwa [World.size_alloc] at this
  have hB0 : Below u.heap.size u (((u.alloc (.cells #[.int .u64 x1, .int .u64 x2, .string ⟨dt.toArray⟩] 79)).alloc (.cells #[] 79)).drew) := (((Below.refl _ u).alloc (Nat.le_refl _) _).alloc (by simp) _).drew
  have hk0 : BK u.heap.size #[.int .u64 x1, .int .u64 x2, .string ⟨dt.toArray⟩] 79 (((u.alloc (.cells #[.int .u64 x1, .int .u64 x2, .string ⟨dt.toArray⟩] 79)).alloc (.cells #[] 79)).drew) := (BK.new u #[.int .u64 x1, .int .u64 x2, .string ⟨dt.toArray⟩] 79).alloc (.cells #[] 79)
  obtain ⟨v1, z1, hr1, hown1, hg1, _⟩ := append_its (((u.alloc (.cells #[.int .u64 x1, .int .u64 x2, .string ⟨dt.toArray⟩] 79)).alloc (.cells #[] 79)).drew) u.heap.size 23 _ [] ho A1 T1 c1 (Its.ahead h1 hB0) (by simp; omega) hB0.size
  have hB1 : Below u.heap.size u z1 := below_own hB0 ho hg1 (Nat.le_refl _)
  have hk1 : BK u.heap.size #[.int .u64 x1, .int .u64 x2, .string ⟨dt.toArray⟩] 79 z1 := hk0.grow1 hg1 (by simp)
  obtain ⟨v2, z2, hr2, hown2, hg2, _⟩ := append_its z1 u.heap.size 23 v1 _ hown1 (some ⟨u.heap.size, 0, none⟩) [(⟨(x1, x2), dt⟩ : Itm)] 1 (its_one hk1) (by simp; omega) hB1.size
  have hown1' := hown1
  have HBN := hB1
  rw [hk] at hr1
  have hB2 : Below u.heap.size u z2 := below_own HBN hown1' hg2 (Nat.le_refl _)
  obtain ⟨v3, z3, hr3, hown3, hg3, _⟩ := append_its z2 u.heap.size 23 v2 _ hown2 A2 T2 c2 (Its.ahead h2 hB2) (by simp; omega) hB2.size
  have hB3 : Below u.heap.size u z3 := below_own hB2 hown2 hg3 (Nat.le_refl _)
  have hL : ([] ++ T1 ++ [(⟨(x1, x2), dt⟩ : Itm)]) ++ T2 = (T1 ++ ((⟨(x1, x2), dt⟩ : Itm) :: T2)) := by simp
  rw [hL] at hown3
  obtain ⟨a3, c3, rfl, hc3⟩ := ownsRow_sliceN hown3
  rw [hm] at hr3
  exact ⟨v1, z1, v2, z2, a3, c3, z3, Lib.hid hr1, Lib.hid hr2, Lib.hid hr3, hB1, Lib.hid ⟨hown3, hc3, hB3⟩⟩

theorem insD1 {u : World} {A1 A2 : Option Addr} {k m c1 c2 : Nat} {T1 T2 : List (Int × Int)} (h1 : Digs u.heap.size u A1 T1) (h2 : Digs u.heap.size u A2 T2) (x1 x2 : Int) (hb : ((T1.length + T2.length : Nat) : Int) ≤ 900000) (hk : T1.length = k) (hm : T2.length = m) :
    ∃ (v1 : Value) (z1 : World) (v2 : Value) (z2 : World) (a3 : Option Addr) (c3 : Nat) (z3 : World), Hid ((Builtin.append_ #[24, 24] 24 #[.slice (some ⟨u.heap.size, 0, none⟩) 0 0, .slice A1 k c1]).run Tryz.prog ((u.alloc (.cells #[] 32)).drew) = .ok v1 z1) ∧ Hid ((Builtin.append_ #[24, 24] 24 #[v1, .slice (some ⟨z1.heap.size, 0, none⟩) 1 1]).run Tryz.prog (z1.alloc (.cells #[.int .u64 x1, .int .u64 x2] 32)) = .ok v2 z2) ∧
      Hid ((Builtin.append_ #[24, 24] 24 #[v2, .slice A2 m c2]).run Tryz.prog (z2) = .ok (.slice a3 (T1 ++ ((x1, x2) :: T2)).length c3) z3) ∧ Below u.heap.size u z1 ∧ Hid (z3.ownsRow u.heap.size 32 2 (.slice a3 (T1 ++ ((x1, x2) :: T2)).length c3) (T1 ++ ((x1, x2) :: T2)).length (dcells (T1 ++ ((x1, x2) :: T2))) ∧ (T1 ++ ((x1, x2) :: T2)).length ≤ c3 ∧ Below u.heap.size u z3) := by
  have ho : (u.alloc (.cells #[] 32)).drew.ownsRow u.heap.size 32 2 (.slice (some ⟨u.heap.size, 0, none⟩) 0 0) 0 [] := (World.ownsRow_made (size := 2) u #[] 0 (Nat.le_refl _) (by decide) rfl).drew
  have hB0 : Below u.heap.size u (u.alloc (.cells #[] 32)).drew := ((Below.refl _ u).alloc (Nat.le_refl _) _).drew
  obtain ⟨v1, z1, hr1, hown1, hg1, _⟩ := append_digs (u.alloc (.cells #[] 32)).drew u.heap.size 24 _ [] ho A1 T1 c1 (Digs.ahead h1 hB0) (by simp; omega) hB0.size
  have hB1 : Below u.heap.size u z1 := below_own hB0 ho hg1 (Nat.le_refl _)
  obtain ⟨v2, z2, hr2, hown2, hg2, _⟩ := append_one hown1 x1 x2 (by simp; omega) hB1.size
  have hown1' := hown1.alloc (.cells #[.int .u64 x1, .int .u64 x2] 32)
  have HBN : Below u.heap.size u (z1.alloc (.cells #[.int .u64 x1, .int .u64 x2] 32)) := hB1.alloc hB1.size _
  rw [hk] at hr1
  have hB2 : Below u.heap.size u z2 := below_own HBN hown1' hg2 (Nat.le_refl _)
  obtain ⟨v3, z3, hr3, hown3, hg3, _⟩ := append_digs z2 u.heap.size 24 v2 _ hown2 A2 T2 c2 (Digs.ahead h2 hB2) (by simp; omega) hB2.size
  have hB3 : Below u.heap.size u z3 := below_own hB2 hown2 hg3 (Nat.le_refl _)
  have hL : ([] ++ T1 ++ [(x1, x2)]) ++ T2 = (T1 ++ ((x1, x2) :: T2)) := by simp
  rw [hL] at hown3
  obtain ⟨a3, c3, rfl, hc3⟩ := ownsRow_sliceN hown3
  rw [hm] at hr3
  exact ⟨v1, z1, v2, z2, a3, c3, z3, Lib.hid hr1, Lib.hid hr2, Lib.hid hr3, hB1, Lib.hid ⟨hown3, hc3, hB3⟩⟩

theorem insD2 {u : World} {A1 A2 : Option Addr} {k m c1 c2 : Nat} {T1 T2 : List (Int × Int)} (h1 : Digs u.heap.size u A1 T1) (h2 : Digs u.heap.size u A2 T2) (x1 x2 : Int) (hb : ((T1.length + T2.length : Nat) : Int) ≤ 900000) (hk : T1.length = k) (hm : T2.length = m) :
    ∃ (v1 : Value) (z1 : World) (v2 : Value) (z2 : World) (a3 : Option Addr) (c3 : Nat) (z3 : World), Hid ((Builtin.append_ #[24, 24] 24 #[.slice (some ⟨u.heap.size, 0, none⟩) 0 0, .slice A1 k c1]).run Tryz.prog (((u.alloc (.cells #[] 32)).alloc (.cells #[.int .u64 x1, .int .u64 x2] 32)).drew) = .ok v1 z1) ∧ Hid ((Builtin.append_ #[24, 24] 24 #[v1, .slice (some ⟨(u.heap.size + 1), 0, none⟩) 1 1]).run Tryz.prog (z1) = .ok v2 z2) ∧
      Hid ((Builtin.append_ #[24, 24] 24 #[v2, .slice A2 m c2]).run Tryz.prog (z2) = .ok (.slice a3 (T1 ++ ((x1, x2) :: T2)).length c3) z3) ∧ Below u.heap.size u z1 ∧ Hid (z3.ownsRow u.heap.size 32 2 (.slice a3 (T1 ++ ((x1, x2) :: T2)).length c3) (T1 ++ ((x1, x2) :: T2)).length (dcells (T1 ++ ((x1, x2) :: T2))) ∧ (T1 ++ ((x1, x2) :: T2)).length ≤ c3 ∧ Below u.heap.size u z3) := by
  have ho : (((u.alloc (.cells #[] 32)).alloc (.cells #[.int .u64 x1, .int .u64 x2] 32)).drew).ownsRow u.heap.size 32 2 (.slice (some ⟨u.heap.size, 0, none⟩) 0 0) 0 [] := by
    exact ((World.ownsRow_made (size := 2) u #[] 0 (Nat.le_refl _) (by decide) rfl).alloc (.cells #[.int .u64 x1, .int .u64 x2] 32)).drew
  have hB0 : Below u.heap.size u (((u.alloc (.cells #[] 32)).alloc (.cells #[.int .u64 x1, .int .u64 x2] 32)).drew) := (((Below.refl _ u).alloc (Nat.le_refl _) _).alloc (by simp) _).drew
  have hk0 : BK (u.heap.size + 1) #[.int .u64 x1, .int .u64 x2] 32 (((u.alloc (.cells #[] 32)).alloc (.cells #[.int .u64 x1, .int .u64 x2] 32)).drew) := BK.new2 u (.cells #[] 32) #[.int .u64 x1, .int .u64 x2] 32
  obtain ⟨v1, z1, hr1, hown1, hg1, _⟩ := append_digs (((u.alloc (.cells #[] 32)).alloc (.cells #[.int .u64 x1, .int .u64 x2] 32)).drew) u.heap.size 24 _ [] ho A1 T1 c1 (Digs.ahead h1 hB0) (by simp; omega) hB0.size
  have hB1 : Below u.heap.size u z1 := below_own hB0 ho hg1 (Nat.le_refl _)
  have hk1 : BK (u.heap.size + 1) #[.int .u64 x1, .int .u64 x2] 32 z1 := hk0.grow1 hg1 (by simp)
  obtain ⟨v2, z2, hr2, hown2, hg2, _⟩ := append_digs z1 u.heap.size 24 v1 _ hown1 (some ⟨(u.heap.size + 1), 0, none⟩) [(x1, x2)] 1 (digs_one hk1) (by simp; omega) hB1.size
  have hown1' := hown1
  have HBN := hB1
  rw [hk] at hr1
  have hB2 : Below u.heap.size u z2 := below_own HBN hown1' hg2 (Nat.le_refl _)
  obtain ⟨v3, z3, hr3, hown3, hg3, _⟩ := append_digs z2 u.heap.size 24 v2 _ hown2 A2 T2 c2 (Digs.ahead h2 hB2) (by simp; omega) hB2.size
  have hB3 : Below u.heap.size u z3 := below_own hB2 hown2 hg3 (Nat.le_refl _)
  have hL : ([] ++ T1 ++ [(x1, x2)]) ++ T2 = (T1 ++ ((x1, x2) :: T2)) := by simp
  rw [hL] at hown3
  obtain ⟨a3, c3, rfl, hc3⟩ := ownsRow_sliceN hown3
  rw [hm] at hr3
  exact ⟨v1, z1, v2, z2, a3, c3, z3, Lib.hid hr1, Lib.hid hr2, Lib.hid hr3, hB1, Lib.hid ⟨hown3, hc3, hB3⟩⟩

theorem insD3 {u : World} {A1 A2 : Option Addr} {k m c1 c2 : Nat} {T1 T2 : List (Int × Int)} (h1 : Digs u.heap.size u A1 T1) (h2 : Digs u.heap.size u A2 T2) (x1 x2 : Int) (hb : ((T1.length + T2.length : Nat) : Int) ≤ 900000) (hk : T1.length = k) (hm : T2.length = m) :
    ∃ (v1 : Value) (z1 : World) (v2 : Value) (z2 : World) (a3 : Option Addr) (c3 : Nat) (z3 : World), Hid ((Builtin.append_ #[24, 24] 24 #[.slice (some ⟨(u.heap.size + 1), 0, none⟩) 0 0, .slice A1 k c1]).run Tryz.prog (((u.alloc (.cells #[.int .u64 x1, .int .u64 x2] 32)).alloc (.cells #[] 32)).drew) = .ok v1 z1) ∧ Hid ((Builtin.append_ #[24, 24] 24 #[v1, .slice (some ⟨u.heap.size, 0, none⟩) 1 1]).run Tryz.prog (z1) = .ok v2 z2) ∧
      Hid ((Builtin.append_ #[24, 24] 24 #[v2, .slice A2 m c2]).run Tryz.prog (z2) = .ok (.slice a3 (T1 ++ ((x1, x2) :: T2)).length c3) z3) ∧ Below u.heap.size u z1 ∧ Hid (z3.ownsRow u.heap.size 32 2 (.slice a3 (T1 ++ ((x1, x2) :: T2)).length c3) (T1 ++ ((x1, x2) :: T2)).length (dcells (T1 ++ ((x1, x2) :: T2))) ∧ (T1 ++ ((x1, x2) :: T2)).length ≤ c3 ∧ Below u.heap.size u z3) := by
  have ho : (((u.alloc (.cells #[.int .u64 x1, .int .u64 x2] 32)).alloc (.cells #[] 32)).drew).ownsRow u.heap.size 32 2 (.slice (some ⟨(u.heap.size + 1), 0, none⟩) 0 0) 0 [] := by
    have := (World.ownsRow_made (size := 2) (base := u.heap.size) (e := 32) (u.alloc (.cells #[.int .u64 x1, .int .u64 x2] 32)) #[] 0 (by simp) (by decide) rfl).drew
    rwa [World.size_alloc] at this
  have hB0 : Below u.heap.size u (((u.alloc (.cells #[.int .u64 x1, .int .u64 x2] 32)).alloc (.cells #[] 32)).drew) := (((Below.refl _ u).alloc (Nat.le_refl _) _).alloc (by simp) _).drew
  have hk0 : BK u.heap.size #[.int .u64 x1, .int .u64 x2] 32 (((u.alloc (.cells #[.int .u64 x1, .int .u64 x2] 32)).alloc (.cells #[] 32)).drew) := (BK.new u #[.int .u64 x1, .int .u64 x2] 32).alloc (.cells #[] 32)
  obtain ⟨v1, z1, hr1, hown1, hg1, _⟩ := append_digs (((u.alloc (.cells #[.int .u64 x1, .int .u64 x2] 32)).alloc (.cells #[] 32)).drew) u.heap.size 24 _ [] ho A1 T1 c1 (Digs.ahead h1 hB0) (by simp; omega) hB0.size
  have hB1 : Below u.heap.size u z1 := below_own hB0 ho hg1 (Nat.le_refl _)
  have hk1 : BK u.heap.size #[.int .u64 x1, .int .u64 x2] 32 z1 := hk0.grow1 hg1 (by simp)
  obtain ⟨v2, z2, hr2, hown2, hg2, _⟩ := append_digs z1 u.heap.size 24 v1 _ hown1 (some ⟨u.heap.size, 0, none⟩) [(x1, x2)] 1 (digs_one hk1) (by simp; omega) hB1.size
  have hown1' := hown1
  have HBN := hB1
  rw [hk] at hr1
  have hB2 : Below u.heap.size u z2 := below_own HBN hown1' hg2 (Nat.le_refl _)
  obtain ⟨v3, z3, hr3, hown3, hg3, _⟩ := append_digs z2 u.heap.size 24 v2 _ hown2 A2 T2 c2 (Digs.ahead h2 hB2) (by simp; omega) hB2.size
  have hB3 : Below u.heap.size u z3 := below_own hB2 hown2 hg3 (Nat.le_refl _)
  have hL : ([] ++ T1 ++ [(x1, x2)]) ++ T2 = (T1 ++ ((x1, x2) :: T2)) := by simp
  rw [hL] at hown3
  obtain ⟨a3, c3, rfl, hc3⟩ := ownsRow_sliceN hown3
  rw [hm] at hr3
  exact ⟨v1, z1, v2, z2, a3, c3, z3, Lib.hid hr1, Lib.hid hr2, Lib.hid hr3, hB1, Lib.hid ⟨hown3, hc3, hB3⟩⟩

end Go.Proofs.YtgdhkcocdmdoaaaGreat
