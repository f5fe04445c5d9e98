/- The reference's visit and all. -/
import Derived.Test.YtgdhkcocdmdoaaaGreatHiCo
namespace Go.Proofs.YtgdhkcocdmdoaaaGreat
open Go.RowKit Go.Shelf
set_option linter.unusedVariables false

theorem at_world {P : Program} {c : Code} {Q : Exit → Act → World → Prop} {a : Act} (w : World) (h : c.wp P Q a w) : c.wp P Q a w := h
theorem snD1 {u : World} {A1 : Option Addr} {k c1 : Nat} {T1 : List (Int × Int)} (h1 : Digs u.heap.size u A1 T1) (x1 x2 : Int) (hb : ((T1.length : Nat) : Int) ≤ 900000) (hk : T1.length = k) :
    ∃ (v1 : Value) (z1 : World) (a3 : Option Addr) (c3 : Nat) (z3 : World), Hid ((Builtin.append_ #[24, 24] 24 #[.slice (some ⟨u.heap.size, 0, none⟩) 0 0, .slice A1 k c1]).run Tryz.prog ((u.alloc (.cells #[] 32)).drew) = .ok v1 z1) ∧ Hid ((Builtin.append_ #[24, 24] 24 #[v1, .slice (some ⟨z1.heap.size, 0, none⟩) 1 1]).run Tryz.prog (z1.alloc (.cells #[.int .u64 x1, .int .u64 x2] 32)) = .ok (.slice a3 (k + 1) c3) z3) ∧ Below u.heap.size u z1 ∧ Hid (z3.ownsRow u.heap.size 32 2 (.slice a3 (k + 1) c3) (k + 1) (dcells (T1 ++ [(x1, x2)])) ∧ k + 1 ≤ c3 ∧ Below u.heap.size u z3) := by
  have ho : (u.alloc (.cells #[] 32)).drew.ownsRow u.heap.size 32 2 (.slice (some ⟨u.heap.size, 0, none⟩) 0 0) 0 [] := (World.ownsRow_made (size := 2) u #[] 0 (Nat.le_refl _) (by decide) rfl).drew
  have hB0 : Below u.heap.size u (u.alloc (.cells #[] 32)).drew := ((Below.refl _ u).alloc (Nat.le_refl _) _).drew
  obtain ⟨v1, z1, hr1, hown1, hg1, _⟩ := append_digs (u.alloc (.cells #[] 32)).drew u.heap.size 24 _ [] ho A1 T1 c1 (Digs.ahead h1 hB0) (by simp; omega) hB0.size
  have hB1 : Below u.heap.size u z1 := below_own hB0 ho hg1 (Nat.le_refl _)
  obtain ⟨v2, z2, hr2, hown2, hg2, _⟩ := append_one hown1 x1 x2 (by simp; omega) hB1.size
  have hown1' := hown1.alloc (.cells #[.int .u64 x1, .int .u64 x2] 32)
  have HBN : Below u.heap.size u (z1.alloc (.cells #[.int .u64 x1, .int .u64 x2] 32)) := hB1.alloc hB1.size _
  rw [hk] at hr1
  have hB2 : Below u.heap.size u z2 := below_own HBN hown1' hg2 (Nat.le_refl _)
  rw [show (([] : List (Int × Int)) ++ T1 ++ [(x1, x2)]).length = k + 1 by simp [hk], List.nil_append] at hown2
  obtain ⟨a3, c3, rfl, hc3⟩ := ownsRow_sliceN hown2
  exact ⟨v1, z1, a3, c3, z2, Lib.hid hr1, Lib.hid hr2, hB1, Lib.hid ⟨hown2, hc3, hB2⟩⟩
theorem snD2 {u : World} {A1 : Option Addr} {k c1 : Nat} {T1 : List (Int × Int)} (h1 : Digs u.heap.size u A1 T1) (x1 x2 : Int) (hb : ((T1.length : Nat) : Int) ≤ 900000) (hk : T1.length = k) :
    ∃ (v1 : Value) (z1 : World) (a3 : Option Addr) (c3 : Nat) (z3 : World), Hid ((Builtin.append_ #[24, 24] 24 #[.slice (some ⟨u.heap.size, 0, none⟩) 0 0, .slice A1 k c1]).run Tryz.prog (((u.alloc (.cells #[] 32)).alloc (.cells #[.int .u64 x1, .int .u64 x2] 32)).drew) = .ok v1 z1) ∧ Hid ((Builtin.append_ #[24, 24] 24 #[v1, .slice (some ⟨(u.heap.size + 1), 0, none⟩) 1 1]).run Tryz.prog (z1) = .ok (.slice a3 (k + 1) c3) z3) ∧ Below u.heap.size u z1 ∧ Hid (z3.ownsRow u.heap.size 32 2 (.slice a3 (k + 1) c3) (k + 1) (dcells (T1 ++ [(x1, x2)])) ∧ k + 1 ≤ c3 ∧ Below u.heap.size u z3) := by
  have ho : (((u.alloc (.cells #[] 32)).alloc (.cells #[.int .u64 x1, .int .u64 x2] 32)).drew).ownsRow u.heap.size 32 2 (.slice (some ⟨u.heap.size, 0, none⟩) 0 0) 0 [] := by
    exact ((World.ownsRow_made (size := 2) u #[] 0 (Nat.le_refl _) (by decide) rfl).alloc (.cells #[.int .u64 x1, .int .u64 x2] 32)).drew
  have hB0 : Below u.heap.size u (((u.alloc (.cells #[] 32)).alloc (.cells #[.int .u64 x1, .int .u64 x2] 32)).drew) := (((Below.refl _ u).alloc (Nat.le_refl _) _).alloc (by simp) _).drew
  have hk0 : BK (u.heap.size + 1) #[.int .u64 x1, .int .u64 x2] 32 (((u.alloc (.cells #[] 32)).alloc (.cells #[.int .u64 x1, .int .u64 x2] 32)).drew) := BK.new2 u (.cells #[] 32) #[.int .u64 x1, .int .u64 x2] 32
  obtain ⟨v1, z1, hr1, hown1, hg1, _⟩ := append_digs (((u.alloc (.cells #[] 32)).alloc (.cells #[.int .u64 x1, .int .u64 x2] 32)).drew) u.heap.size 24 _ [] ho A1 T1 c1 (Digs.ahead h1 hB0) (by simp; omega) hB0.size
  have hB1 : Below u.heap.size u z1 := below_own hB0 ho hg1 (Nat.le_refl _)
  have hk1 : BK (u.heap.size + 1) #[.int .u64 x1, .int .u64 x2] 32 z1 := hk0.grow1 hg1 (by simp)
  obtain ⟨v2, z2, hr2, hown2, hg2, _⟩ := append_digs z1 u.heap.size 24 v1 _ hown1 (some ⟨(u.heap.size + 1), 0, none⟩) [(x1, x2)] 1 (digs_one hk1) (by simp; omega) hB1.size
  rw [hk] at hr1
  have hB2 : Below u.heap.size u z2 := below_own hB1 hown1 hg2 (Nat.le_refl _)
  rw [show (([] : List (Int × Int)) ++ T1 ++ [(x1, x2)]).length = k + 1 by simp [hk], List.nil_append] at hown2
  obtain ⟨a3, c3, rfl, hc3⟩ := ownsRow_sliceN hown2
  exact ⟨v1, z1, a3, c3, z2, Lib.hid hr1, Lib.hid hr2, hB1, Lib.hid ⟨hown2, hc3, hB2⟩⟩
theorem snD3 {u : World} {A1 : Option Addr} {k c1 : Nat} {T1 : List (Int × Int)} (h1 : Digs u.heap.size u A1 T1) (x1 x2 : Int) (hb : ((T1.length : Nat) : Int) ≤ 900000) (hk : T1.length = k) :
    ∃ (v1 : Value) (z1 : World) (a3 : Option Addr) (c3 : Nat) (z3 : World), Hid ((Builtin.append_ #[24, 24] 24 #[.slice (some ⟨(u.heap.size + 1), 0, none⟩) 0 0, .slice A1 k c1]).run Tryz.prog (((u.alloc (.cells #[.int .u64 x1, .int .u64 x2] 32)).alloc (.cells #[] 32)).drew) = .ok v1 z1) ∧ Hid ((Builtin.append_ #[24, 24] 24 #[v1, .slice (some ⟨u.heap.size, 0, none⟩) 1 1]).run Tryz.prog (z1) = .ok (.slice a3 (k + 1) c3) z3) ∧ Below u.heap.size u z1 ∧ Hid (z3.ownsRow u.heap.size 32 2 (.slice a3 (k + 1) c3) (k + 1) (dcells (T1 ++ [(x1, x2)])) ∧ k + 1 ≤ c3 ∧ Below u.heap.size u z3) := by
  have ho : (((u.alloc (.cells #[.int .u64 x1, .int .u64 x2] 32)).alloc (.cells #[] 32)).drew).ownsRow u.heap.size 32 2 (.slice (some ⟨(u.heap.size + 1), 0, none⟩) 0 0) 0 [] := by
    have := (World.ownsRow_made (size := 2) (base := u.heap.size) (e := 32) (u.alloc (.cells #[.int .u64 x1, .int .u64 x2] 32)) #[] 0 (by simp) (by decide) rfl).drew
    rwa [World.size_alloc] at this
  have hB0 : Below u.heap.size u (((u.alloc (.cells #[.int .u64 x1, .int .u64 x2] 32)).alloc (.cells #[] 32)).drew) := (((Below.refl _ u).alloc (Nat.le_refl _) _).alloc (by simp) _).drew
  have hk0 : BK u.heap.size #[.int .u64 x1, .int .u64 x2] 32 (((u.alloc (.cells #[.int .u64 x1, .int .u64 x2] 32)).alloc (.cells #[] 32)).drew) := (BK.new u #[.int .u64 x1, .int .u64 x2] 32).alloc (.cells #[] 32)
  obtain ⟨v1, z1, hr1, hown1, hg1, _⟩ := append_digs (((u.alloc (.cells #[.int .u64 x1, .int .u64 x2] 32)).alloc (.cells #[] 32)).drew) u.heap.size 24 _ [] ho A1 T1 c1 (Digs.ahead h1 hB0) (by simp; omega) hB0.size
  have hB1 : Below u.heap.size u z1 := below_own hB0 ho hg1 (Nat.le_refl _)
  have hk1 : BK u.heap.size #[.int .u64 x1, .int .u64 x2] 32 z1 := hk0.grow1 hg1 (by simp)
  obtain ⟨v2, z2, hr2, hown2, hg2, _⟩ := append_digs z1 u.heap.size 24 v1 _ hown1 (some ⟨u.heap.size, 0, none⟩) [(x1, x2)] 1 (digs_one hk1) (by simp; omega) hB1.size
  rw [hk] at hr1
  have hB2 : Below u.heap.size u z2 := below_own hB1 hown1 hg2 (Nat.le_refl _)
  rw [show (([] : List (Int × Int)) ++ T1 ++ [(x1, x2)]).length = k + 1 by simp [hk], List.nil_append] at hown2
  obtain ⟨a3, c3, rfl, hc3⟩ := ownsRow_sliceN hown2
  exact ⟨v1, z1, a3, c3, z2, Lib.hid hr1, Lib.hid hr2, hB1, Lib.hid ⟨hown2, hc3, hB2⟩⟩

theorem visS_mea (xs : List Itm) (rest : List (Int × Int)) : ∀ (f : Nat) (st cur : List (Int × Int)), mea xs st cur ≤ f → (visS xs st cur).2 = 0 → (visS xs st cur).1.length + mea xs rest (visS xs st cur).1 ≤ cur.length + mea xs (st ++ rest) cur
  | f, [], cur, _, _ => by rw [visS_nil]; exact Nat.le_refl _
  | 0, d :: st, cur, h, _ => by unfold mea at h; simp at h
  | f + 1, d :: st, cur, h, h0 => by
    have h1 := mea_pop' xs st cur d
    have h2 := mea_pop' xs (st ++ rest) cur d
    rw [visS_cons] at h0 ⊢
    rw [List.cons_append]
    by_cases hd : d ∈ cur
    · rw [if_pos hd] at h0 ⊢
      have := visS_mea xs rest f st cur (by omega) h0
      omega
    · rw [if_neg hd] at h0 ⊢
      by_cases he : (commitS xs d).2 = 0
      · have he' : ¬ ((commitS xs d).2 ≠ 0) := by simpa using he
        rw [if_neg he'] at h0 ⊢
        have h3 := mea_hit' (st := st) hd he
        have h4 := mea_hit' (st := st ++ rest) hd he
        have := visS_mea xs rest f _ _ (by omega) h0
        rw [List.append_assoc] at this
        simp at this
        omega
      · rw [if_pos he] at h0
        exact absurd h0 he
theorem visS_le {xs : List Itm} {st cur : List (Int × Int)} (h : (visS xs st cur).2 = 0) : cur.length ≤ (visS xs st cur).1.length := by
  obtain ⟨new, hn⟩ := (visS_law xs _ st cur (Nat.le_refl _) h).pre
  rw [hn]; simp
theorem visS_one (xs : List Itm) (p : Int × Int) (rest cur : List (Int × Int)) : visS xs (p :: rest) cur = if (visS xs [p] cur).2 ≠ 0 then ([], (visS xs [p] cur).2) else visS xs rest (visS xs [p] cur).1 :=
  visS_append xs _ [p] rest cur (Nat.le_refl _)
theorem mea_one (xs : List Itm) (p : Int × Int) (rest cur : List (Int × Int)) : mea xs [p] cur ≤ mea xs (p :: rest) cur := by unfold mea; simp
def GotR (w : World) (r : List (Int × Int) × Int) (e : Ending) (w' : World) : Prop := ∃ a c, e = .returned (.tuple #[.slice a r.1.length c, .int .i64 r.2]) ∧ Digs w'.heap.size w' a r.1 ∧ r.1.length ≤ c ∧ Below w.heap.size w w'

set_option maxRecDepth 100000 in
set_option maxHeartbeats 8000000 in
theorem rvisit_any (a : Option Addr) (xs : List Itm) (c : Nat) (hA : Asc xs) (hn : (xs.length : Int) ≤ 1000000) (hd : ∀ x ∈ xs, (x.data.length : Int) ≤ 1000000) :
    ∀ (f : Nat) (sa : Option Addr) (seen : List (Int × Int)) (sc : Nat) (x y : Int) (w : World), Its w.heap.size w a xs → Digs w.heap.size w sa seen → seen.length ≤ sc → ((seen.length + mea xs [(x, y)] seen : Nat) : Int) ≤ 900000 → mea xs [(x, y)] seen ≤ f →
    Calls Tryz.prog 77 #[.slice a xs.length c, .agg #[.int .u64 x, .int .u64 y], .slice sa seen.length sc] w (GotR w (visS xs [(x, y)] seen)) := by
  intro f
  induction f with
  | zero => intro sa seen sc x y w _ _ _ _ hf; unfold mea at hf; simp at hf
  | succ f ih =>
    intro sa seen sc x y w hp hs hsc hsl hf
    have HIH := Lib.hid ih
    clear ih
    have HCO := Lib.hid (fun d1 d2 W (hW : Its W.heap.size W a xs) => rcmt_any a xs c d1 d2 W hW hA hn hd)
    have HP := Lib.hid hp
    have HS := Lib.hid hs
    obtain ⟨R, hR⟩ : ∃ R, R = visS xs [(x, y)] seen := ⟨_, rfl⟩
    rw [← hR]
    rw [visS_cons, visS_nil] at hR
    obtain ⟨nx, hnn⟩ : ∃ n, n = xs.length := ⟨_, rfl⟩
    rw [← hnn] at HIH HCO ⊢
    obtain ⟨m, hm⟩ : ∃ m, m = seen.length := ⟨_, rfl⟩
    have HM := Lib.hid hm
    have HR := Lib.hid hR
    have HF := Lib.hid hf
    obtain ⟨w0, hw0⟩ : ∃ w0, w0 = w.alloc (.cells #[.int .u64 x, .int .u64 y] 32) := ⟨_, rfl⟩
    have HK0 : Hid (BK w.heap.size #[.int .u64 x, .int .u64 y] 32 w0) := Lib.hid (by rw [hw0]; exact BK.new _ _ _)
    have HB0 : Hid (Below w.heap.size w w0) := Lib.hid (by rw [hw0]; exact (Below.refl _ w).alloc (Nat.le_refl _) _)
    have HIN := Lib.hid (rin_any sa seen sc x y w0 (hs.ahead HB0.out) (by omega))
    rw [← hm] at HIN hsc hsl ⊢
    rw [hw0] at HIN
    have HW0 := Lib.hid hw0
    clear hw0 hR hm hnn hp hs hf hn hd hA
    cases hin : decide ((x, y) ∈ seen) with
    | true =>
      rw [hin] at HIN
      have HX : Hid (R = (seen, 0)) := Lib.hid (by rw [HR.out, if_pos (by simpa using hin)])
      clear hin HR
      go_enter Tryz.func77, Tryz.ntmps77
      go_wp2_with fail
      (with_reducible refine (HIN.out).mono ?_)
      rintro e u ⟨rfl, hb⟩
      rw [← HW0.out] at hb
      have HB1 := Lib.hid (HB0.out.trans (hb.mono HB0.out.size))
      clear hb HIN HW0
      go_wp2_with fail
      go_ret2
      rw [HX.out]
      exact ⟨sa, sc, by first | (rw [← HM.out]; done) | (rw [← HM.out]; rfl), HS.out.ahead HB1.out, by rw [← HM.out]; exact hsc, HB1.out⟩
    | false =>
      rw [hin] at HIN
      have hni : (x, y) ∉ seen := by simpa using hin
      have HX : Hid (R = if (commitS xs (x, y)).2 ≠ 0 then ([], (commitS xs (x, y)).2) else visS xs (commitS xs (x, y)).1.pars (seen ++ [(x, y)])) := Lib.hid (by rw [HR.out, if_neg hni, List.append_nil])
      have HMH : Hid ((commitS xs (x, y)).2 = 0 → mea xs (commitS xs (x, y)).1.pars (seen ++ [(x, y)]) ≤ f ∧ ((m + 1 + mea xs (commitS xs (x, y)).1.pars (seen ++ [(x, y)]) : Nat) : Int) ≤ 900000) := Lib.hid (fun h => by
        have := mea_hit' (st := []) hni h
        rw [List.append_nil] at this
        have := HF.out
        omega)
      have HPL : Hid ((commitS xs (x, y)).2 = 0 → (commitS xs (x, y)).1.pars.length ≤ 200) := Lib.hid (fun h => pars_le h)
      clear hin HR hni HF
      go_enter Tryz.func77, Tryz.ntmps77
      go_wp2_with fail
      (with_reducible refine (HIN.out).mono ?_)
      rintro e u ⟨rfl, hb⟩
      rw [← HW0.out] at hb
      have HB1 := Lib.hid (HB0.out.trans (hb.mono HB0.out.size))
      have HK1 := Lib.hid (HK0.out.below hb)
      have HC1 := Lib.hid (HCO.out x y u (HP.out.ahead HB1.out))
      clear hb HIN HW0 HK0 HB0 w0
      generalize commitS xs (x, y) = OE at HC1 HX HMH HPL
      obtain ⟨o, er⟩ := OE
      simp only at HC1 HX HMH HPL
      have e0 : u.cell? ⟨w.heap.size, 0, none⟩ = some (.int .u64 x) := by rw [HK1.out.cell]; rfl
      have e1 : u.cell? ⟨w.heap.size, 1, none⟩ = some (.int .u64 y) := by rw [HK1.out.cell]; rfl
      go_wp2_with fail
      (with_reducible refine (HC1.out).mono ?_)
      rintro e u2 ⟨ea, ec, pa, pc, rfl, hob, hb⟩
      have HB2 := Lib.hid (HB1.out.trans (hb.mono HB1.out.size))
      have HK2 := Lib.hid (HK1.out.below hb)
      have HPD := Lib.hid (ownsRow_digs hob.po)
      clear hb hob HC1 HB1 HK1 e0 e1 u
      obtain ⟨kind, data, ents, ⟨t1, t2⟩, pars, author, time, msg⟩ := o
      simp only [Ob.val]
      simp only at HX HMH HPD HPL
      obtain ⟨ne, hne⟩ : ∃ ne, ne = ents.length := ⟨_, rfl⟩
      obtain ⟨n, hnp⟩ : ∃ np, np = pars.length := ⟨_, rfl⟩
      rw [← hne, ← hnp]
      rw [← hnp] at HPL
      have HNP := Lib.hid hnp
      clear hne hnp
      obtain ⟨u3, hu3⟩ : ∃ u3, u3 = u2.alloc (.cells #[.int .i64 kind, .string ⟨data.toArray⟩, .slice ea ne ec, .int .u64 t1, .int .u64 t2, .slice pa n pc, .string ⟨author.toArray⟩, .int .i64 time, .string ⟨msg.toArray⟩] 36) := ⟨_, rfl⟩
      by_cases he : er = 0
      · subst he
        simp only [ne_eq, not_true_eq_false, if_false] at HX
        have hpl := HPL.out rfl
        have HMH2 := Lib.hid (HMH.out rfl)
        have HKO : Hid (BK u2.heap.size #[.int .i64 kind, .string ⟨data.toArray⟩, .slice ea ne ec, .int .u64 t1, .int .u64 t2, .slice pa n pc, .string ⟨author.toArray⟩, .int .i64 time, .string ⟨msg.toArray⟩] 36 u3) := Lib.hid (by rw [hu3]; exact BK.new _ _ _)
        have HK3 : Hid (BK w.heap.size #[.int .u64 x, .int .u64 y] 32 u3) := Lib.hid (by rw [hu3]; exact HK2.out.alloc _)
        have HB3 : Hid (Below w.heap.size w u3) := Lib.hid (by rw [hu3]; exact HB2.out.alloc HB2.out.size _)
        have HPD3 : Hid (Digs u3.heap.size u3 pa pars) := Lib.hid (by rw [hu3]; exact HPD.out.ahead ((Below.refl _ _).alloc (Nat.le_refl _) _))
        have HU3 := Lib.hid hu3
        clear hu3 HMH HPL HB2 HK2 HPD
        have hsd := HS.out.ahead HB3.out
        have hml : ((seen.length : Nat) : Int) ≤ 900000 := by rw [← HM.out]; omega
        obtain ⟨zv1, z1, za, zc, z3, H11, H12, hb1, HF1⟩ := snD1 (c1 := sc) hsd x y hml HM.out.symm
        obtain ⟨yv1, y1, ya, yc, y3, H21, H22, hb2, HF2⟩ := snD2 (c1 := sc) hsd x y hml HM.out.symm
        obtain ⟨tv1, t1', ta, tc, t3, H31, H32, hb3, HF3⟩ := snD3 (c1 := sc) hsd x y hml HM.out.symm
        have HKZ := Lib.hid (HK3.out.below hb1)
        have p0 : z1.cell? ⟨w.heap.size, 0, none⟩ = some (.int .u64 x) := by rw [HKZ.out.cell]; rfl
        have p1 : z1.cell? ⟨w.heap.size, 1, none⟩ = some (.int .u64 y) := by rw [HKZ.out.cell]; rfl
        have e0 : u3.cell? ⟨w.heap.size, 0, none⟩ = some (.int .u64 x) := by rw [HK3.out.cell]; rfl
        have e1 : u3.cell? ⟨w.heap.size, 1, none⟩ = some (.int .u64 y) := by rw [HK3.out.cell]; rfl
        have e0a := fun o => cell_a1 e0 o
        have e1a := fun o => cell_a1 e1 o
        clear hb1 hb2 hb3 hsd hml
        go_upto_region 6 with (fail)
        rw [← HU3.out]
        go_region_law
            (first
            | ((with_reducible refine step_at ((u3.alloc (.cells #[] 32)).drew) ?_); refine step_append_run (by rfl) (.tmp 24) (.tmp 25) _ _ (by rfl) _ _ (by rfl) (by rfl) _ _ H11.out ?_)
            | ((with_reducible refine step_at (((u3.alloc (.cells #[] 32)).alloc (.cells #[.int .u64 x, .int .u64 y] 32)).drew) ?_); refine step_append_run (by rfl) (.tmp 24) (.tmp 25) _ _ (by rfl) _ _ (by rfl) (by rfl) _ _ H21.out ?_)
            | ((with_reducible refine step_at (((u3.alloc (.cells #[.int .u64 x, .int .u64 y] 32)).alloc (.cells #[] 32)).drew) ?_); refine step_append_run (by rfl) (.tmp 24) (.tmp 25) _ _ (by rfl) _ _ (by rfl) (by rfl) _ _ H31.out ?_)
            | ((with_reducible refine step_at (z1.alloc (.cells #[.int .u64 x, .int .u64 y] 32)) ?_); refine step_append_run (by rfl) (.tmp 26) (.tmp 28) _ _ (by rfl) _ _ (by rfl) (by rfl) _ _ H12.out ?_)
            | ((with_reducible refine step_at y1 ?_); refine step_append_run (by rfl) (.tmp 26) (.tmp 28) _ _ (by rfl) _ _ (by rfl) (by rfl) _ _ H22.out ?_)
            | ((with_reducible refine step_at t1' ?_); refine step_append_run (by rfl) (.tmp 26) (.tmp 28) _ _ (by rfl) _ _ (by rfl) (by rfl) _ _ H32.out ?_)
            | fail)
        all_goals go_wp2_with fail
        all_goals
          first
          | ((with_reducible refine at_world z3 ?_); have HF := HF1; clear HF1 HF2 HF3 H11 H12 H21 H22 H31 H32 p0 p1 HKZ e0 e1 e0a e1a; (generalize z3 = w5 at HF ⊢); (generalize za = qa at HF ⊢); (generalize zc = qc at HF ⊢))
          | ((with_reducible refine at_world y3 ?_); have HF := HF2; clear HF1 HF2 HF3 H11 H12 H21 H22 H31 H32 p0 p1 HKZ e0 e1 e0a e1a; (generalize y3 = w5 at HF ⊢); (generalize ya = qa at HF ⊢); (generalize yc = qc at HF ⊢))
          | ((with_reducible refine at_world t3 ?_); have HF := HF3; clear HF1 HF2 HF3 H11 H12 H21 H22 H31 H32 p0 p1 HKZ e0 e1 e0a e1a; (generalize t3 = w5 at HF ⊢); (generalize ta = qa at HF ⊢); (generalize tc = qc at HF ⊢))
        all_goals
          have HB5 := Lib.hid (HB3.out.trans (HF.out.2.2.mono HB3.out.size))
          have hqc5 := HF.out.2.1
          have HK5 := Lib.hid (HKO.out.below HF.out.2.2)
          have HP5 := Lib.hid (HPD3.out.ahead HF.out.2.2)
          have HL5 : Hid (m + 1 = (seen ++ [(x, y)]).length) := Lib.hid (by rw [List.length_append, HM.out]; rfl)
          have HD5 := Lib.hid (own_digs HL5.out HF.out.1)
          have HF5 := HMH2
          clear HF HMH2 HB3 HKO HPD3 HK3 HU3 HS HM
          generalize seen ++ [(x, y)] = cur0 at HX HF5 HD5 HL5
          go_loopw [2, 9, 10] (fun v e i wr => ∃ (k : Nat) (cur : List (Int × Int)) (ca : Option Addr) (cc q : Nat), k ≤ n ∧ v = .slice ca q cc ∧ Hid (q = cur.length) ∧ q ≤ cc ∧ e = .int .i64 0 ∧ i = .int .i64 k ∧ Hid (Digs wr.heap.size wr ca cur) ∧ Hid (Below w.heap.size w wr) ∧ Hid (BK u2.heap.size #[.int .i64 kind, .string ⟨data.toArray⟩, .slice ea ne ec, .int .u64 t1, .int .u64 t2, .slice pa n pc, .string ⟨author.toArray⟩, .int .i64 time, .string ⟨msg.toArray⟩] 36 wr) ∧ Hid (Digs wr.heap.size wr pa pars) ∧ Hid (R = visS xs (pars.drop k) cur) ∧ Hid (mea xs (pars.drop k) cur ≤ f ∧ ((q + mea xs (pars.drop k) cur : Nat) : Int) ≤ 900000)) (fun _ _ i _ => n - (intOf i).toNat)
          case atStart => exact ⟨0, cur0, qa, qc, m + 1, by omega, rfl, HL5, hqc5, rfl, rfl, HD5, HB5, HK5, HP5, HX, HF5⟩
          case round =>
            clear HB5 HD5 hqc5 HK5 HP5 HL5 HF5 HX
            obtain ⟨k, cur, ca, cc, q, hk, rfl, HQ, hqc, rfl, rfl, HD, HB, HK, HPD, HR, HF⟩ := hrel
            have o0 : wr.cell? ⟨u2.heap.size, 0, none⟩ = some (.int .i64 kind) := by rw [HK.out.cell]; rfl
            have o1 : wr.cell? ⟨u2.heap.size, 1, none⟩ = some (.string ⟨data.toArray⟩) := by rw [HK.out.cell]; rfl
            have o2 : wr.cell? ⟨u2.heap.size, 2, none⟩ = some (.slice ea ne ec) := by rw [HK.out.cell]; rfl
            have o3 : wr.cell? ⟨u2.heap.size, 3, none⟩ = some (.int .u64 t1) := by rw [HK.out.cell]; rfl
            have o4 : wr.cell? ⟨u2.heap.size, 4, none⟩ = some (.int .u64 t2) := by rw [HK.out.cell]; rfl
            have o5 : wr.cell? ⟨u2.heap.size, 5, none⟩ = some (.slice pa n pc) := by rw [HK.out.cell]; rfl
            have o6 : wr.cell? ⟨u2.heap.size, 6, none⟩ = some (.string ⟨author.toArray⟩) := by rw [HK.out.cell]; rfl
            have o7 : wr.cell? ⟨u2.heap.size, 7, none⟩ = some (.int .i64 time) := by rw [HK.out.cell]; rfl
            have o8 : wr.cell? ⟨u2.heap.size, 8, none⟩ = some (.string ⟨msg.toArray⟩) := by rw [HK.out.cell]; rfl
            by_cases hlt : k < n
            · have h1 : k < pars.length := by have := HNP.out; omega
              obtain ⟨b0, of0, haa, hb0, q0, q1⟩ := HPD.out k h1
              subst haa
              have HDR : Hid (pars.drop k = pars[k] :: pars.drop (k + 1)) := Lib.hid (List.drop_eq_getElem_cons h1)
              generalize pars[k] = p at q0 q1 HDR
              obtain ⟨p1, p2⟩ := p
              simp only at q0 q1
              have HV := Lib.hid (HIH.out ca cur cc p1 p2 wr (HP.out.ahead HB.out) HD.out (by rw [← HQ.out]; exact hqc) (by have h2 := HF.out.2; rw [HDR.out] at h2; have h3 := mea_one xs (p1, p2) (pars.drop (k + 1)) cur; rw [← HQ.out]; omega) (by have h2 := HF.out.1; rw [HDR.out] at h2; have h3 := mea_one xs (p1, p2) (pars.drop (k + 1)) cur; omega))
              have HR2 : Hid (R = if (visS xs [(p1, p2)] cur).2 ≠ 0 then ([], (visS xs [(p1, p2)] cur).2) else visS xs (pars.drop (k + 1)) (visS xs [(p1, p2)] cur).1) := Lib.hid (by rw [HR.out, HDR.out, visS_one])
              have HML : Hid ((visS xs [(p1, p2)] cur).2 = 0 → mea xs (pars.drop (k + 1)) (visS xs [(p1, p2)] cur).1 ≤ f ∧ (((visS xs [(p1, p2)] cur).1.length + mea xs (pars.drop (k + 1)) (visS xs [(p1, p2)] cur).1 : Nat) : Int) ≤ 900000) := Lib.hid (fun h => by
                have h2 := visS_mea xs (pars.drop (k + 1)) _ _ _ (Nat.le_refl _) h
                have h3 := visS_le h
                have h4 := HF.out
                rw [HDR.out, HQ.out] at h4
                rw [List.singleton_append] at h2
                omega)
              rw [← HQ.out] at HV
              generalize visS xs [(p1, p2)] cur = VR at HV HR2 HML
              obtain ⟨cur2, er⟩ := VR
              simp only at HV HR2 HML
              have hkn : (k : Int) < (n : Int) := by omega
              clear HR HF HDR
              go_wp2_with fail
              (with_reducible refine (HV.out).mono ?_)
              rintro e w6 ⟨da, dc, rfl, hdg, hdc, hb⟩
              have HB6 := Lib.hid (HB.out.trans (hb.mono HB.out.size))
              have HK6 := Lib.hid (HK.out.below hb)
              have HP6 := Lib.hid (HPD.out.ahead hb)
              have HD6 := Lib.hid hdg
              clear hb hdg HV HB HK HPD HD q0 q1 o0 o1 o2 o3 o4 o5 o6 o7 o8
              by_cases he : er = 0
              · subst he
                have HR3 : Hid (R = visS xs (pars.drop (k + 1)) cur2) := Lib.hid (by rw [HR2.out]; simp)
                have HM3 := Lib.hid (HML.out rfl)
                obtain ⟨q2, hq2⟩ : ∃ q2, q2 = cur2.length := ⟨_, rfl⟩
                rw [← hq2] at HM3 hdc ⊢
                have HQ2 := Lib.hid hq2
                clear hq2 HR2 HML
                go_wp2_with fail
                go_roundw
                case rel => exact ⟨k + 1, cur2, da, dc, q2, by omega, rfl, HQ2, hdc, rfl, by go_num, HD6, HB6, HK6, HP6, HR3, HM3⟩
                case measure => simp [intOf] <;> omega
              · have hee : (er != 0) = true := by simpa using he
                have HX2 : Hid (R = ([], er)) := Lib.hid (by rw [HR2.out, if_pos he])
                clear HR2 HML he
                go_wp2_with fail
                go_ret2
                rw [HX2.out]
                exact ⟨none, 0, rfl, Digs.nil _ _ _, Nat.le_refl _, HB6.out⟩
            · have HX2 : Hid (R = (cur, 0)) := Lib.hid (by rw [HR.out, List.drop_of_length_le (by have := HNP.out; omega), visS_nil])
              have hkn : ¬ (k : Int) < (n : Int) := by omega
              clear HR HF
              go_wp2_with fail
              go_ret2
              rw [HX2.out]
              exact ⟨ca, cc, by first | (rw [← HQ.out]; done) | (rw [← HQ.out]; rfl), HD.out, by rw [← HQ.out]; exact hqc, HB.out⟩
      · have hee : (er != 0) = true := by simpa using he
        have HX2 : Hid (R = ([], er)) := Lib.hid (by rw [HX.out, if_pos he])
        clear HX HMH HPL hu3
        go_wp2_with fail
        go_ret2
        rw [HX2.out]
        exact ⟨none, 0, rfl, Digs.nil _ _ _, Nat.le_refl _, HB2.out.alloc HB2.out.size _⟩

end Go.Proofs.YtgdhkcocdmdoaaaGreat
