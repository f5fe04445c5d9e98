/- history.depths. -/
import Derived.Test.YtgdhkcocdmdoaaaGreatHiDw
import Derived.Laws.EntriesVeiled
namespace Go.Proofs.YtgdhkcocdmdoaaaGreat
open Go.RowKit Go.Shelf
set_option linter.unusedVariables false

theorem wpList_len_run {P : Program} (w : World) {ops : Array Oper} {rest : List Oper} {o : Oper} {a : Act} {Q : Exit → Act → World → Prop} (hg : o.guard = none) (m : Operand) (t : TypeId) (hop : o.op = Op.call { callee := Callee.builtin Builtin.len, args := #[m], argTypes := #[t] })
    (v : Value) (hm : a.eval m = v) (z : Value) (hr : (Builtin.len_ #[t] o.type #[v]).run P w = .ok z w) (hK : wpList P ops Q rest (a.put o.dst z) w) : wpList P ops Q (o :: rest) a w := by
  refine wpList_plain hg fun K' hK' => ?_
  unfold Oper.wp
  simp [execOp, hop, resolve, invoke, builtin, hm, hr, Result.andThen]
  exact hK' _ _ hK
theorem MapV.len {b n : Nat} {F : Int × Int → Option Value} {W : World} {t e : TypeId} (h : MapV b n F W) (ht : Tryz.prog.underlying t = some (.map 32 e)) : ∃ z : Nat, z ≤ n ∧ ∀ ty, (Builtin.len_ #[t] ty #[.map (some b)]).run Tryz.prog W = .ok (.int .i64 (z : Int)) W := by
  obtain ⟨D, h1, _⟩ := h
  exact ⟨_, h1.size_le, fun ty => h1.len ht ty⟩
theorem run_mkI (z : Int) (w : World) : (Instr.makeMap 67 (some (.int .i64 z))).run Tryz.prog w = .ok (.map (some w.heap.size)) (w.alloc (.map #[] 0)) := by
  simp [Instr.makeMap, run_underlying Tryz.underlying67, asInt, asIntOf, Result.andThen]
theorem RangeV.obj {b r n cnt : Nat} {F : Int × Int → Option Value} {left : Int × Int → Bool} {W : World} (h : RangeV b r n F left cnt W) : ∃ o, W.heap[r]? = some o ∧ o.isCells = false := by
  obtain ⟨D, lf, h1, _⟩ := h
  obtain ⟨es, c, si, se, c0, _, _, _, _, hr, _⟩ := h1
  exact ⟨_, hr, rfl⟩
theorem DV.kept {xs : List Itm} {B b nb kd n kb mb db : Nat} {met : List (Int × Int)} {A : Int × Int → Option Addr × Nat} {K : Int × Int → Option Nat} {W W' : World} (h : DV xs B b nb met A kd n K kb mb db W) {r : Nat} (hg : W.grownBy W' (some r)) (hb : r ≠ b) (hk : r ≠ kd) (ho : ∃ o, W.heap[r]? = some o ∧ o.isCells = false) : DV xs B b nb met A kd n K kb mb db W' := by
  obtain ⟨o, ho, hc⟩ := ho
  have hbk : ∀ {p : Nat} {cs : Array Value} {t : TypeId}, BK p cs t W → r ≠ p := fun hp e => by
    rw [e, show W.heap[_]? = _ from hp] at ho
    cases ho
    cases hc
  exact ⟨h.vm.kept hg (fun e => hb (Option.some.inj e)) (fun j e d hd hp ad ha => by cases e; exact digs_cells (h.vm.pr d hd).1 hp ha ho hc), h.km.kept hg (fun e => hk (Option.some.inj e).symm), h.k1.grow1 hg (hbk h.k1), h.k2.grow1 hg (hbk h.k2), h.k3.grow1 hg (hbk h.k3), h.ne⟩
/-- The known depths between two rounds. -/
structure DL (xs : List Itm) (B : Nat) (w : World) (b nb : Nat) (met : List (Int × Int)) (A : Int × Int → Option Addr × Nat) (kd kb mb db r : Nat) (wr : World) : Prop where
  ex : ∃ n K left cnt, DV xs B b nb met A kd n K kb mb db wr ∧ RangeV b r nb (FA xs met A) left cnt wr ∧ n + 2 * unk met K ≤ 2 * met.length ∧ (∀ e k, K e = some k → k = depS xs e ∧ e ∈ met) ∧ ∀ d ∈ met, left d = false → K d = some (depS xs d)
  be : Below w.heap.size w wr
  lk : w.heap.size ≤ kd
  lr : w.heap.size ≤ r
  rk : r ≠ kd
  rb : r ≠ b
def GotDx (xs : List Itm) (met : List (Int × Int)) (w : World) (e : Ending) (w' : World) : Prop := ∃ kd n, e = .returned (.map (some kd)) ∧ MapV kd n (fun d => if d ∈ met then some (.int .i64 ((depS xs d : Nat) : Int)) else none) w' ∧ w.heap.size ≤ kd ∧ Below w.heap.size w w'

set_option maxRecDepth 100000 in
set_option maxHeartbeats 8000000 in
theorem depths_any (xs : List Itm) (B b nb : Nat) (met : List (Int × Int)) (A : Int × Int → Option Addr × Nat) (hA : AcyS xs) (hcl : ∀ d ∈ met, (commitS xs d).2 = 0 ∧ ∀ p ∈ (commitS xs d).1.pars, p ∈ met) (hok : ∀ d ∈ met, OkD d) (hxl : (xs.length : Int) ≤ 500) (hml : (met.length : Int) ≤ 400000) (w : World) (hvm : VM xs B b nb met A w) :
    Calls Tryz.prog 41 #[.map (some b)] w (GotDx xs met w) := by
  have hvm' : VM xs w.heap.size b nb (met) A w → True := fun _ => trivial
  have HCL := Lib.hid hcl
  have HAN : Hid (∀ d ∈ met, ∀ e, Anc xs d e → e ∈ met) := Lib.hid (fun d hd e he => by
    induction he with
    | refl => exact hd
    | step h1 h2 _ ih => exact ih ((hcl _ hd).2 _ h2))
  have HC := Lib.hid (fun kd kb mb db x y n K W => depth1_any xs B b nb met A kd kb mb db hA hcl hok hxl (rkS xs (x, y) + 1) x y n K W (by omega))
  have HOK := Lib.hid hok
  obtain ⟨z, hz, hlen⟩ := hvm.mp.len Tryz.underlying63
  have hlen1 := fun (o : Obj) (ty : TypeId) => ((hvm.alloc o).mp.len Tryz.underlying63)
  obtain ⟨W0, hW0⟩ : ∃ W0, W0 = w.alloc (.cells #[.map (some b)] 63) := ⟨_, rfl⟩
  obtain ⟨z0, hz0, HLEN⟩ := (show VM xs B b nb met A W0 by rw [hW0]; exact hvm.alloc _).mp.len Tryz.underlying63
  obtain ⟨W4, hW4⟩ : ∃ W4, W4 = ((W0.alloc (.map #[] 0)).alloc (.cells #[.map (some (w.heap.size + 1))] 67)).alloc (.cells #[.func (.func 65) #[] #[.pointer (some ⟨w.heap.size + 2, 0, none⟩), .pointer (some ⟨w.heap.size, 0, none⟩), .pointer (some ⟨w.heap.size + 3, 0, none⟩)]] 94) := ⟨_, rfl⟩
  have hz0s : W0.heap.size = w.heap.size + 1 := by rw [hW0]; simp
  have hbl := hvm.mp.lt
  have HD4 : Hid (DV xs B b nb met A (w.heap.size + 1) 0 (fun _ => none) (w.heap.size + 2) w.heap.size (w.heap.size + 3) W4) := Lib.hid (by
    rw [hW4]
    refine ⟨?_, ?_, ?_, ?_, ?_, by omega⟩
    · exact (((show VM xs B b nb met A W0 by rw [hW0]; exact hvm.alloc _).alloc _).alloc _).alloc _
    · have h1 := ((MapV.made W0).alloc (.cells #[.map (some (w.heap.size + 1))] 67)).alloc (.cells #[.func (.func 65) #[] #[.pointer (some ⟨w.heap.size + 2, 0, none⟩), .pointer (some ⟨w.heap.size, 0, none⟩), .pointer (some ⟨w.heap.size + 3, 0, none⟩)]] 94)
      rw [hz0s] at h1
      exact h1.eq (fun d => rfl)
    · have h1 := (BK.new (W0.alloc (.map #[] 0)) #[.map (some (w.heap.size + 1))] 67).alloc (.cells #[.func (.func 65) #[] #[.pointer (some ⟨w.heap.size + 2, 0, none⟩), .pointer (some ⟨w.heap.size, 0, none⟩), .pointer (some ⟨w.heap.size + 3, 0, none⟩)]] 94)
      rw [World.size_alloc, hz0s] at h1
      exact h1
    · exact (((show BK w.heap.size #[.map (some b)] 63 W0 by rw [hW0]; exact BK.new _ _ _).alloc _).alloc _).alloc _
    · have h1 := BK.new ((W0.alloc (.map #[] 0)).alloc (.cells #[.map (some (w.heap.size + 1))] 67)) #[.func (.func 65) #[] #[.pointer (some ⟨w.heap.size + 2, 0, none⟩), .pointer (some ⟨w.heap.size, 0, none⟩), .pointer (some ⟨w.heap.size + 3, 0, none⟩)]] 94
      rw [World.size_alloc, World.size_alloc, hz0s] at h1
      exact h1)
  have HB4 : Hid (Below w.heap.size w W4) := Lib.hid (by
    rw [hW4, hW0]
    exact ((((Below.refl _ w).alloc (Nat.le_refl _) _).alloc (by simp) _).alloc (by simp; omega) _).alloc (by simp; omega) _)
  have hz4s : W4.heap.size = w.heap.size + 4 := by rw [hW4]; simp; omega
  obtain ⟨W5, hrange, ⟨cnt, hcnt, hrg⟩, hg5, hz5⟩ := HD4.out.vm.mp.range Tryz.underlying63
  rw [hz4s] at hrange hrg
  have HB5 : Hid (Below w.heap.size w W5) := Lib.hid (HB4.out.grown hg5 HB4.out.size (fun j e => by cases e))
  have HL0 : Hid (DL xs B w b nb met A (w.heap.size + 1) (w.heap.size + 2) w.heap.size (w.heap.size + 3) (w.heap.size + 4) W5) := Lib.hid
    ⟨⟨0, fun _ => none, _, cnt, HD4.out.below ⟨hg5.os, hg5.tape, hg5.output, hg5.size, fun k hk => hg5.block k hk (by simp)⟩, hrg, by unfold unk; have := List.countP_le_length (p := fun d : Int × Int => ((fun _ => none : Int × Int → Option Nat) d).isNone) (l := met); omega, fun e k h => by simp at h, fun d hd h => by simp [FA, hd] at h⟩, HB5.out, by omega, by omega, by omega, by omega⟩
  rw [hW4, hW0] at hrange
  rw [hW0] at HLEN
  have HRANGE := Lib.hid hrange
  have HLN := Lib.hid HLEN
  have hmk := run_mkI
  have hww := hvm.mp.lt
  clear hW4 hW0 hrange HLEN hrg hg5 hz5 hlen hlen1 HD4 HB4 HB5 hvm hvm' hz0s hz4s hcl hok hA W0 W4
  have hr := HRANGE.out
  go_enter Tryz.func41, Tryz.ntmps41
  go_wp2_with (at_len; refine wpList_len_run _ rfl _ _ rfl _ rfl _ (HLN.out _) ?_)
  clear hr HRANGE HLN
  go_loopw [5] (fun _ wr => Hid (DL xs B w b nb met A (w.heap.size + 1) (w.heap.size + 2) w.heap.size (w.heap.size + 3) (w.heap.size + 4) wr)) (fun _ wr => wr.rangeLeft b (w.heap.size + 4))
  case atStart => exact HL0
  case round =>
    clear HL0
    obtain ⟨⟨n, K, left, cnt, hdv, hrg, hn, hK, hleft⟩, hbe, hlk, hlr, hrk, hrb⟩ := hrel.out
    have HDV := Lib.hid hdv
    have HK := Lib.hid hK
    have HLF := Lib.hid hleft
    have HRG := Lib.hid hrg
    have HBE := Lib.hid hbe
    have hcl2 := hrg.left_eq
    have HCNT := Lib.hid hcl2
    rcases hrg.next 0 with ⟨hl, hrun⟩ | ⟨x, y, v, W6, cnt2, hokd, hlx, hFx, hrun, hrg6, hlt, hg6, hz6, hen⟩
    · have HX : Hid (GotDx xs met w (.returned (.map (some (w.heap.size + 1)))) wr) := Lib.hid ⟨w.heap.size + 1, n, rfl, hdv.km.eq (fun d => by
        unfold FK
        by_cases hd : d ∈ met
        · rw [if_pos hd, hleft d hd (hl d (HOK.out d hd))]; rfl
        · rw [if_neg hd]
          cases hk : K d with
          | none => rfl
          | some k => exact absurd (hK d k hk).2 hd), hlk, hbe⟩
      have b1 : wr.cell? ⟨w.heap.size + 2, 0, none⟩ = some (.map (some (w.heap.size + 1))) := by rw [hdv.k1.cell]; rfl
      clear hdv hrg hn hK hleft hbe hlk hlr hrk hrb hrel HDV HK HLF HRG HBE hcl2 HCNT hl
      go_wp2_with fail
      go_ret
      exact HX.out
    · have hmem : (x, y) ∈ met := by
        unfold FA at hFx
        by_cases h : (x, y) ∈ met
        · exact h
        · rw [if_neg h] at hFx; cases hFx
      have hdv6 := hdv.kept hg6 hrb hrk hrg.obj
      have hbe6 : Below w.heap.size w W6 := hbe.grown hg6 hbe.size (fun j e => by cases e; exact hlr)
      obtain ⟨u0, hu0⟩ : ∃ u0, u0 = W6.alloc (.cells #[.int .u64 x, .int .u64 y] 32) := ⟨_, rfl⟩
      have HDV0 : Hid (DV xs B b nb met A (w.heap.size + 1) n K (w.heap.size + 2) w.heap.size (w.heap.size + 3) u0) := Lib.hid (by rw [hu0]; exact hdv6.alloc _)
      have HRG0 : Hid (RangeV b (w.heap.size + 4) nb (FA xs met A) (fun d => left d && !decide (d = (x, y))) cnt2 u0) := Lib.hid (by rw [hu0]; exact hrg6.alloc _)
      have HBE0 : Hid (Below w.heap.size w u0) := Lib.hid (by rw [hu0]; exact hbe6.alloc hbe6.size _)
      have HCALL := Lib.hid (HC.out (w.heap.size + 1) (w.heap.size + 2) w.heap.size (w.heap.size + 3) x y n K u0 hmem HDV0.out (by omega) (fun e _ k hk => (hK e k hk).1))
      rw [hu0] at HCALL
      have HU0 := Lib.hid hu0
      have b3 : W6.cell? ⟨w.heap.size + 3, 0, none⟩ = some (.func (.func 65) #[] #[.pointer (some ⟨w.heap.size + 2, 0, none⟩), .pointer (some ⟨w.heap.size, 0, none⟩), .pointer (some ⟨w.heap.size + 3, 0, none⟩)]) := by rw [hdv6.k3.cell]; rfl
      have b3a := fun o => cell_a1 b3 o
      have HMEM := Lib.hid hmem
      have HN := Lib.hid hn
      have HLT := Lib.hid hlt
      clear hdv hrg hn hK hleft hbe hrel HDV HRG HBE hcl2 hmem hdv6 hbe6 hrg6 hg6 hu0 hlt hlx hFx
      go_wp2_with fail
      refine (HCALL.out).mono ?_
      rintro e u1 ⟨rfl, hg, n3, K3, hdv3, hk3, hkp, hn3⟩
      rw [← HU0.out] at hg
      have HNEW : Hid (DL xs B w b nb met A (w.heap.size + 1) (w.heap.size + 2) w.heap.size (w.heap.size + 3) (w.heap.size + 4) u1 ∧ u1.rangeLeft b (w.heap.size + 4) = cnt2) := Lib.hid (by
        have hrg1 := HRG0.out.kept hg (fun e => by have := Option.some.inj e; omega) (fun e => hrk (Option.some.inj e))
        refine ⟨⟨⟨n3, K3, _, cnt2, hdv3, hrg1, by have := HN.out; omega, fun e k hk => ?_, fun d hd hl => ?_⟩, HBE0.out.grown hg HBE0.out.size (fun j e => by cases e; exact hlk), hlk, hlr, hrk, hrb⟩, hrg1.left_eq⟩
        · rcases hk3 e with h | ⟨h, h'⟩
          · rw [h] at hk; exact HK.out e k hk
          · rw [h] at hk
            exact ⟨(Option.some.inj hk).symm, HAN.out _ HMEM.out e h'⟩
        · by_cases e1 : d = (x, y)
          · rw [e1]; exact hkp
          · have h5 : left d = false := by simpa [e1] using hl
            have h6 := HLF.out d hd h5
            rcases hk3 d with h | ⟨h, _⟩
            · rw [h]; exact h6
            · exact h)
      have HDL := Lib.hid HNEW.out.1
      have HRL := Lib.hid HNEW.out.2
      clear HNEW hg hdv3 hk3 hkp hn3 HCALL HDV0 HRG0 HBE0 HU0 b3 b3a hrun hen hz6
      go_wp2_with fail
      go_roundw
      case rel => exact HDL
      case measure => rw [HRL.out, HCNT.out]; exact HLT.out

end Go.Proofs.YtgdhkcocdmdoaaaGreat
