/- The reference's Same of objects. -/
import Derived.Test.YtlfodnehgedpmaaGreatRpH
namespace Go.Proofs.YtlfodnehgedpmaaGreat
open Go.RowKit Go.Shelf
set_option linter.unusedVariables false

theorem neq_ent (xn yn : List UInt8) (xb yb : Bool) (x1 x2 y1 y2 : Int) (W : World) : (binOp .neq 67 (.agg #[.string ⟨xn.toArray⟩, .bool xb, .int .u64 x1, .int .u64 x2]) (.agg #[.string ⟨yn.toArray⟩, .bool yb, .int .u64 y1, .int .u64 y2])).run Tryz.prog W = .ok (.bool (!((xn == yn && xb == yb) && (x1 == y1 && x2 == y2)))) W := by
  rw [run_neq_struct, run_equalIn_struct W 9999 67 _ _ (by kernel_rfl) (by kernel_rfl)]
  have hf : (Tryz.prog.fieldsOf 67).toList = [{ name := "Name", type := 9, offset := 0, embedded := false, tag := "", pkgPath := "", byteOffset := 0 }, { name := "Dir", type := 4, offset := 1, embedded := false, tag := "", pkgPath := "", byteOffset := 16 }, { name := "Digest", type := 26, offset := 2, embedded := false, tag := "", pkgPath := "", byteOffset := 24 }] := by kernel_rfl
  rw [hf]
  have p0 : ∀ (s : ByteArray) (c : Bool) (a b : Int) (V : World), (Go.part 9 #[.string s, .bool c, .int .u64 a, .int .u64 b] 0).run Tryz.prog V = .ok (.string s) V := fun s c a b V => by kernel_rfl
  have p1 : ∀ (s : ByteArray) (c : Bool) (a b : Int) (V : World), (Go.part 4 #[.string s, .bool c, .int .u64 a, .int .u64 b] 1).run Tryz.prog V = .ok (.bool c) V := fun s c a b V => by kernel_rfl
  have p2 : ∀ (s : ByteArray) (c : Bool) (a b : Int) (V : World), (Go.part 26 #[.string s, .bool c, .int .u64 a, .int .u64 b] 2).run Tryz.prog V = .ok (.agg #[.int .u64 a, .int .u64 b]) V := fun s c a b V => by kernel_rfl
  have q0 := fun V => run_equalIn_string (P := Tryz.prog) V 9998 9 ⟨xn.toArray⟩ ⟨yn.toArray⟩ Tryz.underlying9
  have q1 := fun V => run_equalIn_bool' (P := Tryz.prog) V 9998 4 xb yb Tryz.underlying4
  have q2 := fun V => eqD_run 9997 x1 x2 y1 y2 V
  have hsx : (⟨xn.toArray⟩ : ByteArray).toList = xn := by rw [Lib.toList_data]
  have hsy : (⟨yn.toArray⟩ : ByteArray).toList = yn := by rw [Lib.toList_data]
  rw [hsx, hsy] at q0
  simp only [Op.eqFields, Sem.run_bind, Sem.run_ite, p0, p1, p2, q0, q1, q2, Result.andThen_ok]
  cases h1 : (xn == yn) <;> cases h2 : (xb == yb) <;> cases h3 : (x1 == y1 && x2 == y2) <;> simp

set_option maxRecDepth 100000 in
set_option maxHeartbeats 8000000 in
theorem rosame_any (o o' : Ob) (ea ea' : Option Addr) (ec ec' : Nat) (pa pa' : Option Addr) (pc pc' : Nat) (w : World) (h : Ents w.heap.size w ea o.ents) (h' : Ents w.heap.size w ea' o'.ents) (g : Digs w.heap.size w pa o.pars) (g' : Digs w.heap.size w pa' o'.pars) (hn : (o.ents.length : Int) ≤ 9223372036854775807) (hm : (o.pars.length : Int) ≤ 9223372036854775807) :
    Calls Tryz.prog 32 #[o.val ea ec pa pc, o'.val ea' ec' pa' pc'] w fun e w' => e = .returned (.bool (decide (o = o'))) ∧ Below w.heap.size w w' := by
  obtain ⟨R, hR⟩ : ∃ R, R = decide (o = o') := ⟨_, rfl⟩
  rw [← hR]
  obtain ⟨kind, data, ents, ⟨t1, t2⟩, pars, author, time, msg⟩ := o
  obtain ⟨kind', data', ents', ⟨t1', t2'⟩, pars', author', time', msg'⟩ := o'
  simp only [Ob.val] at h h' g g' hn hm ⊢
  have HR := Lib.hid hR
  clear hR
  obtain ⟨ne, hne⟩ : ∃ ne, ne = ents.length := ⟨_, rfl⟩
  obtain ⟨n, hnn⟩ : ∃ n, n = pars.length := ⟨_, rfl⟩
  obtain ⟨ne', hne'⟩ : ∃ ne, ne = ents'.length := ⟨_, rfl⟩
  obtain ⟨n', hnn'⟩ : ∃ n, n = pars'.length := ⟨_, rfl⟩
  rw [← hne] at hn ⊢
  rw [← hnn] at hm ⊢
  rw [← hne', ← hnn']
  have HNE := Lib.hid hne
  have HNP := Lib.hid hnn
  have HNE' := Lib.hid hne'
  have HNP' := Lib.hid hnn'
  clear hne hnn hne' hnn'
  obtain ⟨w0, hw0⟩ : ∃ w0, w0 = (w.alloc (.cells #[.int .i64 kind, .string ⟨data.toArray⟩, .slice ea ne ec, .int .u64 t1, .int .u64 t2, .slice pa n pc, .string ⟨author.toArray⟩, .int .i64 time, .string ⟨msg.toArray⟩] 35)).alloc (.cells #[.int .i64 kind', .string ⟨data'.toArray⟩, .slice ea' ne' ec', .int .u64 t1', .int .u64 t2', .slice pa' n' pc', .string ⟨author'.toArray⟩, .int .i64 time', .string ⟨msg'.toArray⟩] 35) := ⟨_, rfl⟩
  have HB0 : Hid (Below w.heap.size w w0) := Lib.hid (by rw [hw0]; exact ((Below.refl _ w).alloc (Nat.le_refl _) _).alloc (by simp) _)
  have HK0 : Hid (BK w.heap.size #[.int .i64 kind, .string ⟨data.toArray⟩, .slice ea ne ec, .int .u64 t1, .int .u64 t2, .slice pa n pc, .string ⟨author.toArray⟩, .int .i64 time, .string ⟨msg.toArray⟩] 35 w0) := Lib.hid (by rw [hw0]; exact (BK.new _ _ _).alloc _)
  have HK1 : Hid (BK (w.heap.size + 1) #[.int .i64 kind', .string ⟨data'.toArray⟩, .slice ea' ne' ec', .int .u64 t1', .int .u64 t2', .slice pa' n' pc', .string ⟨author'.toArray⟩, .int .i64 time', .string ⟨msg'.toArray⟩] 35 w0) := Lib.hid (by rw [hw0]; exact BK.new2 _ _ _ _)
  have HE := Lib.hid (h.below HB0.out (Nat.le_refl _))
  have HE' := Lib.hid (h'.below HB0.out (Nat.le_refl _))
  have HP := Lib.hid (g.below HB0.out (Nat.le_refl _))
  have HP' := Lib.hid (g'.below HB0.out (Nat.le_refl _))
  have HW0 := Lib.hid hw0
  clear h h' g g' hw0
  by_cases hkind : kind = kind'
  rotate_left
  · have bkind : (kind != kind') = true := by simpa using hkind
    have HF : Hid (R = false) := Lib.hid (by rw [HR.out]; exact decide_eq_false (fun h => hkind (by injection h)))
    clear HR
    go_enter Tryz.func32, Tryz.ntmps32
    go_wp2_with fail
    go_ret
    exact ⟨by rw [HF.out]; rfl, by rw [← HW0.out]; exact HB0.out⟩
  subst hkind
  by_cases hdata : data = data'
  rotate_left
  · have bdata : (data == data') = false := by simpa using hdata
    have HF : Hid (R = false) := Lib.hid (by rw [HR.out]; exact decide_eq_false (fun h => hdata (by injection h)))
    clear HR
    go_enter Tryz.func32, Tryz.ntmps32
    go_wp2_with fail
    go_ret
    exact ⟨by rw [HF.out]; rfl, by rw [← HW0.out]; exact HB0.out⟩
  subst hdata
  have hq := fun W => neq_dig t1 t2 t1' t2' W
  by_cases htr : t1 = t1' ∧ t2 = t2'
  rotate_left
  · have hz : (t1 == t1' && t2 == t2') = false := by
      by_cases h1 : t1 = t1'
      · by_cases h2 : t2 = t2'
        · exact absurd ⟨h1, h2⟩ htr
        · simp [h1, h2]
      · simp [h1]
    rw [hz] at hq
    clear hz
    have HF : Hid (R = false) := Lib.hid (by rw [HR.out]; exact decide_eq_false (fun h => htr (by injection h with _ _ _ h4; simp only [Prod.mk.injEq] at h4; exact h4)))
    clear HR
    go_enter Tryz.func32, Tryz.ntmps32
    go_wp2_with fail
    go_ret
    exact ⟨by rw [HF.out]; rfl, by rw [← HW0.out]; exact HB0.out⟩
  obtain ⟨rfl, rfl⟩ := htr
  have hz : (t1 == t1 && t2 == t2) = true := by simp
  rw [hz] at hq
  clear hz
  by_cases hauthor : author = author'
  rotate_left
  · have bauthor : (author == author') = false := by simpa using hauthor
    have HF : Hid (R = false) := Lib.hid (by rw [HR.out]; exact decide_eq_false (fun h => hauthor (by injection h)))
    clear HR
    go_enter Tryz.func32, Tryz.ntmps32
    go_wp2_with fail
    go_ret
    exact ⟨by rw [HF.out]; rfl, by rw [← HW0.out]; exact HB0.out⟩
  subst hauthor
  by_cases htime : time = time'
  rotate_left
  · have btime : (time != time') = true := by simpa using htime
    have HF : Hid (R = false) := Lib.hid (by rw [HR.out]; exact decide_eq_false (fun h => htime (by injection h)))
    clear HR
    go_enter Tryz.func32, Tryz.ntmps32
    go_wp2_with fail
    go_ret
    exact ⟨by rw [HF.out]; rfl, by rw [← HW0.out]; exact HB0.out⟩
  subst htime
  by_cases hmsg : msg = msg'
  rotate_left
  · have bmsg : (msg == msg') = false := by simpa using hmsg
    have HF : Hid (R = false) := Lib.hid (by rw [HR.out]; exact decide_eq_false (fun h => hmsg (by injection h)))
    clear HR
    go_enter Tryz.func32, Tryz.ntmps32
    go_wp2_with fail
    go_ret
    exact ⟨by rw [HF.out]; rfl, by rw [← HW0.out]; exact HB0.out⟩
  subst hmsg
  by_cases hne : ne = ne'
  rotate_left
  · have bne : ((ne : Int) != (ne' : Int)) = true := by simp; omega
    have cne : (ne != ne') = true := by simpa using hne
    have HF : Hid (R = false) := Lib.hid (by rw [HR.out]; exact decide_eq_false (fun h => hne (by rw [HNE.out, HNE'.out]; have := congrArg (fun o : Ob => o.ents.length) h; exact this)))
    clear HR
    go_enter Tryz.func32, Tryz.ntmps32
    go_wp2_with fail
    go_ret
    exact ⟨by rw [HF.out]; rfl, by rw [← HW0.out]; exact HB0.out⟩
  subst hne
  by_cases hn : n = n'
  rotate_left
  · have bn : ((n : Int) != (n' : Int)) = true := by simp; omega
    have cn : (n != n') = true := by simpa using hn
    have HF : Hid (R = false) := Lib.hid (by rw [HR.out]; exact decide_eq_false (fun h => hn (by rw [HNP.out, HNP'.out]; have := congrArg (fun o : Ob => o.pars.length) h; exact this)))
    clear HR
    go_enter Tryz.func32, Tryz.ntmps32
    go_wp2_with fail
    go_ret
    exact ⟨by rw [HF.out]; rfl, by rw [← HW0.out]; exact HB0.out⟩
  subst hn
  have HR2 : Hid (R = decide (ents = ents' ∧ pars = pars')) := Lib.hid (by
    rw [HR.out]
    congr 1
    simp)
  clear HR
  have be1 : ((ne : Int) != (ne : Int)) = false := by simp
  have bn1 : ((n : Int) != (n : Int)) = false := by simp
  go_enter Tryz.func32, Tryz.ntmps32
  go_wp2_with fail
  rw [← HW0.out]
  have e0 : w0.cell? ⟨w.heap.size, 0, none⟩ = some (.int .i64 kind) := by rw [HK0.out.cell]; rfl
  have e1 : w0.cell? ⟨w.heap.size, 1, none⟩ = some (.string ⟨data.toArray⟩) := by rw [HK0.out.cell]; rfl
  have e2 : w0.cell? ⟨w.heap.size, 2, none⟩ = some (.slice ea ne ec) := by rw [HK0.out.cell]; rfl
  have e3 : w0.cell? ⟨w.heap.size, 3, none⟩ = some (.int .u64 t1) := by rw [HK0.out.cell]; rfl
  have e4 : w0.cell? ⟨w.heap.size, 4, none⟩ = some (.int .u64 t2) := by rw [HK0.out.cell]; rfl
  have e5 : w0.cell? ⟨w.heap.size, 5, none⟩ = some (.slice pa n pc) := by rw [HK0.out.cell]; rfl
  have e6 : w0.cell? ⟨w.heap.size, 6, none⟩ = some (.string ⟨author.toArray⟩) := by rw [HK0.out.cell]; rfl
  have e7 : w0.cell? ⟨w.heap.size, 7, none⟩ = some (.int .i64 time) := by rw [HK0.out.cell]; rfl
  have e8 : w0.cell? ⟨w.heap.size, 8, none⟩ = some (.string ⟨msg.toArray⟩) := by rw [HK0.out.cell]; rfl
  have f0 : w0.cell? ⟨w.heap.size + 1, 0, none⟩ = some (.int .i64 kind) := by rw [HK1.out.cell]; rfl
  have f1 : w0.cell? ⟨w.heap.size + 1, 1, none⟩ = some (.string ⟨data.toArray⟩) := by rw [HK1.out.cell]; rfl
  have f2 : w0.cell? ⟨w.heap.size + 1, 2, none⟩ = some (.slice ea' ne ec') := by rw [HK1.out.cell]; rfl
  have f3 : w0.cell? ⟨w.heap.size + 1, 3, none⟩ = some (.int .u64 t1) := by rw [HK1.out.cell]; rfl
  have f4 : w0.cell? ⟨w.heap.size + 1, 4, none⟩ = some (.int .u64 t2) := by rw [HK1.out.cell]; rfl
  have f5 : w0.cell? ⟨w.heap.size + 1, 5, none⟩ = some (.slice pa' n pc') := by rw [HK1.out.cell]; rfl
  have f6 : w0.cell? ⟨w.heap.size + 1, 6, none⟩ = some (.string ⟨author.toArray⟩) := by rw [HK1.out.cell]; rfl
  have f7 : w0.cell? ⟨w.heap.size + 1, 7, none⟩ = some (.int .i64 time) := by rw [HK1.out.cell]; rfl
  have f8 : w0.cell? ⟨w.heap.size + 1, 8, none⟩ = some (.string ⟨msg.toArray⟩) := by rw [HK1.out.cell]; rfl
  clear HW0 HK0 HK1
  go_loopw [5] (fun iv wr => ∃ k q : Nat, k ≤ ne ∧ iv = .int .i64 k ∧ wr = w0.drewN q ∧ Hid (ents.take k = ents'.take k)) (fun iv _ => ne - (intOf iv).toNat)
  case atStart => exact ⟨0, 0, by omega, rfl, rfl, Lib.hid rfl⟩
  case round =>
    obtain ⟨k, q, hk, rfl, rfl, HT⟩ := hrel
    by_cases hlt : k < ne
    · have h1 : k < ents.length := by rw [← HNE.out]; exact hlt
      have h2 : k < ents'.length := by rw [← HNE'.out]; exact hlt
      obtain ⟨b0, o0, rfl, hb0, c0, c1, c2, c3⟩ := HE.out k h1
      obtain ⟨b1, o1, rfl, hb1, d0, d1, d2, d3⟩ := HE'.out k h2
      have HS := Lib.hid (fun (h : ents[k] = ents'[k]) => take_eq_step HT.out h1 h2 h)
      have HD : Hid (ents[k] ≠ ents'[k] → R = false) := Lib.hid (fun h => by rw [HR2.out]; exact decide_eq_false (fun e => h (by obtain ⟨e1, _⟩ := e; subst e1; rfl)))
      generalize ents[k] = x at c0 c1 c2 c3 HS HD
      generalize ents'[k] = y at d0 d1 d2 d3 HS HD
      obtain ⟨xn, xb, xd1, xd2⟩ := x
      obtain ⟨yn, yb, yd1, yd2⟩ := y
      simp only at c0 c1 c2 c3 d0 d1 d2 d3
      have hqe := fun W => neq_ent xn yn xb yb xd1 xd2 yd1 yd2 W
      have hkn : (k : Int) < (ne : Int) := by omega
      cases hz : ((xn == yn && xb == yb) && (xd1 == yd1 && xd2 == yd2)) with
      | true =>
        rw [hz] at hqe
        have HT2 := Lib.hid (HS.out (by
          simp only [Bool.and_eq_true, beq_iff_eq] at hz
          rw [hz.1.1, hz.1.2, hz.2.1, hz.2.2]))
        clear hz HS HD HT
        go_wp2_with fail
        go_quiet (fail)
        go_wp2_with fail
        go_roundw
        case rel => exact ⟨k + 1, _, by omega, by go_num, by first | rfl | (simp only [World.drewN_drewN]; rfl), HT2⟩
        case measure => simp [intOf] <;> omega
      | false =>
        rw [hz] at hqe
        have HF := Lib.hid (HD.out (by
          intro h
          simp only [Ent.mk.injEq, Prod.mk.injEq] at h
          simp [h.1, h.2.1, h.2.2.1, h.2.2.2] at hz))
        clear hz HS HD HT
        go_wp2_with fail
        go_quiet (fail)
        go_wp2_with fail
        go_ret
        exact ⟨by rw [HF.out]; rfl, below_drewN (below_drewN HB0.out _) _⟩
    · have HTE : Hid (ents = ents') := Lib.hid (eq_take_full (by rw [← HNE.out, ← HNE'.out]) k HT.out (by rw [← HNE.out]; omega))
      go_wp2_with fail
      go_loopw [6] (fun iv wr => ∃ k q : Nat, k ≤ n ∧ iv = .int .i64 k ∧ wr = w0.drewN q ∧ Hid (pars.take k = pars'.take k)) (fun iv _ => n - (intOf iv).toNat)
      case atStart => exact ⟨0, q, by omega, rfl, rfl, Lib.hid rfl⟩
      case round =>
        obtain ⟨k, q, hk, rfl, rfl, HT⟩ := hrel
        by_cases hlt : k < n
        · have h1 : k < pars.length := by rw [← HNP.out]; exact hlt
          have h2 : k < pars'.length := by rw [← HNP'.out]; exact hlt
          obtain ⟨b0, o0, rfl, hb0, c0, c1⟩ := HP.out k h1
          obtain ⟨b1, o1, rfl, hb1, d0, d1⟩ := HP'.out k h2
          have HS := Lib.hid (fun (h : pars[k] = pars'[k]) => take_eq_step HT.out h1 h2 h)
          have HD : Hid (pars[k] ≠ pars'[k] → R = false) := Lib.hid (fun h => by rw [HR2.out]; exact decide_eq_false (fun e => h (by obtain ⟨_, e1⟩ := e; subst e1; rfl)))
          generalize pars[k] = x at c0 c1 HS HD
          generalize pars'[k] = y at d0 d1 HS HD
          obtain ⟨xd1, xd2⟩ := x
          obtain ⟨yd1, yd2⟩ := y
          simp only at c0 c1 d0 d1
          have hqe := fun W => neq_dig xd1 xd2 yd1 yd2 W
          have hkn : (k : Int) < (n : Int) := by omega
          cases hz : (xd1 == yd1 && xd2 == yd2) with
          | true =>
            rw [hz] at hqe
            have HT2 := Lib.hid (HS.out (by
              simp only [Bool.and_eq_true, beq_iff_eq] at hz
              rw [hz.1, hz.2]))
            clear hz HS HD HT
            go_wp2_with fail
            go_quiet (fail)
            go_wp2_with fail
            go_roundw
            case rel => exact ⟨k + 1, _, by omega, by go_num, by first | rfl | (simp only [World.drewN_drewN]; rfl), HT2⟩
            case measure => simp [intOf] <;> omega
          | false =>
            rw [hz] at hqe
            have HF := Lib.hid (HD.out (by
              intro h
              simp only [Prod.mk.injEq] at h
              simp [h.1, h.2] at hz))
            clear hz HS HD HT
            go_wp2_with fail
            go_quiet (fail)
            go_wp2_with fail
            go_ret
            exact ⟨by rw [HF.out]; rfl, below_drewN (below_drewN HB0.out _) _⟩
        · have HF : Hid (R = true) := Lib.hid (by
            rw [HR2.out]
            exact decide_eq_true ⟨HTE.out, eq_take_full (by rw [← HNP.out, ← HNP'.out]) k HT.out (by rw [← HNP.out]; omega)⟩)
          go_wp2_with fail
          go_ret
          exact ⟨by rw [HF.out]; rfl, below_drewN HB0.out _⟩

end Go.Proofs.YtlfodnehgedpmaaGreat
