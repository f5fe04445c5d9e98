/- object.writer.digest. -/
import Derived.Test.YtlfodnehgedpmaaObWr
namespace Go.Proofs.Ytlfodnehgedpmaa
open Go.RowKit Go.Shelf
set_option linter.unusedVariables false

theorem cell_byte (x : Int) (h0 : 0 ≤ x) (h1 : x < 256) : Lib.byteCells [UInt8.ofNat x.toNat] = [Value.int .u8 x] := by
  simp [Lib.byteCells]
  omega
def bePart (x y : Int) : Nat → List UInt8
  | 0 => []
  | 1 => be 8 x
  | _ => be 8 x ++ be 8 y
theorem bePart_length (x y : Int) (k : Nat) : (bePart x y k).length ≤ 16 := by
  match k with
  | 0 => simp [bePart]
  | 1 => simp [bePart, be_length]
  | _ + 2 => simp [bePart, be_length]

set_option maxRecDepth 100000 in
set_option maxHeartbeats 2000000 in
theorem wdigest_any {w w0 wr : World} {b : Nat} {l : List UInt8} {bad : Bool} (h : WR w w0 b l bad wr) (x y : Int) (hx : 0 ≤ x) (hy : 0 ≤ y) (hl : (l.length : Int) ≤ 70000000000000) :
    Calls Try.prog 22 #[.pointer (some ⟨b, 0, none⟩), .agg #[.int .u64 x, .int .u64 y]] wr fun e w' => e = .returned (.tuple #[]) ∧ Hid (WR w w0 b (l ++ beD (x, y)) bad w') ∧ Hid (Kept b wr w') := by
  obtain ⟨i0, hi, hz0, hz1, hz2⟩ := info_parts infoByte
  have HZ0 := Lib.hid hz0
  have HZ1 := Lib.hid hz1
  have HZ2 := Lib.hid hz2
  clear hz0 hz1 hz2
  have HW := Lib.hid h
  have HK : Hid (WR w wr b l bad wr) := Lib.hid ⟨h.cell, h.bel, Lib.OthersKept.refl _ _ _, h.le⟩
  clear h
  obtain ⟨ws, rfl⟩ : ∃ ws : World, ws = wr := ⟨_, rfl⟩
  go_enter Try.func22, Try.ntmps22
  go_wp2_with fail
  go_loopw [8] (fun i wr => ∃ k : Nat, k ≤ 2 ∧ i = .int .i64 k ∧ Hid (WR w w0 b (l ++ bePart x y k) bad wr) ∧ Hid (WR w ws b (l ++ bePart x y k) bad wr)) (fun i _ => 2 - (intOf i).toNat)
  case atStart => exact ⟨0, by omega, rfl, Lib.hid (by simpa [bePart] using HW.out.below ((Below.refl _ ws).alloc (Nat.le_refl _) _)), Lib.hid (by simpa [bePart] using HK.out.below ((Below.refl _ ws).alloc (Nat.le_refl _) _))⟩
  case round =>
    obtain ⟨k, hk, rfl, HW1, HK1⟩ := hrel
    obtain ⟨wo, rfl⟩ : ∃ wo : World, wo = wr := ⟨_, rfl⟩
    by_cases hlt : k < 2
    · obtain ⟨n, hn, hn0, HN⟩ : ∃ n : Int, (∀ W, (Instr.index 30 (.agg #[.int .u64 x, .int .u64 y]) (.int .i64 (k : Int))).run Try.prog W = .ok (.int .u64 n) W) ∧ 0 ≤ n ∧ Hid (bePart x y (k + 1) = bePart x y k ++ be 8 n) := by
        rcases (show k = 0 ∨ k = 1 by omega) with rfl | rfl
        · exact ⟨x, fun W => by kernel_rfl, hx, Lib.hid (by simp [bePart])⟩
        · exact ⟨y, fun W => by kernel_rfl, hy, Lib.hid rfl⟩
      have hpl := bePart_length x y k
      obtain ⟨L0, hL0⟩ : ∃ L0, L0 = l ++ bePart x y k := ⟨_, rfl⟩
      have hL0l : (L0.length : Int) ≤ 70000000000100 := by rw [hL0, List.length_append]; omega
      have HE : Hid (l ++ bePart x y (k + 1) = L0 ++ be 8 n) := Lib.hid (by rw [HN.out, hL0]; simp)
      rw [← hL0] at HW1 HK1
      clear hL0 HN hpl
      have dk : decide ((k : Int) < 2) = true := by simp; omega
      go_wp2_with fail
      go_loopw [6] (fun s wr => ∃ (j : Nat) (p : List UInt8), j ≤ 8 ∧ s = .int .i64 (8 * (j : Int) - 8) ∧ p.length + j = 8 ∧ Hid (p ++ be j n = be 8 n) ∧ Hid (WR w w0 b (L0 ++ p) bad wr) ∧ Hid (WR w ws b (L0 ++ p) bad wr)) (fun s _ => (intOf s + 8).toNat)
      case atStart => exact ⟨8, [], by omega, rfl, by simp, Lib.hid rfl, by rw [List.append_nil]; exact HW1, by rw [List.append_nil]; exact HK1⟩
      case round =>
        obtain ⟨j, p, hj, rfl, hp, HP, HW2, HK2⟩ := hrel
        cases j with
        | zero =>
          have HPE : Hid (L0 ++ p = l ++ bePart x y (k + 1)) := Lib.hid (by rw [HE.out, ← HP.out]; simp [be])
          rw [HPE.out] at HW2 HK2
          go_wp2_with fail
          go_roundw
          case rel => exact ⟨k + 1, by omega, by go_num, HW2, HK2⟩
          case measure => simp [intOf]; omega
        | succ i =>
          have hi8 : 8 * ((i + 1 : Nat) : Int) - 8 = 8 * (i : Int) := by omega
          rw [hi8]
          obtain ⟨v, hv, hown, hne⟩ := HW2.out.cell
          have c0 : wr.cell? ⟨b, 0, none⟩ = some v := by rw [Lib.cell_of_heap hv]; rfl
          have c0' := fun z => cell_a1 c0 z
          obtain ⟨z, hz⟩ : ∃ z, z = n / 2 ^ (8 * i) := ⟨_, rfl⟩
          have hsh : n / 2 ^ (8 * (i : Int)).toNat = z := by
            rw [hz]
            congr 2
          obtain ⟨c, hc⟩ : ∃ c, c = z % 256 := ⟨_, rfl⟩
          have hcv : IntKind.u8.wrap z = c := by rw [hc]; simp [IntKind.wrap, IntKind.bits, IntKind.signed]
          have hc0 : 0 ≤ c := by omega
          have hc1 : c < 256 := by omega
          have HP2 : Hid ((p ++ [UInt8.ofNat c.toNat]) ++ be i n = be 8 n) := Lib.hid (by rw [← HP.out, be, ← hz, ← hc, List.append_assoc]; rfl)
          have HV := Lib.hid hv
          have HO := Lib.hid hown
          have HNE := Lib.hid hne
          have hLp : (L0 ++ p).length = L0.length + p.length := List.length_append
          have hLb : ((L0 ++ p).length : Int) ≤ 70000000000200 := by rw [hLp]; omega
          have hws := HW2.out.bel.size
          have hbw : b < wr.heap.size := (Array.getElem?_eq_some_iff.1 hv).1
          clear hc hz hv hown hne HP hLp
          obtain ⟨L1, hL1⟩ : ∃ L1, L1 = L0 ++ p := ⟨_, rfl⟩
          have HL1 : Hid (L0 ++ (p ++ [UInt8.ofNat c.toNat]) = L1 ++ [UInt8.ofNat c.toNat]) := Lib.hid (by rw [hL1, List.append_assoc])
          rw [← hL1] at HW2 HK2 HO hLb
          clear hL1
          have hil : i ≤ 7 := by omega
          have hb8 : (0 : Int) ≤ 8 * (i : Int) := by omega
          have hb9 : 8 * (i : Int) ≤ 64 := by omega
          go_wp2_with fail
          go_region_law
            (first
            | (refine step_append_lies _ (by rfl) (.tmp 19) (.tmp 24) _ (by rfl) w.heap.size 5 i0 _ 1 1 Try.underlying61 hi HZ0.out HZ1.out HZ2.out rfl (by omega) _ L1.length (Lib.byteCells L1) (by rfl) (HO.out.alloc _).drew ⟨wr.heap.size, 0, none⟩ 1 1 [.int .u8 c] (by rfl) (by rfl) (World.news_of_block (cs := #[.int .u8 c]) (t := 5) (fr := (0, 0)) (heap_alloc_new wr _)) (by simp [Value.oneCell']) (by omega) (by unfold maxLen; omega) (by omega) (by simp; omega) _ rfl ?_; intro g cap x3 hown1 hgrow1 hat1 hlt1; (have hbk : x3.heap[b]? = some (.cells #[v, .bool bad] 63 (0, 0)) := (hgrow1.block b (by simp; omega) (fun e => HNE.out e.symm)).trans ((Below.heap_alloc _ _ _ hbw).trans HV.out)); (have d0 : x3.cell? ⟨b, 0, none⟩ = some v := by rw [Lib.cell_of_heap hbk]; rfl); (have d1 : x3.frozen? ⟨b, 0, none⟩ = false := Lib.frozen_of_heap hbk 0))
            | fail)
          all_goals
            have hb1 : Below wr.heap.size wr (wr.alloc (.cells #[.int .u8 c] 5)).drew := ((Below.refl _ wr).alloc (Nat.le_refl _) _).drew
            have HOn : Hid (x3.ownsRow w.heap.size 5 1 (.slice (some ⟨g, 0, none⟩) (L1.length + 1) cap) (L1 ++ [UInt8.ofNat c.toNat]).length (Lib.byteCells (L1 ++ [UInt8.ofNat c.toNat]))) := Lib.hid (by
              rw [byteCells_append, cell_byte c hc0 hc1, List.length_append]
              exact hown1)
            have HV1 : Hid ((wr.alloc (.cells #[.int .u8 c] 5)).drew.heap[b]? = some (.cells #[v, .bool bad] 63 (0, 0))) := Lib.hid ((Below.heap_alloc _ _ _ hbw).trans HV.out)
            have HF1 := Lib.hid ((HW2.out.below hb1).put HV1.out (HO.out.alloc _).drew HNE.out hgrow1 HOn.out)
            have HF2 := Lib.hid ((HK2.out.below hb1).put HV1.out (HO.out.alloc _).drew HNE.out hgrow1 HOn.out)
            rw [← HL1.out] at HF1 HF2
            clear hown1 hgrow1 hat1 hlt1 hb1 HOn HV1 hbk
            go_wp2_with fail
            go_roundw
            case rel => exact ⟨i, p ++ [UInt8.ofNat c.toNat], by omega, rfl, by simp; omega, HP2, HF1, HF2⟩
            case measure => simp [intOf]; omega
    · obtain rfl : k = 2 := by omega
      go_wp2_with fail
      go_end0
      exact ⟨rfl, HW1, Lib.hid HK1.out.kept⟩

end Go.Proofs.Ytlfodnehgedpmaa
