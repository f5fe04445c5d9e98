/- wire.body. -/
import Derived.Test.YtlijaacjfnjmjaaWireE
import Derived.Deep.DeepCutAuto
import Derived.Deep.CutBlock
import Derived.Deep.CutRange
namespace Go.Proofs.Ytlijaacjfnjmjaa
open Go.RowKit Go.Shelf
set_option linter.unusedVariables false

theorem putInt_in (n : Int) (h0 : 0 ≤ n) (h1 : n ≤ 1099511627776) (w : World) : Calls Try.prog 59 #[.int .i64 n] w fun e w' => e = .returned (.tuple #[.string ⟨(Cw.enc n.toNat).toArray⟩, .int .i64 0]) ∧ Below w.heap.size w w' := by
  have h := putInt_any n w
  have : putI n = (Cw.enc n.toNat, 0) := by unfold putI; rw [if_pos ((Cw.inR_iff n).2 ⟨h0, h1⟩)]
  rw [this] at h
  exact h
theorem putText_in (T : List UInt8) (h : T.length ≤ 65536) (w : World) : Calls Try.prog 60 #[.string ⟨T.toArray⟩] w fun e w' => e = .returned (.tuple #[.string ⟨(Cw.enc T.length ++ T).toArray⟩, .int .i64 0]) ∧ Below w.heap.size w w' := by
  have h1 := putText_any ⟨T.toArray⟩ w (by rw [ba_len]; omega)
  have : putT T = (Cw.enc T.length ++ T, 0) := if_pos h
  simp only [this] at h1
  exact h1
theorem bodyN_take (ns : List Int) (k : Nat) (h : k < ns.length) : bodyN (ns.take (k + 1)) = bodyN (ns.take k) ++ Cw.enc (ns[k]).toNat := by
  rw [List.take_succ_eq_append_getElem h, bodyN, List.flatMap_append]
  simp [bodyN]
theorem bodyD_take (ds : List (Int × Int)) (k : Nat) (h : k < ds.length) : bodyD (ds.take (k + 1)) = bodyD (ds.take k) ++ (be 8 ds[k].1 ++ be 8 ds[k].2) := by
  rw [List.take_succ_eq_append_getElem h, bodyD, List.flatMap_append]
  simp [bodyD]
theorem writeStr_bw {w w0 wr : World} {b : Nat} {l : List UInt8} (h : BW w w0 b l wr) (s : List UInt8) (hl : ((l.length : Int)) + s.length ≤ 140737488355328) :
    Calls Try.prog 44 #[.pointer (some ⟨b, 0, none⟩), .string ⟨s.toArray⟩] wr fun e w' => e = .returned (.tuple #[.int .i64 s.length, .nilIface]) ∧ Hid (BW w w0 b (l ++ s) w') := by
  refine (writeString_k w.heap.size b (Lib.byteCells l) ⟨s.toArray⟩ wr h.bld (by rw [Lib.byteCells_length, ba_len]; omega) h.bel.size).mono ?_
  rintro e x ⟨rfl, h1, h2, h3⟩
  refine ⟨by rw [ba_len], Lib.hid (h.wrote (.inr ?_) h2 h3)⟩
  rw [byteCells_append]
  have := h1
  rwa [strCells_eq] at this
theorem writer1_bw {w w0 wr : World} {b x : Nat} {l : List UInt8} (h : BW w w0 b l wr) (n : Int) (k : Nat) (hk : k ≤ 8) (hn : 0 ≤ n) (hl : (l.length : Int) ≤ 70000000000000) (hx : wr.heap[x]? = some (.cells #[.pointer (some ⟨b, 0, none⟩)] 78 (0, 0))) (hxb : x ≠ b) :
    Calls Try.prog 61 #[.int .u64 n, .int .i64 k, .pointer (some ⟨x, 0, none⟩)] wr fun e w' => e = .returned (.tuple #[]) ∧ Hid (BW w w0 b (l ++ be k n) w') ∧ Hid (Kept b wr w') := by
  refine (writer1_k w.heap.size b x l n k wr h.bld hx hxb hk hn hl h.bel.size).mono ?_
  rintro e y ⟨rfl, h1, h2, h3⟩
  exact ⟨rfl, Lib.hid (h.wrote h1 h2 h3), Lib.hid h3⟩

theorem fresh_at {B b : Nat} {w : World} (hB : B ≤ b) (h : w.heap[b]? = some (.cells #[.pointer none, .slice none 0 0] 80 (0, 0))) : Lib.IsBuilderF 80 5 B b (Lib.byteCells []) w :=
  .inl ⟨hB, .slice none 0 0, h, World.ownsRowF_of (World.ownsRow_nil _ _ _ _), by simp [Value.ownBlock]⟩

abbrev bodyW (w : World) (kind id off tot : Int) (a : Option Addr) (nd cd : Nat) (T : List UInt8) : World :=
  (((w.alloc (.cells #[.int .i64 kind, .int .i64 id, .int .i64 off, .int .i64 tot, .slice a nd cd, .string ⟨T.toArray⟩] 34)).alloc (.cells #[.pointer none, .slice none 0 0] 80)).alloc
    (.cells #[.pointer (some ⟨w.heap.size + 1, 0, none⟩)] 78)).alloc (.cells #[.int .i64 kind, .int .i64 id, .int .i64 off, .int .i64 tot, .int .i64 nd] 3)
structure BodyW (w w0 : World) (kind id off tot : Int) (a : Option Addr) (nd cd : Nat) (T : List UInt8) : Prop where
  start : BW w w0 (w.heap.size + 1) [] w0
  box : w0.heap[w.heap.size]? = some (.cells #[.int .i64 kind, .int .i64 id, .int .i64 off, .int .i64 tot, .slice a nd cd, .string ⟨T.toArray⟩] 34 (0, 0))
  ptr : w0.heap[w.heap.size + 1 + 1]? = some (.cells #[.pointer (some ⟨w.heap.size + 1, 0, none⟩)] 78 (0, 0))
  arr : w0.heap[w.heap.size + 1 + 1 + 1]? = some (.cells #[.int .i64 kind, .int .i64 id, .int .i64 off, .int .i64 tot, .int .i64 nd] 3 (0, 0))
theorem bodyW_is (w : World) (kind id off tot : Int) (a : Option Addr) (nd cd : Nat) (T : List UInt8) : BodyW w (bodyW w kind id off tot a nd cd T) kind id off tot a nd cd T := by
  have s1 : ∀ o, (w.alloc o).heap.size = w.heap.size + 1 := fun o => by simp
  have s2 : ∀ o o', ((w.alloc o).alloc o').heap.size = w.heap.size + 1 + 1 := fun o o' => by simp
  have s3 : ∀ o o' o'', (((w.alloc o).alloc o').alloc o'').heap.size = w.heap.size + 1 + 1 + 1 := fun o o' o'' => by simp
  have hb : (bodyW w kind id off tot a nd cd T).heap[w.heap.size + 1]? = some (.cells #[.pointer none, .slice none 0 0] 80 (0, 0)) := by
    rw [Below.heap_alloc _ _ _ (by rw [s3]; omega), Below.heap_alloc _ _ _ (by rw [s2]; omega), ← s1 (.cells #[.int .i64 kind, .int .i64 id, .int .i64 off, .int .i64 tot, .slice a nd cd, .string ⟨T.toArray⟩] 34)]
    exact World.alloc_heap_new _ _
  refine ⟨⟨fresh_at (by omega) hb, ((((Below.refl _ w).alloc (Nat.le_refl _) _).alloc (by rw [s1]; omega) _).alloc (by rw [s2]; omega) _).alloc (by rw [s3]; omega) _, Lib.OthersKept.refl _ _ _⟩, ?_, ?_, ?_⟩
  · rw [Below.heap_alloc _ _ _ (by rw [s3]; omega), Below.heap_alloc _ _ _ (by rw [s2]; omega), Below.heap_alloc _ _ _ (by rw [s1]; omega)]
    exact World.alloc_heap_new _ _
  · rw [Below.heap_alloc _ _ _ (by rw [s3]; omega), ← s2 (.cells #[.int .i64 kind, .int .i64 id, .int .i64 off, .int .i64 tot, .slice a nd cd, .string ⟨T.toArray⟩] 34) (.cells #[.pointer none, .slice none 0 0] 80)]
    exact World.alloc_heap_new _ _
  · rw [← s3 (.cells #[.int .i64 kind, .int .i64 id, .int .i64 off, .int .i64 tot, .slice a nd cd, .string ⟨T.toArray⟩] 34) (.cells #[.pointer none, .slice none 0 0] 80) (.cells #[.pointer (some ⟨w.heap.size + 1, 0, none⟩)] 78)]
    exact World.alloc_heap_new _ _

set_option maxRecDepth 100000 in
set_option maxHeartbeats 2000000 in
theorem body_any (m : Msg) (a : Option Addr) (cd : Nat) (w : World) (hd : Digs w.heap.size w a m.ds) (hdn : ∀ d ∈ m.ds, 0 ≤ d.1 ∧ 0 ≤ d.2) (hk0 : 0 ≤ m.kind) (hk1 : m.kind ≤ 1099511627776) (hi0 : 0 ≤ m.id) (hi1 : m.id ≤ 1099511627776) (ho0 : 0 ≤ m.off) (ho1 : m.off ≤ 1099511627776) (ht0 : 0 ≤ m.tot) (ht1 : m.tot ≤ 1099511627776)
    (hn : m.ds.length ≤ 1000) (hT : m.data.length ≤ 65536) :
    Calls Try.prog 42 #[m.val a cd] w fun e w' => e = .returned (.string ⟨(bodyS m).toArray⟩) ∧ Below w.heap.size w w' := by
  obtain ⟨kind, id, off, tot, ds, T⟩ := m
  simp only at hd hdn hk0 hk1 hi0 hi1 ho0 ho1 ht0 ht1 hn hT ⊢
  obtain ⟨R, hR⟩ : ∃ R, R = bodyS ⟨kind, id, off, tot, ds, T⟩ := ⟨_, rfl⟩
  obtain ⟨ns, hns⟩ : ∃ ns : List Int, ns = [kind, id, off, tot, ds.length] := ⟨_, rfl⟩
  obtain ⟨nd, hnd⟩ : ∃ nd, nd = ds.length := ⟨_, rfl⟩
  rw [← hR]
  have HR : Hid (R = bodyN ns ++ (bodyD ds ++ (Cw.enc T.length ++ T))) := Lib.hid (by rw [hR, hns]; rfl)
  have HNS : Hid (ns = [kind, id, off, tot, (nd : Int)]) := Lib.hid (by rw [hns, hnd])
  have HND := Lib.hid hnd
  have hnd' : nd ≤ 1000 := by omega
  show Calls Try.prog 42 #[.agg #[.int .i64 kind, .int .i64 id, .int .i64 off, .int .i64 tot, .slice a ds.length cd, .string ⟨T.toArray⟩]] w _
  rw [← hnd]
  have HD := Lib.hid hd
  have HDN := Lib.hid hdn
  have hnl : ns.length = 5 := by rw [hns]; rfl
  have HIN : Hid (∀ n ∈ ns, 0 ≤ n ∧ n ≤ 1099511627776) := Lib.hid (by
    intro n hn'
    rw [hns] at hn'
    simp only [List.mem_cons, List.not_mem_nil, or_false] at hn'
    rcases hn' with rfl | rfl | rfl | rfl | rfl <;> omega)
  have HNL := Lib.hid hnl
  clear hR hns hnd hd hdn hn hnl
  go_enter Try.func42, Try.ntmps42
  go_wp2_with fail
  refine (writer_any _ _).mono ?_
  rintro e w' ⟨rfl, rfl⟩
  go_wp2_with fail
  have HW0 := Lib.hid (bodyW_is w kind id off tot a nd cd T)
  go_loopw [27] (fun i wr => ∃ k : Nat, k ≤ 5 ∧ i = .int .i64 k ∧ Hid (BW w (bodyW w kind id off tot a nd cd T) (w.heap.size + 1) (bodyN (ns.take k)) wr)) (fun i _ => 5 - (intOf i).toNat)
  case atStart => exact ⟨0, by omega, rfl, Lib.hid HW0.out.start⟩
  case round =>
    obtain ⟨k, hk, rfl, HBW⟩ := hrel
    obtain ⟨w0, hw0⟩ : ∃ w0, w0 = bodyW w kind id off tot a nd cd T := ⟨_, rfl⟩
    have HEQ := Lib.hid hw0
    rw [← hw0] at HBW HW0
    clear hw0
    have hws := HBW.out.bel.size
    by_cases hlt : k < 5
    · have hkn : k < ns.length := by rw [HNL.out]; exact hlt
      obtain ⟨n, hn⟩ : ∃ n, n = ns[k] := ⟨_, rfl⟩
      have hbn := HIN.out n (by rw [hn]; exact List.getElem_mem hkn)
      have hlb := bodyN_length (ns.take k)
      rw [List.length_take] at hlb
      have hel := enc_length n.toNat
      have HT1 := Lib.hid (bodyN_take ns k hkn)
      rw [← hn] at HT1
      have harr : wr.cell? ⟨w.heap.size + 1 + 1 + 1, k, none⟩ = some (.int .i64 n) := by
        rw [Lib.cell_of_heap (HBW.out.block HW0.out.arr (by omega) (by decide))]
        have h1 : ns[k]? = some n := by rw [hn]; exact List.getElem?_eq_getElem hkn
        rw [HNS.out] at h1
        rcases (show k = 0 ∨ k = 1 ∨ k = 2 ∨ k = 3 ∨ k = 4 by omega) with rfl | rfl | rfl | rfl | rfl <;> simp at h1 <;> subst h1 <;> rfl
      clear hn
      go_wp2_with fail
      refine (putInt_in n hbn.1 hbn.2 _).mono ?_
      rintro e x1 ⟨rfl, hb1⟩
      have HBW1 := Lib.hid (HBW.out.below hb1)
      clear hb1
      go_wp2_with fail
      refine (writeStr_bw HBW1.out _ (by omega)).mono ?_
      rintro e x2 ⟨rfl, HBW2⟩
      rw [← HT1.out, HEQ.out] at HBW2
      go_wp2_with fail
      go_roundw
      case rel => exact ⟨k + 1, by omega, by go_num, HBW2⟩
      case measure => simp [intOf]; omega
    · have HBN : Hid (ns.take k = ns) := Lib.hid (List.take_of_length_le (by rw [HNL.out]; omega))
      rw [HBN.out] at HBW
      have hb0 := HBW.out.block HW0.out.box (by omega) (by decide)
      have c4 : wr.cell? ⟨w.heap.size, 4, none⟩ = some (.slice a nd cd) := by rw [Lib.cell_of_heap hb0]; rfl
      have HNLe := Lib.hid (bodyN_length ns)
      rw [HNL.out] at HNLe
      clear hb0 HBN
      go_wp2_with fail
      obtain ⟨wq, rfl⟩ : ∃ wq : World, wq = wr := ⟨_, rfl⟩
      go_loopw [42] (fun i wr => ∃ j : Nat, j ≤ nd ∧ i = .int .i64 j ∧ Hid (BW w w0 (w.heap.size + 1) (bodyN ns ++ bodyD (ds.take j)) wr)) (fun i _ => nd - (intOf i).toNat)
      case atStart => exact ⟨0, by omega, rfl, by simpa [bodyD] using HBW⟩
      case round =>
        obtain ⟨j, hj, rfl, HBJ⟩ := hrel
        have hwj := HBJ.out.bel.size
        have hbl := bodyD_length (ds.take j)
        have hbl2 : (bodyD (ds.take j)).length ≤ 16 * nd := by rw [hbl, List.length_take, HND.out]; omega
        have hNL := HNLe.out
        have hp0 := HBJ.out.block HW0.out.ptr (by omega) (by decide)
        clear hbl c4
        by_cases hlt2 : j < nd
        · have hjd : j < ds.length := by rw [← HND.out]; exact hlt2
          obtain ⟨b0, o0, rfl, hb0, e1, e2⟩ := (HD.out.below HBJ.out.bel (Nat.le_refl _)) j hjd
          obtain ⟨x, hx⟩ : ∃ x, x = ds[j].1 := ⟨_, rfl⟩
          obtain ⟨y, hy⟩ : ∃ y, y = ds[j].2 := ⟨_, rfl⟩
          have hpos := HDN.out _ (List.getElem_mem hjd)
          rw [← hx, ← hy] at hpos
          obtain ⟨hx0, hy0⟩ := hpos
          rw [← hx] at e1
          rw [← hy] at e2
          have HT2 := Lib.hid (bodyD_take ds j hjd)
          rw [← hx, ← hy] at HT2
          clear hx hy
          have HP := Lib.hid hp0
          clear hp0
          go_wp2_with fail
          have HBA := Lib.hid (HBJ.out.below ((Below.refl _ wr).alloc (Nat.le_refl _) (.cells #[.int .u64 x, .int .u64 y] 72)))
          have HPA : Hid ((wr.alloc (.cells #[.int .u64 x, .int .u64 y] 72)).heap[w.heap.size + 1 + 1]? = some (.cells #[.pointer (some ⟨w.heap.size + 1, 0, none⟩)] 78 (0, 0))) := Lib.hid (HBA.out.block HW0.out.ptr (by omega) (by decide))
          refine (writer1_bw (k := 8) HBA.out x (by omega) hx0 (by simp; omega) HPA.out (by omega)).mono ?_
          rintro e x1 ⟨rfl, HB1, HK1⟩
          have hbx : x1.heap[wr.heap.size]? = some (.cells #[.int .u64 x, .int .u64 y] 72 (0, 0)) := HK1.out wr.heap.size _ (World.alloc_heap_new wr _) (fun e => by have := Option.some.inj e; have := bldF_lt HBJ.out.bld; omega) (fun c f e => by cases e)
          have d1 : x1.cell? ⟨wr.heap.size, 1, none⟩ = some (.int .u64 y) := by rw [Lib.cell_of_heap hbx]; rfl
          have HP1 := Lib.hid (HB1.out.block HW0.out.ptr (by omega) (by decide))
          have hx1s := HB1.out.bel.size
          clear hbx HBA HPA HK1 e1 e2
          go_wp2_with fail
          refine (writer1_bw (k := 8) HB1.out y (by omega) hy0 (by simp [be_length]; omega) HP1.out (by omega)).mono ?_
          rintro e x2 ⟨rfl, HB2, HK2⟩
          have HB3 : Hid (BW w w0 (w.heap.size + 1) (bodyN ns ++ bodyD (ds.take (j + 1))) x2) := Lib.hid (by
            rw [HT2.out]
            have := HB2.out
            simpa only [List.append_assoc] using this)
          clear HB2 HK2 HB1 d1 HP1
          go_wp2_with fail
          go_roundw
          case rel => exact ⟨j + 1, by omega, by go_num, HB3⟩
          case measure => simp [intOf]; omega
        · have HDJ : Hid (ds.take j = ds) := Lib.hid (List.take_of_length_le (by rw [← HND.out]; omega))
          rw [HDJ.out] at HBJ hbl2
          have hb0 := HBJ.out.block HW0.out.box (by omega) (by decide)
          have c5 : wr.cell? ⟨w.heap.size, 5, none⟩ = some (.string ⟨T.toArray⟩) := by rw [Lib.cell_of_heap hb0]; rfl
          have hel := enc_length T.length
          clear hb0 HDJ hp0
          go_wp2_with fail
          refine (putText_in T hT _).mono ?_
          rintro e x1 ⟨rfl, hb1⟩
          have HB1 := Lib.hid (HBJ.out.below hb1)
          clear hb1
          go_wp2_with fail
          refine (writeStr_bw HB1.out _ (by simp; omega)).mono ?_
          rintro e x2 ⟨rfl, HB2⟩
          have HB3 : Hid (BW w w0 (w.heap.size + 1) R x2) := Lib.hid (by
            rw [HR.out]
            have := HB2.out
            simpa only [List.append_assoc] using this)
          clear HB2 HB1
          go_wp2_with fail
          refine (bldString_k w.heap.size (w.heap.size + 1) R x2 HB3.out.bld ?_).mono ?_
          · intro h0
            have h1 := HR.out
            rw [h0] at h1
            have h2 := congrArg List.length h1
            have := List.length_pos_iff.2 (enc_ne T.length)
            simp only [List.length_append, List.length_nil] at h2
            omega
          rintro e x3 ⟨rfl, _, hb3, _⟩
          go_wp2_with fail
          go_ret
          exact ⟨rfl, HB3.out.bel.trans hb3⟩

end Go.Proofs.Ytlijaacjfnjmjaa
