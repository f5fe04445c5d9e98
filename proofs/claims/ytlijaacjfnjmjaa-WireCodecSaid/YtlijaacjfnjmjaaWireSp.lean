/- Rows of messages; wire.Split and the reference's Split. -/
import Derived.Test.YtlijaacjfnjmjaaWireS
namespace Go.Proofs.Ytlijaacjfnjmjaa
open Go.RowKit

/-- A message, and where its digests lie. -/
abbrev MA := Msg × Option Addr × Nat
def mcells (l : List MA) : List Value := l.flatMap fun x => [.int .i64 x.1.kind, .int .i64 x.1.id, .int .i64 x.1.off, .int .i64 x.1.tot, .slice x.2.1 x.1.ds.length x.2.2, .string ⟨x.1.data.toArray⟩]
theorem mcells_append (l m : List MA) : mcells (l ++ m) = mcells l ++ mcells m := by simp [mcells]
theorem mcells_at : ∀ (l : List MA) (i : Nat) (h : i < l.length), (mcells l)[i * 6]? = some (.int .i64 l[i].1.kind) ∧ (mcells l)[i * 6 + 1]? = some (.int .i64 l[i].1.id) ∧ (mcells l)[i * 6 + 2]? = some (.int .i64 l[i].1.off)
    ∧ (mcells l)[i * 6 + 3]? = some (.int .i64 l[i].1.tot) ∧ (mcells l)[i * 6 + 4]? = some (.slice l[i].2.1 l[i].1.ds.length l[i].2.2) ∧ (mcells l)[i * 6 + 5]? = some (.string ⟨l[i].1.data.toArray⟩)
  | [], i, h => by simp at h
  | x :: l, 0, h => by simp [mcells]
  | x :: l, i + 1, h => by
    have h' : i < l.length := by simpa using h
    have e : mcells (x :: l) = [.int .i64 x.1.kind, .int .i64 x.1.id, .int .i64 x.1.off, .int .i64 x.1.tot, .slice x.2.1 x.1.ds.length x.2.2, .string ⟨x.1.data.toArray⟩] ++ mcells l := by simp [mcells]
    have g : ∀ j, (mcells (x :: l))[(i + 1) * 6 + j]? = (mcells l)[i * 6 + j]? := fun j => by
      rw [e, List.getElem?_append_right (by simp; omega)]
      congr 1
      simp
      omega
    have := mcells_at l i h'
    simp only [List.getElem_cons_succ]
    exact ⟨(g 0).trans this.1, (g 1).trans this.2.1, (g 2).trans this.2.2.1, (g 3).trans this.2.2.2.1, (g 4).trans this.2.2.2.2.1, (g 5).trans this.2.2.2.2.2⟩

theorem ownsRow_sliceN {w : World} {base : Nat} {e : TypeId} {z : Nat} {v : Value} {n : Nat} {xs : List Value} (h : w.ownsRow base e z v n xs) : ∃ a cap, v = .slice a n cap ∧ n ≤ cap := by
  rcases h.2 with ⟨rfl, rfl⟩ | ⟨g, cap, cur, rfl, _, _, h1, _⟩
  · exact ⟨_, _, rfl, Nat.le_refl _⟩
  · exact ⟨_, _, rfl, h1⟩

theorem ownsRow_msgs {w : World} {base : Nat} {a : Option Addr} {cap : Nat} {l : List MA} (h : w.ownsRow base 34 6 (.slice a l.length cap) l.length (mcells l)) (hd : ∀ x ∈ l, Digs w.heap.size w x.2.1 x.1.ds) : Msgs w.heap.size w a (l.map Prod.fst) := by
  intro i hi
  rw [List.length_map] at hi
  rw [List.getElem_map]
  rcases h.2 with ⟨h1, h2⟩ | ⟨g, cap', cur, h1, _, hg, _⟩
  · omega
  · cases h1
    obtain ⟨c0, c1, c2, c3, c4, c5⟩ := mcells_at l i hi
    have C := fun j u (hj : (mcells l)[j]? = some u) => h.cells (g := g) rfl j u hj
    refine ⟨g, 0, l[i].2.1, l[i].2.2, rfl, (Array.getElem?_eq_some_iff.1 hg).1, ?_, ?_, ?_, ?_, ?_, ?_, hd _ (List.getElem_mem hi)⟩
    · have := C _ _ c0; rwa [Go.WideShapes.add_plain] at this
    · have := C _ _ c1; rwa [Go.WideShapes.add_plain, ← Nat.add_assoc] at this
    · have := C _ _ c2; rwa [Go.WideShapes.add_plain, ← Nat.add_assoc] at this
    · have := C _ _ c3; rwa [Go.WideShapes.add_plain, ← Nat.add_assoc] at this
    · have := C _ _ c4; rwa [Go.WideShapes.add_plain, ← Nat.add_assoc] at this
    · have := C _ _ c5; rwa [Go.WideShapes.add_plain, ← Nat.add_assoc] at this

theorem infoMsg : (Try.prog.info? 34).map (fun i => (i.zero, i.size, i.bytes)) = some (some (.agg #[.int .i64 0, .int .i64 0, .int .i64 0, .int .i64 0, .slice none 0 0, .string ⟨#[]⟩]), 6, 72) := by kernel_rfl

theorem ex_mid (A : List UInt8) (i j : Nat) : (⟨A.toArray⟩ : ByteArray).extract i j = ⟨((A.drop i).take (j - i)).toArray⟩ := ba_eq (by rw [Lib.extract_data])
theorem sl_mid (A : List UInt8) (i j : Nat) (h : i ≤ j) (hj : j ≤ A.length) (W : World) : (Instr.slice 9 (.string ⟨A.toArray⟩) (some (.int .i64 i)) (some (.int .i64 j)) none).run Try.prog W = .ok (.string ⟨((A.drop i).take (j - i)).toArray⟩) W := by
  rw [run_slice_string W 9 ⟨A.toArray⟩ .i64 .i64 i j Try.underlying9 (by omega) (by omega) (by rw [ba_len]; omega)]
  have : (⟨A.toArray⟩ : ByteArray).extract ((i : Int)).toNat ((j : Int)).toNat = ⟨((A.drop i).take (j - i)).toArray⟩ := ba_eq (by
    rw [Lib.extract_data, Int.toNat_natCast, Int.toNat_natCast])
  rw [this]
theorem sl_hi (B : List UInt8) (n : Nat) (h : n ≤ B.length) (W : World) : (Instr.slice 9 (.string ⟨B.toArray⟩) none (some (.int .i64 n)) none).run Try.prog W = .ok (.string ⟨(B.take n).toArray⟩) W := by
  rw [run_slice_string_h (P := Try.prog) W (t := 9) ⟨B.toArray⟩ Try.underlying9 .i64 n (by omega) (by rw [ba_len]; omega)]
  have : (⟨B.toArray⟩ : ByteArray).extract 0 ((n : Int)).toNat = ⟨(B.take n).toArray⟩ := ba_eq (by rw [Lib.extract_data, List.drop_zero, Nat.sub_zero, Int.toNat_natCast])
  rw [this]
theorem sl_lo (B : List UInt8) (n : Nat) (h : n ≤ B.length) (W : World) : (Instr.slice 9 (.string ⟨B.toArray⟩) (some (.int .i64 n)) none none).run Try.prog W = .ok (.string ⟨(B.drop n).toArray⟩) W := by
  rw [run_slice_string_l (P := Try.prog) W (t := 9) ⟨B.toArray⟩ Try.underlying9 .i64 n (by omega) (by rw [ba_len]; omega)]
  have : (⟨B.toArray⟩ : ByteArray).extract ((n : Int)).toNat (⟨B.toArray⟩ : ByteArray).size = ⟨(B.drop n).toArray⟩ := ba_eq (by rw [Lib.extract_to_end, Int.toNat_natCast])
  rw [this]

/-- The part at an offset. -/
def part (id : Int) (data : List UInt8) (size at_ : Nat) : Msg := ⟨2, id, at_, data.length, [], (data.drop at_).take size⟩
/-- The parts of a text. -/
def parts (id : Int) (data : List UInt8) (size : Nat) : List Msg := (List.range ((data.length + size - 1) / size)).map fun i => part id data size (i * size)
/-- What Split answers. -/
def splitS (id : Int) (data : List UInt8) (size : Int) : List Msg × Int :=
  if id < 0 ∨ 1099511627776 < id ∨ size < 1 ∨ 65536 < size then ([], 2) else if 1048576 < data.length then ([], 4) else (parts id data size.toNat, 0)

def SRel (id : Int) (data : List UInt8) (size k at_ : Nat) (acc : List Msg) : Prop :=
  at_ = k * size ∧ acc = (List.range k).map (fun i => part id data size (i * size)) ∧ (k = 0 ∨ (k - 1) * size < data.length) ∧ 1 ≤ size
theorem SRel.len {id : Int} {data : List UInt8} {size k at_ : Nat} {acc : List Msg} (h : SRel id data size k at_ acc) : acc.length = k ∧ k ≤ at_ ∧ k ≤ data.length := by
  obtain ⟨rfl, rfl, h, hs⟩ := h
  have h2 : ∀ k : Nat, k ≤ k * size := fun k => Nat.le_mul_of_pos_right k hs
  refine ⟨by simp, h2 k, ?_⟩
  rcases h with h | h
  · omega
  · have := h2 (k - 1); omega
theorem SRel.next {id : Int} {data : List UInt8} {size k at_ : Nat} {acc : List Msg} (h : SRel id data size k at_ acc) (hl : at_ < data.length) : SRel id data size (k + 1) (at_ + size) (acc ++ [part id data size at_]) := by
  obtain ⟨rfl, rfl, h, hs⟩ := h
  refine ⟨by rw [Nat.succ_mul], ?_, .inr (by simpa using hl), hs⟩
  rw [List.range_succ, List.map_append]; rfl
theorem SRel.fin {id : Int} {data : List UInt8} {size k at_ : Nat} {acc : List Msg} (h : SRel id data size k at_ acc) (hl : data.length ≤ at_) : acc = parts id data size := by
  obtain ⟨rfl, rfl, h, hs⟩ := h
  unfold parts
  suffices (data.length + size - 1) / size = k by rw [this]
  rw [Nat.div_eq_iff (by omega)]
  rcases h with rfl | h
  · simp only [Nat.zero_mul] at hl ⊢; omega
  · obtain ⟨j, rfl⟩ | rfl : (∃ j, k = j + 1) ∨ k = 0 := by cases k with | zero => exact .inr rfl | succ j => exact .inl ⟨j, rfl⟩
    · simp only [Nat.add_sub_cancel, Nat.succ_mul] at h hl ⊢; omega
    · simp only [Nat.zero_mul] at hl ⊢; omega

/-- What a function that returns messages and an error leaves. -/
def GotMs (w : World) (ms : List Msg) (er : Int) (e : Ending) (w' : World) : Prop :=
  ∃ a c, e = .returned (.tuple #[.slice a ms.length c, .int .i64 er]) ∧ Msgs w'.heap.size w' a ms ∧ Below w.heap.size w w' ∧ ms.length ≤ c
theorem GotMs.none {w : World} {ms : List Msg} {er er' : Int} (h : (ms, er') = (([] : List Msg), er)) : GotMs w ms er' (.returned (.tuple #[.slice none 0 0, .int .i64 er])) w := by
  cases h
  exact ⟨_, 0, rfl, Msgs.nil _ _ _, Below.refl _ _, Nat.le_refl _⟩

theorem alloc1_msg (w : World) (kind id off tot : Int) (n c : Nat) (a : Option Addr) (T : ByteArray) (j : Nat) (u : Value) (h : [Value.int .i64 kind, .int .i64 id, .int .i64 off, .int .i64 tot, .slice a n c, .string T][j]? = some u) :
    (w.alloc (.cells #[.int .i64 kind, .int .i64 id, .int .i64 off, .int .i64 tot, .slice a n c, .string T] 34)).cell? ((⟨w.heap.size, 0, none⟩ : Addr).add j) = some u := by
  rw [Go.WideShapes.add_plain]
  match j, h with
  | 0, h => simp at h; subst h; simp
  | 1, h => simp at h; subst h; simp
  | 2, h => simp at h; subst h; simp
  | 3, h => simp at h; subst h; simp
  | 4, h => simp at h; subst h; simp
  | 5, h => simp at h; subst h; simp
  | j + 6, h => simp at h

set_option maxHeartbeats 2000000 in
set_option maxRecDepth 100000 in
theorem split_any (id : Int) (data : List UInt8) (size : Int) (w : World) (hd : (data.length : Int) ≤ 140737488355328) :
    Calls Try.prog 12 #[.int .i64 id, .string ⟨data.toArray⟩, .int .i64 size] w (GotMs w (splitS id data size).1 (splitS id data size).2) := by
  obtain ⟨i0, hi, hz0, hz1, hz2⟩ := info_parts infoMsg
  obtain ⟨R, hR⟩ : ∃ R, R = splitS id data size := ⟨_, rfl⟩
  rw [← hR]
  by_cases hb : id < 0 ∨ 1099511627776 < id ∨ size < 1 ∨ 65536 < size
  · have HF : Hid (R = ([], 2)) := Lib.hid (by rw [hR]; unfold splitS; rw [if_pos hb])
    clear hR
    go_enter Try.func12, Try.ntmps12
    go_wp2_with fail
    all_goals first
      | (exfalso; omega)
      | (go_ret2; exact GotMs.none HF.out)
  · by_cases hl : (1048576 : Int) < data.length
    · have HF : Hid (R = ([], 4)) := Lib.hid (by rw [hR]; unfold splitS; rw [if_neg hb, if_pos (by omega)])
      clear hR
      have d1 : decide (id < 0) = false := by simp; omega
      have d2 : decide (1099511627776 < id) = false := by simp; omega
      have d3 : decide (size < 1) = false := by simp; omega
      have d4 : decide (65536 < size) = false := by simp; omega
      clear hb
      go_enter Try.func12, Try.ntmps12
      go_wp2_with fail
      go_ret2
      exact GotMs.none HF.out
    · have HF : Hid (R = (parts id data size.toNat, 0)) := Lib.hid (by rw [hR]; unfold splitS; rw [if_neg hb, if_neg (by omega)])
      clear hR
      have d1 : decide (id < 0) = false := by simp; omega
      have d2 : decide (1099511627776 < id) = false := by simp; omega
      have d3 : decide (size < 1) = false := by simp; omega
      have d4 : decide (65536 < size) = false := by simp; omega
      obtain ⟨sz, rfl⟩ : ∃ sz : Nat, size = (sz : Int) := ⟨size.toNat, by omega⟩
      rw [Int.toNat_natCast] at HF
      have hs1 : 1 ≤ sz := by omega
      have hs2 : sz ≤ 65536 := by omega
      clear hb
      go_enter Try.func12, Try.ntmps12
      go_wp2_with fail
      go_loopw [8, 9] (fun v i wr => ∃ (k at_ : Nat) (acc : List Msg), i = .int .i64 at_ ∧ at_ ≤ data.length + 65536 ∧ wr.ownsRow w.heap.size 34 6 v k (mcells (acc.map fun m => (m, none, 0))) ∧ Below w.heap.size w wr ∧ SRel id data sz k at_ acc) (fun _ i _ => data.length - (intOf i).toNat)
      case atStart => exact ⟨0, 0, [], rfl, by omega, World.ownsRow_nil _ _ _ _, Below.refl _ _, by simp, rfl, .inl rfl, hs1⟩
      case round =>
        obtain ⟨k, at_, acc, rfl, hat, hown, hbel, hrel⟩ := hrel
        have hlen := hrel.len
        have hwr := hbel.size
        have hk := hlen.2.2
        have HB := Lib.hid hbel
        have HR := Lib.hid hrel
        have HO := Lib.hid hown
        have HL := Lib.hid hlen
        clear hbel hrel hown hlen
        by_cases hlt : at_ < data.length
        · have HR1 := Lib.hid (HR.out.next hlt)
          obtain ⟨T, hT⟩ : ∃ T, T = (data.drop at_).take sz := ⟨_, rfl⟩
          have hsl : ∃ hi : Nat, (⟨data.toArray⟩ : ByteArray).extract at_ hi = ⟨T.toArray⟩ ∧ (hi = at_ + sz ∧ at_ + sz ≤ data.length ∨ hi = data.length ∧ data.length < at_ + sz) := by
            by_cases hh : at_ + sz ≤ data.length
            · exact ⟨at_ + sz, by rw [ex_mid, hT, Nat.add_sub_cancel_left], .inl ⟨rfl, hh⟩⟩
            · exact ⟨data.length, by rw [ex_mid, hT, List.take_of_length_le (by simp), List.take_of_length_le (by simp; omega)], .inr ⟨rfl, by omega⟩⟩
          have HT := Lib.hid hT
          clear hT
          obtain ⟨hi_, hsl, hh⟩ := hsl
          have hpart : part id data sz at_ = ⟨2, id, at_, data.length, [], T⟩ := by rw [HT.out]; rfl
          rw [hpart] at HR1
          clear hpart
          rcases hh with ⟨rfl, hh⟩ | ⟨rfl, hh⟩
          all_goals
            go_wp2_with (at_builtin; refine wpList_append_own _ rfl _ _ 23 rfl w.heap.size 34 i0 (.agg #[.int .i64 0, .int .i64 0, .int .i64 0, .int .i64 0, .slice none 0 0, .string ⟨#[]⟩]) 6 72 Try.underlying23 hi hz0 hz1 hz2 rfl (by decide) _ _ _ rfl (HO.out.alloc _) ⟨wr.heap.size, 0, none⟩ 1 1 [.int .i64 2, .int .i64 id, .int .i64 at_, .int .i64 data.length, .slice none 0 0, .string ⟨T.toArray⟩] rfl rfl (alloc1_msg wr 2 id at_ data.length 0 0 none ⟨T.toArray⟩) ?_ ?_ ?_ ?_ ?_)
            iterate 4 rotate_left
            intro v' w2 hown2 hgrow _
            have HB2 := Lib.hid ((HB.out.alloc (by omega) (.cells #[.int .i64 2, .int .i64 id, .int .i64 at_, .int .i64 data.length, .slice none 0 0, .string ⟨T.toArray⟩] 34)).grown hgrow (by simp; omega) (fun k hk => (HO.out.lt k hk).1))
            have HO2 := Lib.hid hown2
            clear hown2 hgrow
            go_wp2_with fail
            go_roundw
            case rel =>
              refine ⟨k + 1, at_ + sz, _, by go_num, by omega, ?_, HB2.out, HR1.out⟩
              rw [List.map_append, mcells_append]; exact HO2.out
            case measure => simp [intOf]; omega
          all_goals first
            | (intro u hu; simp at hu; rcases hu with rfl | rfl | rfl | rfl | rfl | rfl <;> rfl)
            | (unfold maxLen; omega)
            | omega
            | (simp; omega)
        · have HP := Lib.hid (HR.out.fin (by omega))
          have HK := Lib.hid HL.out.1
          obtain ⟨av, cv, rfl, hcap⟩ := ownsRow_sliceN HO.out
          go_wp2_with fail
          go_ret2
          rw [HF.out]
          refine ⟨av, cv, ?_, ?_, HB.out, ?_⟩
          · rw [← HP.out, HK.out]; rfl
          · rw [← HP.out]
            have h1 := ownsRow_msgs (l := acc.map fun m => (m, none, 0)) (a := av) (cap := cv) (base := w.heap.size) (by rw [List.length_map, HK.out]; exact HO.out) (by
              intro x hx
              obtain ⟨m, hm, rfl⟩ := List.mem_map.1 hx
              have hm0 : m.ds = [] := by rw [HP.out] at hm; obtain ⟨i, _, rfl⟩ := List.mem_map.1 hm; rfl
              show Digs _ _ none m.ds
              rw [hm0]; exact Digs.nil _ _ _)
            rw [List.map_map] at h1
            have h2 : acc.map (Prod.fst ∘ fun m => ((m, none, 0) : MA)) = acc := List.map_id acc
            rwa [h2] at h1
          · show (parts id data sz).length ≤ cv
            rw [← HP.out, HK.out]; exact hcap

set_option maxHeartbeats 2000000 in
set_option maxRecDepth 100000 in
theorem refSplit_any (id : Int) (data : List UInt8) (size : Int) (w : World) (hd : (data.length : Int) ≤ 140737488355328) :
    Calls Try.prog 13 #[.int .i64 id, .string ⟨data.toArray⟩, .int .i64 size] w (GotMs w (splitS id data size).1 (splitS id data size).2) := by
  obtain ⟨i0, hi, hz0, hz1, hz2⟩ := info_parts infoMsg
  obtain ⟨R, hR⟩ : ∃ R, R = splitS id data size := ⟨_, rfl⟩
  rw [← hR]
  by_cases hb : id < 0 ∨ 1099511627776 < id ∨ size < 1 ∨ 65536 < size
  · have HF : Hid (R = ([], 2)) := Lib.hid (by rw [hR]; unfold splitS; rw [if_pos hb])
    clear hR
    go_enter Try.func13, Try.ntmps13
    go_wp2_with fail
    all_goals first
      | (exfalso; omega)
      | (go_ret2; exact GotMs.none HF.out)
  · by_cases hl : (1048576 : Int) < data.length
    · have HF : Hid (R = ([], 4)) := Lib.hid (by rw [hR]; unfold splitS; rw [if_neg hb, if_pos (by omega)])
      clear hR
      have d1 : decide (id < 0) = false := by simp; omega
      have d2 : decide (1099511627776 < id) = false := by simp; omega
      have d3 : decide (size < 1) = false := by simp; omega
      have d4 : decide (65536 < size) = false := by simp; omega
      clear hb
      go_enter Try.func13, Try.ntmps13
      go_wp2_with fail
      go_ret2
      exact GotMs.none HF.out
    · have HF : Hid (R = (parts id data size.toNat, 0)) := Lib.hid (by rw [hR]; unfold splitS; rw [if_neg hb, if_neg (by omega)])
      clear hR
      have d1 : decide (id < 0) = false := by simp; omega
      have d2 : decide (1099511627776 < id) = false := by simp; omega
      have d3 : decide (size < 1) = false := by simp; omega
      have d4 : decide (65536 < size) = false := by simp; omega
      obtain ⟨sz, rfl⟩ : ∃ sz : Nat, size = (sz : Int) := ⟨size.toNat, by omega⟩
      rw [Int.toNat_natCast] at HF
      have hs1 : 1 ≤ sz := by omega
      have hs2 : sz ≤ 65536 := by omega
      clear hb
      go_enter Try.func13, Try.ntmps13
      go_wp2_with fail
      go_loopw [8, 9] (fun v i wr => ∃ (k at_ : Nat) (acc : List Msg), i = .int .i64 at_ ∧ at_ ≤ data.length + 65536 ∧ wr.ownsRow w.heap.size 34 6 v k (mcells (acc.map fun m => (m, none, 0))) ∧ Below w.heap.size w wr ∧ SRel id data sz k at_ acc) (fun _ i _ => data.length - (intOf i).toNat)
      case atStart => exact ⟨0, 0, [], rfl, by omega, World.ownsRow_nil _ _ _ _, Below.refl _ _, by simp, rfl, .inl rfl, hs1⟩
      case round =>
        obtain ⟨k, at_, acc, rfl, hat, hown, hbel, hrel⟩ := hrel
        have hlen := hrel.len
        have hwr := hbel.size
        have hk := hlen.2.2
        have HB := Lib.hid hbel
        have HR := Lib.hid hrel
        have HO := Lib.hid hown
        have HL := Lib.hid hlen
        clear hbel hrel hown hlen
        by_cases hlt : at_ < data.length
        · have HR1 := Lib.hid (HR.out.next hlt)
          obtain ⟨T, hT⟩ : ∃ T, T = (data.drop at_).take sz := ⟨_, rfl⟩
          have hsl : ∃ hi : Nat, (⟨data.toArray⟩ : ByteArray).extract at_ hi = ⟨T.toArray⟩ ∧ (hi = at_ + sz ∧ at_ + sz ≤ data.length ∨ hi = data.length ∧ data.length < at_ + sz) := by
            by_cases hh : at_ + sz ≤ data.length
            · exact ⟨at_ + sz, by rw [ex_mid, hT, Nat.add_sub_cancel_left], .inl ⟨rfl, hh⟩⟩
            · exact ⟨data.length, by rw [ex_mid, hT, List.take_of_length_le (by simp), List.take_of_length_le (by simp; omega)], .inr ⟨rfl, by omega⟩⟩
          have HT := Lib.hid hT
          clear hT
          obtain ⟨hi_, hsl, hh⟩ := hsl
          have hpart : part id data sz at_ = ⟨2, id, at_, data.length, [], T⟩ := by rw [HT.out]; rfl
          rw [hpart] at HR1
          clear hpart
          rcases hh with ⟨rfl, hh⟩ | ⟨rfl, hh⟩
          all_goals
            go_wp2_with (at_builtin; refine wpList_append_own _ rfl _ _ 23 rfl w.heap.size 34 i0 (.agg #[.int .i64 0, .int .i64 0, .int .i64 0, .int .i64 0, .slice none 0 0, .string ⟨#[]⟩]) 6 72 Try.underlying23 hi hz0 hz1 hz2 rfl (by decide) _ _ _ rfl (HO.out.alloc _) ⟨wr.heap.size, 0, none⟩ 1 1 [.int .i64 2, .int .i64 id, .int .i64 at_, .int .i64 data.length, .slice none 0 0, .string ⟨T.toArray⟩] rfl rfl (alloc1_msg wr 2 id at_ data.length 0 0 none ⟨T.toArray⟩) ?_ ?_ ?_ ?_ ?_)
            iterate 4 rotate_left
            intro v' w2 hown2 hgrow _
            have HB2 := Lib.hid ((HB.out.alloc (by omega) (.cells #[.int .i64 2, .int .i64 id, .int .i64 at_, .int .i64 data.length, .slice none 0 0, .string ⟨T.toArray⟩] 34)).grown hgrow (by simp; omega) (fun k hk => (HO.out.lt k hk).1))
            have HO2 := Lib.hid hown2
            clear hown2 hgrow
            go_wp2_with fail
            go_roundw
            case rel =>
              refine ⟨k + 1, at_ + sz, _, by go_num, by omega, ?_, HB2.out, HR1.out⟩
              rw [List.map_append, mcells_append]; exact HO2.out
            case measure => simp [intOf]; omega
          all_goals first
            | (intro u hu; simp at hu; rcases hu with rfl | rfl | rfl | rfl | rfl | rfl <;> rfl)
            | (unfold maxLen; omega)
            | omega
            | (simp; omega)
        · have HP := Lib.hid (HR.out.fin (by omega))
          have HK := Lib.hid HL.out.1
          obtain ⟨av, cv, rfl, hcap⟩ := ownsRow_sliceN HO.out
          go_wp2_with fail
          go_ret2
          rw [HF.out]
          refine ⟨av, cv, ?_, ?_, HB.out, ?_⟩
          · rw [← HP.out, HK.out]; rfl
          · rw [← HP.out]
            have h1 := ownsRow_msgs (l := acc.map fun m => (m, none, 0)) (a := av) (cap := cv) (base := w.heap.size) (by rw [List.length_map, HK.out]; exact HO.out) (by
              intro x hx
              obtain ⟨m, hm, rfl⟩ := List.mem_map.1 hx
              have hm0 : m.ds = [] := by rw [HP.out] at hm; obtain ⟨i, _, rfl⟩ := List.mem_map.1 hm; rfl
              show Digs _ _ none m.ds
              rw [hm0]; exact Digs.nil _ _ _)
            rw [List.map_map] at h1
            have h2 : acc.map (Prod.fst ∘ fun m => ((m, none, 0) : MA)) = acc := List.map_id acc
            rwa [h2] at h1
          · show (parts id data sz).length ≤ cv
            rw [← HP.out, HK.out]; exact hcap

end Go.Proofs.Ytlijaacjfnjmjaa
