/- wire.writer, wire.body. -/
import Derived.Test.YtlijaacjfnjmjaaWireScW
import Derived.Deep.RegionLaw
namespace Go.Proofs.Ytlijaacjfnjmjaa
open Go.RowKit Go.Shelf
set_option linter.unusedVariables false

/-- So many bytes of a number, the greatest first. -/
def be : Nat → Int → List UInt8
  | 0, _ => []
  | k + 1, n => UInt8.ofNat ((n / 2 ^ (8 * k)) % 256).toNat :: be k n
theorem be_length : ∀ (k : Nat) (n : Int), (be k n).length = k
  | 0, _ => rfl
  | k + 1, n => by rw [be, List.length_cons, be_length]
theorem cell_byte (x : Int) (h0 : 0 ≤ x) (h1 : x < 256) : Lib.byteCells [UInt8.ofNat x.toNat] = [Value.int .u8 x] := by
  simp [Lib.byteCells]
  omega

set_option maxRecDepth 100000 in
set_option maxHeartbeats 1000000 in
theorem writer1_k (B b x : Nat) (l : List UInt8) (n : Int) (k : Nat) (w : World) (h : Lib.IsBuilderF 80 5 B b (Lib.byteCells l) w) (hx : w.heap[x]? = some (.cells #[.pointer (some ⟨b, 0, none⟩)] 78 (0, 0))) (hxb : x ≠ b) (hk : k ≤ 8) (hn : 0 ≤ n) (hl : (l.length : Int) ≤ 70000000000000) (hBw : B ≤ w.heap.size) :
    Calls Try.prog 61 #[.int .u64 n, .int .i64 k, .pointer (some ⟨x, 0, none⟩)] w fun e w' => e = .returned (.tuple #[]) ∧ (Lib.IsBuilderF 80 5 B b (Lib.byteCells (l ++ be k n)) w' ∧ Below B w w' ∧ Kept b w w') := by
  have HX := Lib.hid hx
  have HI := Lib.hid h
  clear hx h
  go_enter Try.func61, Try.ntmps61
  go_wp2_with fail
  go_loopw [5] (fun i wr => ∃ (j : Nat) (p : List UInt8), j ≤ k ∧ i = .int .i64 ((j : Int) - 1) ∧ p.length + j = k ∧ Hid (p ++ be j n = be k n) ∧ Hid (Lib.IsBuilderF 80 5 B b (Lib.byteCells (l ++ p)) wr) ∧ Hid (Below B w wr) ∧ Hid (Kept b w wr)) (fun i _ => (intOf i + 1).toNat)
  case atStart => exact ⟨k, [], by omega, rfl, by simp, Lib.hid rfl, by rw [List.append_nil]; exact HI, Lib.hid (Below.refl _ _), Lib.hid (Lib.OthersKept.refl _ _ _)⟩
  case round =>
    obtain ⟨j, p, hj, rfl, hp, HP, HB, HL, HK⟩ := hrel
    cases j with
    | zero =>
      go_wp2_with fail
      go_end0
      rw [← HP.out]
      simp only [be, List.append_nil]
      exact ⟨trivial, HB.out, HL.out, HK.out⟩
    | succ i =>
      have hi : ((i + 1 : Nat) : Int) - 1 = (i : Int) := by omega
      rw [hi]
      have hxc : wr.cell? ⟨x, 0, none⟩ = some (.pointer (some ⟨b, 0, none⟩)) := by
        rw [Lib.cell_of_heap (HK.out x _ HX.out (fun e => hxb (Option.some.inj e)) (fun c fz e => by cases e))]; rfl
      obtain ⟨z, hz⟩ : ∃ z, z = n / 2 ^ (8 * i) := ⟨_, rfl⟩
      have hw8 : IntKind.i64.wrap (8 * (i : Int)) = 8 * (i : Int) := wrap_i64 (by omega) (by omega)
      have hsh : n / 2 ^ (8 * (i : Int)).toNat = z := by
        rw [hz]
        congr 2
      obtain ⟨c, hc⟩ : ∃ c, c = z % 256 := ⟨_, rfl⟩
      have hcv : IntKind.u8.wrap z = c := by rw [hc]; simp [IntKind.wrap, IntKind.bits, IntKind.signed]
      have hc0 : 0 ≤ c := by omega
      have hc1 : c < 256 := by omega
      have HP2 : Hid ((p ++ [UInt8.ofNat c.toNat]) ++ be i n = be k n) := Lib.hid (by rw [← HP.out, be, ← hz, ← hc, List.append_assoc]; rfl)
      have hBs := HL.out.size
      have HWB := Lib.hid (fun W hW1 hW2 => writeByte_k B b (Lib.byteCells (l ++ p)) c W hW1 (by rw [Lib.byteCells_length, List.length_append]; omega) hW2)
      have HBD : Hid (Lib.IsBuilderF 80 5 B b (Lib.byteCells (l ++ p)) wr.drew) := HB
      have HWD := Lib.hid (HWB.out wr.drew HBD.out (by show B ≤ wr.heap.size; omega))
      clear hc hz HP HX
      go_wp2_with fail
      go_region_law (first | (go_simp; (with_reducible refine HWD.out.mono ?_); rintro e w1 ⟨rfl, hb1, hl1, hk1⟩) | fail)
      have HB1 : Hid (Lib.IsBuilderF 80 5 B b (Lib.byteCells (l ++ (p ++ [UInt8.ofNat c.toNat]))) w1) := Lib.hid (by
        rw [← List.append_assoc, byteCells_append, cell_byte c hc0 hc1]
        exact .inr hb1)
      have HL1 : Hid (Below B w w1) := Lib.hid (HL.out.drew.trans hl1)
      have HK1 : Hid (Kept b w w1) := Lib.hid (HK.out.drew.trans hk1)
      clear hb1 hl1 hk1
      go_wp2_with fail
      go_roundw
      case rel => exact ⟨i, p ++ [UInt8.ofNat c.toNat], by omega, rfl, by simp; omega, HP2, HB1, HL1, HK1⟩
      case measure => simp [intOf]

/-- A builder, and all that was there when it began. -/
structure BW (w w0 : World) (b : Nat) (l : List UInt8) (wr : World) : Prop where
  bld : Lib.IsBuilderF 80 5 w.heap.size b (Lib.byteCells l) wr
  bel : Below w.heap.size w wr
  kept : Kept b w0 wr
theorem bldF_below {T e : TypeId} {B b : Nat} {bs : List Value} {W X : World} (h : Lib.IsBuilderF T e B b bs W) (hb : Below W.heap.size W X) : Lib.IsBuilderF T e B b bs X := by
  have key : ∀ p, Lib.BuilderAtF T e B b p bs W → Lib.BuilderAtF T e B b p bs X := by
    rintro p ⟨hB, v, hbk, hown, hne⟩
    refine ⟨hB, v, (hb.block b (Array.getElem?_eq_some_iff.1 hbk).1).trans hbk, hown.kept (row := none) ⟨hb.os, hb.tape, hb.output, hb.size, fun k hk _ => hb.block k hk⟩ ?_, hne⟩
    cases h2 : v.ownBlock with
    | none => exact .inl rfl
    | some k => exact .inr (by simp)
  exact h.elim (fun x => .inl (key _ x)) (fun x => .inr (key _ x))
theorem kept_below {b : Nat} {w W X : World} (h : Kept b w W) (hb : Below W.heap.size W X) : Kept b w X := fun k o hk hkb ho => by
  have h1 := h k o hk hkb ho
  exact (hb.block k (Array.getElem?_eq_some_iff.1 h1).1).trans h1
theorem BW.below {w w0 wr x : World} {b : Nat} {l : List UInt8} (h : BW w w0 b l wr) (hb : Below wr.heap.size wr x) : BW w w0 b l x :=
  ⟨bldF_below h.bld hb, h.bel.trans (hb.mono h.bel.size), kept_below h.kept hb⟩
theorem BW.wrote {w w0 wr x : World} {b : Nat} {l l' : List UInt8} (h : BW w w0 b l wr) (h1 : Lib.IsBuilderF 80 5 w.heap.size b (Lib.byteCells l') x) (h2 : Below w.heap.size wr x) (h3 : Kept b wr x) : BW w w0 b l' x :=
  ⟨h1, h.bel.trans h2, h.kept.trans h3⟩
theorem BW.block {w w0 wr : World} {b : Nat} {l : List UInt8} (h : BW w w0 b l wr) {k : Nat} {cs : Array Value} {t : TypeId} {fz : Nat × Nat} (hk : w0.heap[k]? = some (.cells cs t fz)) (hkb : k ≠ b) (ht : t ≠ 5) : wr.heap[k]? = some (.cells cs t fz) :=
  h.kept k _ hk (fun e => hkb (Option.some.inj e)) (fun c f e => by cases e; exact ht rfl)

/-- The body of a message. -/
def bodyD (ds : List (Int × Int)) : List UInt8 := ds.flatMap fun d => be 8 d.1 ++ be 8 d.2
def bodyN (ns : List Int) : List UInt8 := ns.flatMap fun n => Cw.enc n.toNat
def bodyS (m : Msg) : List UInt8 := bodyN [m.kind, m.id, m.off, m.tot, m.ds.length] ++ (bodyD m.ds ++ (Cw.enc m.data.length ++ m.data))
theorem bodyD_length : ∀ (ds : List (Int × Int)), (bodyD ds).length = 16 * ds.length
  | [] => rfl
  | d :: ds => by
    have := bodyD_length ds
    rw [bodyD, List.flatMap_cons, List.length_append, List.length_append, be_length, be_length]
    rw [bodyD] at this
    rw [this, List.length_cons]
    omega
theorem bodyN_length : ∀ (ns : List Int), (bodyN ns).length ≤ 10 * ns.length
  | [] => by simp [bodyN]
  | n :: ns => by
    have := bodyN_length ns
    have h1 := enc_length n.toNat
    rw [bodyN, List.flatMap_cons, List.length_append, List.length_cons]
    rw [bodyN] at this
    omega

theorem writer_any (b : Nat) (w : World) : Calls Try.prog 43 #[.pointer (some ⟨b, 0, none⟩)] w fun e w' => e = .returned (.func (.func 61) #[] #[.pointer (some ⟨w.heap.size, 0, none⟩)]) ∧ w.alloc (.cells #[.pointer (some ⟨b, 0, none⟩)] 78) = w' := by
  go_enter Try.func43, Try.ntmps43
  go_wp2_with fail
  go_ret
  exact ⟨rfl, rfl⟩

end Go.Proofs.Ytlijaacjfnjmjaa
