/- codec.writeInt. -/
import Derived.Test.YtlfodnehgedpmaaWDigits
namespace Go.Proofs.Ytlfodnehgedpmaa
open Go.RowKit Go.Shelf
attribute [local go_sem] Oper.semAt_some

/-- A builder abides a turn of a block that holds no cells. -/
theorem bldF_put {T e : TypeId} {B b : Nat} {bs : List Value} {W : World} {l : Nat} {o o' : Obj} (h : Lib.IsBuilderF T e B b bs W) (hl : W.heap[l]? = some o) (ho : o.isCells = false) :
    Lib.IsBuilderF T e B b bs (W.putObj l o') := by
  have key : ∀ p, Lib.BuilderAtF T e B b p bs W → Lib.BuilderAtF T e B b p bs (W.putObj l o') := by
    rintro p ⟨hB, v, hbk, hown, hne⟩
    have hbl : b ≠ l := by
      intro e1; subst e1; rw [hbk] at hl; cases hl; cases ho
    refine ⟨hB, v, (World.putObj_heap_other hbl).trans hbk, hown.kept (grownBy_putObj' W l o') ?_, hne⟩
    refine Or.inr (fun e1 => ?_)
    obtain ⟨c, fz, hc⟩ := Lib.ownsRowF_kind hown l e1
    rw [hc] at hl; cases hl; cases ho
  exact h.elim (fun x => .inl (key _ x)) (fun x => .inr (key _ x))

/-- A builder abides a store into a block that is neither its own nor a row of bytes. -/
theorem bldF_set {T e : TypeId} {B b : Nat} {bs : List Value} {W : World} {k : Nat} {cs : Array Value} {t : TypeId} {fz : Nat × Nat} (h : Lib.IsBuilderF T e B b bs W) (hk : W.heap[k]? = some (.cells cs t fz)) (hkb : k ≠ b) (ht : t ≠ e) (v : Value) :
    Lib.IsBuilderF T e B b bs (W.setCell ⟨k, 0, none⟩ v) := by
  have key : ∀ p, Lib.BuilderAtF T e B b p bs W → Lib.BuilderAtF T e B b p bs (W.setCell ⟨k, 0, none⟩ v) := by
    rintro p ⟨hB, x, hbk, hown, hne⟩
    refine ⟨hB, x, (Below.heap_setCell W _ v b (fun e1 => hkb e1.symm)).trans hbk, hown.kept (row := some k) ⟨rfl, rfl, rfl, by simp [World.setCell], fun j _ hj => Below.heap_setCell _ _ _ _ (fun e1 => hj (by simp [e1]))⟩ ?_, hne⟩
    refine Or.inr (fun e1 => ?_)
    obtain ⟨c, fz', hc⟩ := Lib.ownsRowF_kind hown k e1
    rw [hc] at hk; cases hk; exact ht rfl
  exact h.elim (fun x => .inl (key _ x)) (fun x => .inr (key _ x))

theorem bldF_lt {T e : TypeId} {B b : Nat} {bs : List Value} {W : World} (h : Lib.IsBuilderF T e B b bs W) : b < W.heap.size := h.elim (·.lt) (·.lt)
theorem bldF_le {T e : TypeId} {B b : Nat} {bs : List Value} {W : World} (h : Lib.IsBuilderF T e B b bs W) : B ≤ b := h.elim (·.1) (·.1)

/-- The invariant of writeInt's loop. -/
structure WInv (w : World) (B b : Nat) (bs : List Value) (pre : List Int) (W : World) : Prop where
  bld : Lib.IsBuilderF 112 5 B b (bs ++ pre.map (Value.int .u8)) W
  below : Below B w W
  kept : Kept b w W
  par : W.heap[w.heap.size]? = some (.cells #[.pointer (some ⟨b, 0, none⟩)] 110 (0, 0))
  box : ∃ v, W.heap[w.heap.size + 1]? = some (.cells #[v] 3 (0, 0))

theorem WInv.putObj {w W : World} {B b : Nat} {bs : List Value} {pre : List Int} (h : WInv w B b bs pre W) (hBw : B ≤ w.heap.size) {l : Nat} {o : Obj} (o' : Obj) (hl : w.heap.size ≤ l) (ho : W.heap[l]? = some o) (hc : o.isCells = false) : WInv w B b bs pre (W.putObj l o') := by
  have h1 : w.heap.size ≠ l := by intro e; rw [← e, h.par] at ho; cases ho; cases hc
  have h2 : w.heap.size + 1 ≠ l := by
    intro e; obtain ⟨v, hv⟩ := h.box; rw [← e, hv] at ho; cases ho; cases hc
  refine ⟨bldF_put h.bld ho hc, ?_, ?_, (World.putObj_heap_other h1).trans h.par, ?_⟩
  · exact h.below.trans ⟨rfl, rfl, rfl, by simp, fun k hk => World.putObj_heap_other (by omega)⟩
  · intro k x hk hb hx
    have := (Array.getElem?_eq_some_iff.1 hk).1
    exact (World.putObj_heap_other (by omega)).trans (h.kept k x hk hb hx)
  · obtain ⟨v, hv⟩ := h.box
    exact ⟨v, (World.putObj_heap_other h2).trans hv⟩

theorem WInv.alloc {w W : World} {B b : Nat} {bs : List Value} {pre : List Int} (h : WInv w B b bs pre W) (hBw : B ≤ w.heap.size) (o : Obj) : WInv w B b bs pre (W.alloc o) := by
  refine ⟨h.bld.alloc o, h.below.alloc (Nat.le_trans hBw h.below.size) o, h.kept.alloc o, ?_, ?_⟩
  · exact (Below.heap_alloc W o _ (Array.getElem?_eq_some_iff.1 h.par).1).trans h.par
  · obtain ⟨v, hv⟩ := h.box
    exact ⟨v, (Below.heap_alloc W o _ (Array.getElem?_eq_some_iff.1 hv).1).trans hv⟩

theorem WInv.set {w W : World} {B b : Nat} {bs : List Value} {pre : List Int} (h : WInv w B b bs pre W) (hBw : B ≤ w.heap.size) (hb : b < w.heap.size) (v : Value) : WInv w B b bs pre (W.setCell ⟨w.heap.size + 1, 0, none⟩ v) := by
  obtain ⟨v0, hv0⟩ := h.box
  refine ⟨bldF_set h.bld hv0 (by omega) (by decide) v, h.below.setCell (p := ⟨w.heap.size + 1, 0, none⟩) (by simp; omega) v, ?_, ?_, ?_⟩
  · intro k x hk hb' hx
    have := (Array.getElem?_eq_some_iff.1 hk).1
    exact (Below.heap_setCell W _ v k (by simp; omega)).trans (h.kept k x hk hb' hx)
  · exact (Below.heap_setCell W _ v _ (by simp)).trans h.par
  · exact ⟨v, by simp [World.setCell, Array.getElem?_modify, hv0]⟩

set_option maxRecDepth 100000 in
set_option maxHeartbeats 1000000 in
theorem writeInt_k (B b : Nat) (bs : List Value) (n : Int) (w : World) (h : Lib.IsBuilderF 112 5 B b bs w) (h0 : 0 ≤ n) (h1 : n ≤ 140737488355328) (hlen : bs.length + 10 ≤ 140737488355328) (hBw : B ≤ w.heap.size) :
    Calls Try.prog 61 #[.pointer (some ⟨b, 0, none⟩), .int .i64 n] w fun e w' => e = .returned (.tuple #[]) ∧ (Lib.IsBuilderF 112 5 B b (bs ++ Lib.byteCells (Cw.enc n.toNat)) w' ∧ Below B w w' ∧ Kept b w w') := by
  have hbw := bldF_lt h
  refine (callsIn_wide (n := 5)).1 ?_
  refine callsIn_of_wp_marks Try.func61 rfl trivial ?_ rfl
  simp only [Try.ntmps61, List.size_toArray, List.length_cons, List.length_nil, Nat.reduceAdd, Nat.reduceSub, Array.replicate_succ, Array.replicate_zero, List.push_toArray, List.append_toArray, List.nil_append, List.cons_append]
  have HH := Lib.hid h
  have HL := Lib.hid hlen
  clear h hlen
  gi_wp2_with (refine ⟨trivial, ?_⟩; gi_at_call 73; refine (callsIn_wide.2 (digits_any _ _)).mono ?_; rintro e w' ⟨rfl, rfl⟩)
  have hI0 : WInv w B b bs [] ((w.alloc (.cells #[.pointer (some ⟨b, 0, none⟩)] 110)).alloc (.cells #[.int .i64 n] 3)) := by
    refine ⟨by simpa using (HH.out.alloc _).alloc _, ((Below.refl B w).alloc hBw _).alloc (by simp; omega) _, ((Lib.OthersKept.refl _ _ w).alloc _).alloc _, ?_, ⟨.int .i64 n, ?_⟩⟩
    · exact (Below.heap_alloc _ _ _ (by simp)).trans (World.alloc_heap_new w _)
    · have := World.alloc_heap_new (w.alloc (.cells #[.pointer (some ⟨b, 0, none⟩)] 110)) (.cells #[.int .i64 n] 3)
      rwa [World.size_alloc] at this
  have hbx : NBox (w.heap.size + 1) n ((w.alloc (.cells #[.pointer (some ⟨b, 0, none⟩)] 110)).alloc (.cells #[.int .i64 n] 3)) := by
    have := World.alloc_heap_new (w.alloc (.cells #[.pointer (some ⟨b, 0, none⟩)] 110)) (.cells #[.int .i64 n] 3)
    rwa [World.size_alloc] at this
  have hsz : ((w.alloc (.cells #[.pointer (some ⟨b, 0, none⟩)] 110)).alloc (.cells #[.int .i64 n] 3)).heap.size = w.heap.size + 2 := by simp
  refine wpIn_rangeFunc_all (α := Int) (gf := 77) (lb := #[.pointer (some ⟨w.heap.size + 1, 0, none⟩)]) (enc := fun x => .int .u8 x) (ok := okD) (bn := w.heap.size + 1) (bo := .cells #[.int .i64 n] 3 (0, 0)) (xs := encZ 10 n)
    rfl (by omega) rfl trivial (enters_of Try.func77 (by kernel_rfl) rfl)
    (fun l J hJs hY W hb hJ => digits1_in Fence.wide 4 trivial rfl (by omega) l (w.heap.size + 1) J hJs hY n 9 (by omega) h0 h1 (EncFits.ten h1) W hb hJ)
    rfl (by rw [hsz]; omega) hbx (WInv w B b bs)
    (fun s W l o o' hl ho hc hi => hi.putObj hBw o' (by rw [hsz] at hl; omega) ho hc)
    (fun s W o hi => hi.alloc hBw o) (fun s W v hi => hi.set hBw hbw v) hI0
    (fun x => { tmps := #[.pointer (some ⟨b, 0, none⟩), .int .i64 n, .pointer (some ⟨w.heap.size, 0, none⟩), undef, .int .u8 x, .int .i64 n, .func (.func 77) #[] #[.pointer (some ⟨w.heap.size + 1, 0, none⟩)], .int .u8 x, undef, undef, undef], defers := [] }) ?assign ?body ?done
  case assign =>
    intro l x W K hK
    gi_wp2
    exact hK
  case body =>
    rintro l pre x W hl hok hi
    have hpar : W.cell? ⟨w.heap.size, 0, none⟩ = some (.pointer (some ⟨b, 0, none⟩)) := by rw [Lib.cell_of_heap hi.par]; rfl
    have hWB : B ≤ W.heap.size := Nat.le_trans hBw hi.below.size
    have HC : Hid ((bs ++ pre.map (Value.int .u8)).length + 1 ≤ 140737488355328) := Lib.hid (by have := hok.2.2; have := HL.out; simp; omega)
    gi_wp2_with (refine ⟨trivial, ?_⟩; gi_at_call 74; refine (CallsIn.inRound l (callsIn_wide.2 (writeByte_k B b _ _ _ hi.bld HC.out hWB))).mono ?_; rintro e W' ⟨rfl, h2, hb2, hk2⟩)
    gi_wp2
    obtain ⟨v, hv⟩ := hi.box
    refine ⟨⟨hb2.size, fun k o hk hc => ?_⟩, ?_, ?_⟩
    · refine hk2 k o hk ?_ ?_
      · intro e1; cases e1
        exact (hi.bld.elim (fun x => by obtain ⟨_, _, hbk, _⟩ := x; rw [hbk] at hk; cases hk; cases hc) (fun x => by obtain ⟨_, _, hbk, _⟩ := x; rw [hbk] at hk; cases hk; cases hc))
      · intro c fz e1; subst e1; cases hc
    · rw [hk2 _ _ hv (fun e1 => by cases e1; omega) (fun c fz e1 => by cases e1), hv]
    · refine ⟨Or.inr (by simpa using h2), hi.below.trans hb2, hi.kept.trans hk2, hk2 _ _ hi.par (fun e1 => by cases e1; omega) (fun c fz e1 => by cases e1), ⟨v, hk2 _ _ hv (fun e1 => by cases e1; omega) (fun c fz e1 => by cases e1)⟩⟩
  case done =>
    rintro D W hD hi hK
    gi_wp2
    rw [hsz] at hD
    have hi' := hi.putObj hBw (.deferred none) (by omega) hK rfl
    refine ⟨by simp, .inl ⟨_, _, rfl, run_takeDeferred hK, ?_⟩⟩
    refine ⟨_, results_none rfl _ _ _, rfl, ?_, hi'.below, hi'.kept⟩
    have := hi'.bld
    rwa [encZ_bytes 10 n h0] at this

end Go.Proofs.Ytlfodnehgedpmaa
