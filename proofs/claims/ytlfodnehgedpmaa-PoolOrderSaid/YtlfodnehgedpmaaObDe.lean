/- object.Decode. -/
import Derived.Test.YtlfodnehgedpmaaObCx
namespace Go.Proofs.Ytlfodnehgedpmaa
open Go.RowKit Go.Shelf
set_option linter.unusedVariables false

theorem rStr_le (r : RS) : (rStr r).1.length ≤ 65536 := by
  obtain ⟨n, u, er, hg⟩ : ∃ n u er, Cw.getT r.1 = (n, u, er) := ⟨_, _, _, rfl⟩
  have := getT_all hg
  unfold rStr
  rw [hg]
  exact this.2.2
theorem rDig_nn (r : RS) : 0 ≤ (rDig r).1.1 ∧ 0 ≤ (rDig r).1.2 := by
  unfold rDig
  split
  · simp
  · exact ⟨(fixS_range _ (by rw [List.length_take]; omega)).1, (fixS_range _ (by rw [List.length_take]; omega)).1⟩
theorem rList_all {α : Type} {get : RS → α × RS} {P : α → Prop} (h : ∀ r, P (get r).1) : ∀ (n : Nat) (r : RS), (rList get n r).1.length ≤ n ∧ ∀ x ∈ (rList get n r).1, P x
  | 0, r => by simp [rList]
  | n + 1, r => by
    rw [rList]
    split
    · simp
    · have := rList_all h n (get r).2
      refine ⟨by simp only [List.length_cons]; omega, fun x hx => ?_⟩
      rcases List.mem_cons.1 hx with rfl | hx
      · exact h r
      · exact this.2 x hx
theorem rMany_all {α : Type} {get : RS → α × RS} {P : α → Prop} (h : ∀ r, P (get r).1) (most : Int) (hm : 0 ≤ most) (r : RS) : ((rMany get most r).1.length : Int) ≤ most ∧ ∀ x ∈ (rMany get most r).1, P x := by
  unfold rMany
  refine ⟨?_, (rList_all h _ _).2⟩
  have h1 := (rList_all h (rMost most r).1.toNat (rMost most r).2).1
  by_cases hb : (rMost most r).2.2 = true
  · cases hn : (rMost most r).1.toNat with
    | zero => simp [rList]; exact hm
    | succ n => rw [rList, if_pos hb]; simpa using hm
  · have : ¬ most < (rMost most r).1 := by
      intro h
      apply hb
      unfold rMost at h ⊢
      simp only at h ⊢
      simp [h]
    omega
/-- The bounds of an object that was read. -/
structure ObB (o : Ob) : Prop where
  elen : (o.ents.length : Int) ≤ 1000
  enam : ∀ e ∈ o.ents, (e.name.length : Int) ≤ 65536
  edig : ∀ e ∈ o.ents, 0 ≤ e.d.1 ∧ 0 ≤ e.d.2
  plen : (o.pars.length : Int) ≤ 1000
  pdig : ∀ d ∈ o.pars, 0 ≤ d.1 ∧ 0 ≤ d.2
  tdig : 0 ≤ o.tree.1 ∧ 0 ≤ o.tree.2
  dlen : o.data.length ≤ 65536
  alen : (o.author.length : Int) ≤ 65536
  mlen : (o.msg.length : Int) ≤ 65536
theorem readO_b (s : List UInt8) : ObB (readO s).1 := by
  unfold readO
  split
  · exact ⟨by simp [obZ], by simp [obZ], by simp [obZ], by simp [obZ], by simp [obZ], by simp [obZ], rStr_le _, by simp [obZ], by simp [obZ]⟩
  · split
    · have h := rMany_all (get := rEnt) (P := fun e => (e.name.length : Int) ≤ 65536 ∧ 0 ≤ e.d.1 ∧ 0 ≤ e.d.2) (fun r => ⟨by have := rStr_le r; unfold rEnt; simp only; omega, rDig_nn _⟩) 200 (by omega) (rNum (s, false)).2
      exact ⟨by simp only; omega, fun e he => (h.2 e he).1, fun e he => (h.2 e he).2, by simp [obZ], by simp [obZ], by simp [obZ], by simp [obZ], by simp [obZ], by simp [obZ]⟩
    · split
      · unfold readC
        have h := rMany_all (get := rDig) (P := fun d => 0 ≤ d.1 ∧ 0 ≤ d.2) rDig_nn 8 (by omega) (rDig (rNum (s, false)).2).2
        refine ⟨by simp, by simp, by simp, by simp only; omega, h.2, rDig_nn _, by simp, ?_, ?_⟩
        · exact Int.ofNat_le.2 (rStr_le _)
        · exact Int.ofNat_le.2 (rStr_le _)
      · exact ⟨by simp [obZ], by simp [obZ], by simp [obZ], by simp [obZ], by simp [obZ], by simp [obZ], by simp [obZ], by simp [obZ], by simp [obZ]⟩
theorem ObB.inW {o : Ob} (h : ObB o) {W : World} {ea : Option Addr} {ec : Nat} {pa : Option Addr} {pc : Nat} (h1 : Ents W.heap.size W ea o.ents) (h2 : Digs W.heap.size W pa o.pars) (h3 : o.pars.length ≤ pc) : ObIn W o ea ec pa pc :=
  ⟨h1, h2, h3, by have := h.elen; omega, fun e he => by have := h.enam e he; omega, h.edig, by have := h.plen; omega, h.pdig, h.tdig, by have := h.dlen; omega, by have := h.alen; omega, by have := h.mlen; omega⟩
theorem obB_obZ : ObB obZ := ⟨by simp [obZ], by simp [obZ], by simp [obZ], by simp [obZ], by simp [obZ], by simp [obZ], by simp [obZ], by simp [obZ], by simp [obZ]⟩

abbrev Ob.arr (o : Ob) (ea : Option Addr) (ec : Nat) (pa : Option Addr) (pc : Nat) : Array Value :=
  #[.int .i64 o.kind, .string ⟨o.data.toArray⟩, .slice ea o.ents.length ec, .int .u64 o.tree.1, .int .u64 o.tree.2, .slice pa o.pars.length pc, .string ⟨o.author.toArray⟩, .int .i64 o.time, .string ⟨o.msg.toArray⟩]
/-- A block of cells. -/
def BK (b : Nat) (cs : Array Value) (t : TypeId) (W : World) : Prop := W.heap[b]? = some (.cells cs t (0, 0))
theorem BK.lt {b : Nat} {cs : Array Value} {t : TypeId} {W : World} (h : BK b cs t W) : b < W.heap.size := (Array.getElem?_eq_some_iff.1 h).1
theorem BK.grow {b : Nat} {cs : Array Value} {t : TypeId} {W W' : World} {r : Option Nat} (h : BK b cs t W) (hg : W.grownBy W' r) (hr : ∀ k, r = some k → k ≠ b) : BK b cs t W' := (hg.block b h.lt (fun e => hr b e.symm rfl)).trans h
theorem BK.grow1 {b c : Nat} {cs : Array Value} {t : TypeId} {W W' : World} (h : BK b cs t W) (hg : W.grownBy W' (some c)) (hr : c ≠ b) : BK b cs t W' := h.grow hg (fun k e => by cases e; exact hr)
theorem BK.below {b : Nat} {cs : Array Value} {t : TypeId} {W W' : World} (h : BK b cs t W) (hg : Below W.heap.size W W') : BK b cs t W' := (hg.block b h.lt).trans h
theorem BK.set {b : Nat} {cs : Array Value} {t : TypeId} {W : World} (h : BK b cs t W) (j : Nat) (v : Value) : BK b (cs.setIfInBounds j v) t (W.setCell ⟨b, j, none⟩ v) := set_cells h j v
theorem BK.other {b : Nat} {cs : Array Value} {t : TypeId} {W : World} (h : BK b cs t W) {c : Nat} (hc : c ≠ b) (j : Nat) (v : Value) : BK b cs t (W.setCell ⟨c, j, none⟩ v) := (Below.heap_setCell _ _ _ _ (by simp; omega)).trans h
theorem BK.alloc {b : Nat} {cs : Array Value} {t : TypeId} {W : World} (h : BK b cs t W) (o : Obj) : BK b cs t (W.alloc o) := (Below.heap_alloc _ _ _ h.lt).trans h
theorem BK.new (W : World) (cs : Array Value) (t : TypeId) : BK W.heap.size cs t (W.alloc (.cells cs t)) := World.alloc_heap_new _ _
theorem BK.new2 (W : World) (o : Obj) (cs : Array Value) (t : TypeId) : BK (W.heap.size + 1) cs t ((W.alloc o).alloc (.cells cs t)) := by
  have := BK.new (W.alloc o) cs t
  rwa [show (W.alloc o).heap.size = W.heap.size + 1 by simp] at this
theorem BK.cell {b : Nat} {cs : Array Value} {t : TypeId} {W : World} (h : BK b cs t W) (j : Nat) : W.cell? ⟨b, j, none⟩ = cs[j]? := Lib.cell_of_heap h j
theorem BK.frozen {b : Nat} {cs : Array Value} {t : TypeId} {W : World} (h : BK b cs t W) (j : Nat) : W.frozen? ⟨b, j, none⟩ = false := Lib.frozen_of_heap h j
theorem own_digs {W : World} {base : Nat} {a : Option Addr} {n c : Nat} {ds : List (Int × Int)} (hn : n = ds.length) (h : W.ownsRow base 30 2 (.slice a n c) n (dcells ds)) : Digs W.heap.size W a ds := by subst hn; exact ownsRow_digs h
/-- A row that lies in none of these blocks. -/
theorem own_kept {W W' : World} {base : Nat} {e : TypeId} {z : Nat} {v : Value} {n : Nat} {xs : List Value} {b : Nat} (h : W.ownsRow base e z v n xs) (hg : W.grownBy W' (some b)) (hb : b < base) : W'.ownsRow base e z v n xs :=
  h.kept hg (by
    by_cases hv : v.ownBlock = none
    · exact .inl hv
    · right
      intro hh
      have := h.lt b hh
      omega)
/-- An object whose lists lie from block base on. -/
structure ObOwn (base : Nat) (W : World) (o : Ob) (ea : Option Addr) (ec : Nat) (pa : Option Addr) (pc : Nat) : Prop where
  bb : ObB o
  eo : W.ownsRow base 42 4 (.slice ea o.ents.length ec) o.ents.length (ecells o.ents)
  po : W.ownsRow base 30 2 (.slice pa o.pars.length pc) o.pars.length (dcells o.pars)
theorem own_cap {W : World} {base : Nat} {e : TypeId} {z : Nat} {a : Option Addr} {n c : Nat} {xs : List Value} (h : W.ownsRow base e z (.slice a n c) n xs) : n ≤ c := by
  obtain ⟨a', c', h1, h2⟩ := ownsRow_sliceN h
  cases h1; exact h2
theorem own_le {W : World} {base base' : Nat} {e : TypeId} {z : Nat} {v : Value} {n : Nat} {xs : List Value} (h : W.ownsRow base e z v n xs) (hb : base' ≤ base) : W.ownsRow base' e z v n xs := by
  refine ⟨h.1, ?_⟩
  rcases h.2 with h1 | ⟨g, cap, cur, h1, h2, h3⟩
  · exact .inl h1
  · exact .inr ⟨g, cap, cur, h1, by omega, h3⟩
theorem own_below {W W' : World} {base : Nat} {e : TypeId} {z : Nat} {v : Value} {n : Nat} {xs : List Value} (h : W.ownsRow base e z v n xs) (hb : Below W.heap.size W W') : W'.ownsRow base e z v n xs := by
  refine ⟨h.1, ?_⟩
  rcases h.2 with h1 | ⟨g, cap, cur, h1, h2, h3, h4⟩
  · exact .inl h1
  · exact .inr ⟨g, cap, cur, h1, h2, (hb.block g (Array.getElem?_eq_some_iff.1 h3).1).trans h3, h4⟩
theorem ObOwn.inn {base : Nat} {W : World} {o : Ob} {ea : Option Addr} {ec : Nat} {pa : Option Addr} {pc : Nat} (h : ObOwn base W o ea ec pa pc) : ObIn W o ea ec pa pc := h.bb.inW (ownsRow_ents h.eo) (ownsRow_digs h.po) (own_cap h.po)
theorem ObOwn.below {base : Nat} {W W' : World} {o : Ob} {ea : Option Addr} {ec : Nat} {pa : Option Addr} {pc : Nat} (h : ObOwn base W o ea ec pa pc) (hb : Below W.heap.size W W') : ObOwn base W' o ea ec pa pc := ⟨h.bb, own_below h.eo hb, own_below h.po hb⟩
theorem ObOwn.kept {base : Nat} {W W' : World} {o : Ob} {ea : Option Addr} {ec : Nat} {pa : Option Addr} {pc b : Nat} (h : ObOwn base W o ea ec pa pc) (hg : W.grownBy W' (some b)) (hb : b < base) : ObOwn base W' o ea ec pa pc := ⟨h.bb, own_kept h.eo hg hb, own_kept h.po hg hb⟩
theorem ObOwn.le {base base' : Nat} {W : World} {o : Ob} {ea : Option Addr} {ec : Nat} {pa : Option Addr} {pc : Nat} (h : ObOwn base W o ea ec pa pc) (hb : base' ≤ base) : ObOwn base' W o ea ec pa pc := ⟨h.bb, own_le h.eo hb, own_le h.po hb⟩
theorem ObOwn.zero (base : Nat) (W : World) : ObOwn base W obZ none 0 none 0 := ⟨obB_obZ, World.ownsRow_nil _ _ _ _, World.ownsRow_nil _ _ _ _⟩
/-- The state of Decode when the object has been read. -/
structure DecSt (w : World) (ob : Nat) (o : Ob) (r : RS) (W : World) (ea : Option Addr) (ec : Nat) (pa : Option Addr) (pc : Nat) : Prop where
  rd : RD (w.heap.size + 1) r W
  obj : BK ob (o.arr ea ec pa pc) 33 W
  inn : ObOwn (w.heap.size + 2) W o ea ec pa pc
  res : BK w.heap.size #[.int .i64 0, .string ⟨#[]⟩, .slice none 0 0, .int .u64 0, .int .u64 0, .slice none 0 0, .string ⟨#[]⟩, .int .i64 0, .string ⟨#[]⟩] 33 W
  bel : Below w.heap.size w W
def DecX (w : World) (ob : Nat) (o : Ob) (r : RS) (W : World) : Prop := ∃ ea ec pa pc, DecSt w ob o r W ea ec pa pc
theorem below_of_grown {w x y : World} {b : Nat} (h : Below w.heap.size w x) (hg : x.grownBy y (some b)) (hb : w.heap.size ≤ b) : Below w.heap.size w y := h.grown hg h.size (fun k e => by cases e; exact hb)
/-- An object that was handed back with an error. -/
def GotO (w : World) (o : Ob) (er : Int) (e : Ending) (w' : World) : Prop := ∃ ea ec pa pc, e = .returned (.tuple #[o.val ea ec pa pc, .int .i64 er]) ∧ ObOwn w.heap.size w' o ea ec pa pc ∧ Below w.heap.size w w'

theorem rList_len {α : Type} (get : RS → α × RS) (h : ∀ r, (get r).2.1.length ≤ r.1.length) : ∀ (n : Nat) (r : RS), (rList get n r).2.1.length ≤ r.1.length
  | 0, r => by simp [rList]
  | n + 1, r => by
    rw [rList]
    split
    · simp
    · exact Nat.le_trans (rList_len get h n _) (h r)
theorem rMany_len {α : Type} (get : RS → α × RS) (h : ∀ r, (get r).2.1.length ≤ r.1.length) (m : Int) (r : RS) : (rMany get m r).2.1.length ≤ r.1.length := Nat.le_trans (rList_len get h _ _) (rMost_len m r)

set_option maxRecDepth 100000 in
set_option maxHeartbeats 4000000 in
theorem decode_any (s : List UInt8) (w : World) (hs : (s.length : Int) ≤ 140737488355328) :
    Calls Try.prog 28 #[.string ⟨s.toArray⟩] w (GotO w (decodeS s).1 (decodeS s).2) := by
  have HN := Lib.hid (fun b W hW => rnumber_any b (s, false) W hW hs)
  have HB := Lib.hid (readO_b s)
  have hlen := rNum_len (s, false)
  have HRO : Hid (readO s = if (rNum (s, false)).1 = 1 ∨ (rNum (s, false)).1 = 4 then ({ obZ with kind := (rNum (s, false)).1, data := (rStr (rNum (s, false)).2).1 }, (rStr (rNum (s, false)).2).2) else if (rNum (s, false)).1 = 2 then ({ obZ with kind := 2, ents := (rMany rEnt 200 (rNum (s, false)).2).1 }, (rMany rEnt 200 (rNum (s, false)).2).2) else if (rNum (s, false)).1 = 3 then readC (rNum (s, false)).2 else ({ obZ with kind := (rNum (s, false)).1 }, (rNum (s, false)).2)) := Lib.hid rfl
  have HDE : Hid (decodeS s = if (readO s).2.2 = true ∨ (readO s).2.1 ≠ [] ∨ (encodeS (readO s).1).2 ≠ 0 then (obZ, 13) else ((readO s).1, 0)) := Lib.hid rfl
  generalize decodeS s = D at HDE ⊢
  generalize readO s = RO at HRO HDE HB
  generalize rNum (s, false) = s1 at HN HRO hlen
  obtain ⟨k, r1⟩ := s1
  simp only at HN HRO hlen
  obtain ⟨OB, q⟩ := RO
  simp only at HDE HB
  have hl1 : (r1.1.length : Int) ≤ 140737488355328 := by omega
  clear hlen
  go_enter Try.func28, Try.ntmps28
  go_wp2_with fail
  have hx := HN.out (w.heap.size + 1) ((w.alloc (.cells #[.int .i64 0, .string ⟨#[]⟩, .slice none 0 0, .int .u64 0, .int .u64 0, .slice none 0 0, .string ⟨#[]⟩, .int .i64 0, .string ⟨#[]⟩] 33)).alloc (.cells #[.string ⟨s.toArray⟩, .bool false] 88)) (BK.new2 w _ #[.string ⟨s.toArray⟩, .bool false] 88)
  (with_reducible refine hx.mono ?_)
  clear hx
  rintro e x1 ⟨rfl, HR1, HG1⟩
  have hz1 : w.heap.size + 2 ≤ x1.heap.size := by have := HG1.out.size; simpa using this
  have HRES1 : Hid (BK w.heap.size #[.int .i64 0, .string ⟨#[]⟩, .slice none 0 0, .int .u64 0, .int .u64 0, .slice none 0 0, .string ⟨#[]⟩, .int .i64 0, .string ⟨#[]⟩] 33 x1) := Lib.hid (((BK.new w #[.int .i64 0, .string ⟨#[]⟩, .slice none 0 0, .int .u64 0, .int .u64 0, .slice none 0 0, .string ⟨#[]⟩, .int .i64 0, .string ⟨#[]⟩] 33).alloc _).grow1 HG1.out (by omega))
  have HB1 : Hid (Below w.heap.size w x1) := Lib.hid (below_of_grown (((Below.refl _ w).alloc (Nat.le_refl _) _).alloc (by simp) _) HG1.out (by omega))
  clear HN HG1
  go_upto_block 0 with (fail)
  go_cut [] from 12 to 64 (fun wx => DecX w x1.heap.size OB q wx)
  case rest =>
    clear HB HRO HB1 HRES1 HR1
    obtain ⟨ea, ec, pa, pc, hS⟩ := hcut
    have HS := Lib.hid hS
    clear hS
    obtain ⟨l, bd⟩ := q
    have hws := HS.out.bel.size
    have hobl := HS.out.obj.lt
    have r0b : wc.cell? ⟨w.heap.size + 1, 0, none⟩ = some (.string ⟨l.toArray⟩) := by rw [BK.cell HS.out.rd]; rfl
    have r1b : wc.cell? ⟨w.heap.size + 1, 1, none⟩ = some (.bool bd) := by rw [BK.cell HS.out.rd]; rfl
    simp only at HDE
    cases bd with
    | true =>
      have HF : Hid (D = (obZ, 13)) := Lib.hid (by rw [HDE.out, if_pos (.inl rfl)])
      clear HDE
      have r0 : wc.cell? ⟨w.heap.size, 0, none⟩ = some (.int .i64 0) := by rw [HS.out.res.cell]; rfl
      have g0 : wc.frozen? ⟨w.heap.size, 0, none⟩ = false := HS.out.res.frozen 0
      have r1 : wc.cell? ⟨w.heap.size, 1, none⟩ = some (.string ⟨#[]⟩) := by rw [HS.out.res.cell]; rfl
      have g1 : wc.frozen? ⟨w.heap.size, 1, none⟩ = false := HS.out.res.frozen 1
      have r2 : wc.cell? ⟨w.heap.size, 2, none⟩ = some (.slice none 0 0) := by rw [HS.out.res.cell]; rfl
      have g2 : wc.frozen? ⟨w.heap.size, 2, none⟩ = false := HS.out.res.frozen 2
      have r3 : wc.cell? ⟨w.heap.size, 3, none⟩ = some (.int .u64 0) := by rw [HS.out.res.cell]; rfl
      have g3 : wc.frozen? ⟨w.heap.size, 3, none⟩ = false := HS.out.res.frozen 3
      have r4 : wc.cell? ⟨w.heap.size, 4, none⟩ = some (.int .u64 0) := by rw [HS.out.res.cell]; rfl
      have g4 : wc.frozen? ⟨w.heap.size, 4, none⟩ = false := HS.out.res.frozen 4
      have r5 : wc.cell? ⟨w.heap.size, 5, none⟩ = some (.slice none 0 0) := by rw [HS.out.res.cell]; rfl
      have g5 : wc.frozen? ⟨w.heap.size, 5, none⟩ = false := HS.out.res.frozen 5
      have r6 : wc.cell? ⟨w.heap.size, 6, none⟩ = some (.string ⟨#[]⟩) := by rw [HS.out.res.cell]; rfl
      have g6 : wc.frozen? ⟨w.heap.size, 6, none⟩ = false := HS.out.res.frozen 6
      have r7 : wc.cell? ⟨w.heap.size, 7, none⟩ = some (.int .i64 0) := by rw [HS.out.res.cell]; rfl
      have g7 : wc.frozen? ⟨w.heap.size, 7, none⟩ = false := HS.out.res.frozen 7
      have r8 : wc.cell? ⟨w.heap.size, 8, none⟩ = some (.string ⟨#[]⟩) := by rw [HS.out.res.cell]; rfl
      have g8 : wc.frozen? ⟨w.heap.size, 8, none⟩ = false := HS.out.res.frozen 8
      go_wp2_with fail
      refine bodyPost_ret (v := .tuple #[obZ.val none 0 none 0, .int .i64 13]) (by simp [results, Try.results28, go_sem, obZ, r0, r1, r2, r3, r4, r5, r6, r7, r8]) rfl ?_
      rw [HF.out]
      exact ⟨none, 0, none, 0, rfl, ObOwn.zero _ _, ((((((((HS.out.bel.setCell (by simp) _).setCell (by simp) _).setCell (by simp) _).setCell (by simp) _).setCell (by simp) _).setCell (by simp) _).setCell (by simp) _).setCell (by simp) _).setCell (by simp) _⟩
    | false =>
      cases l with
      | cons c0 l0 =>
        have HF : Hid (D = (obZ, 13)) := Lib.hid (by rw [HDE.out, if_pos (.inr (.inl (by simp)))])
        clear HDE
        have r0 : wc.cell? ⟨w.heap.size, 0, none⟩ = some (.int .i64 0) := by rw [HS.out.res.cell]; rfl
        have g0 : wc.frozen? ⟨w.heap.size, 0, none⟩ = false := HS.out.res.frozen 0
        have r1 : wc.cell? ⟨w.heap.size, 1, none⟩ = some (.string ⟨#[]⟩) := by rw [HS.out.res.cell]; rfl
        have g1 : wc.frozen? ⟨w.heap.size, 1, none⟩ = false := HS.out.res.frozen 1
        have r2 : wc.cell? ⟨w.heap.size, 2, none⟩ = some (.slice none 0 0) := by rw [HS.out.res.cell]; rfl
        have g2 : wc.frozen? ⟨w.heap.size, 2, none⟩ = false := HS.out.res.frozen 2
        have r3 : wc.cell? ⟨w.heap.size, 3, none⟩ = some (.int .u64 0) := by rw [HS.out.res.cell]; rfl
        have g3 : wc.frozen? ⟨w.heap.size, 3, none⟩ = false := HS.out.res.frozen 3
        have r4 : wc.cell? ⟨w.heap.size, 4, none⟩ = some (.int .u64 0) := by rw [HS.out.res.cell]; rfl
        have g4 : wc.frozen? ⟨w.heap.size, 4, none⟩ = false := HS.out.res.frozen 4
        have r5 : wc.cell? ⟨w.heap.size, 5, none⟩ = some (.slice none 0 0) := by rw [HS.out.res.cell]; rfl
        have g5 : wc.frozen? ⟨w.heap.size, 5, none⟩ = false := HS.out.res.frozen 5
        have r6 : wc.cell? ⟨w.heap.size, 6, none⟩ = some (.string ⟨#[]⟩) := by rw [HS.out.res.cell]; rfl
        have g6 : wc.frozen? ⟨w.heap.size, 6, none⟩ = false := HS.out.res.frozen 6
        have r7 : wc.cell? ⟨w.heap.size, 7, none⟩ = some (.int .i64 0) := by rw [HS.out.res.cell]; rfl
        have g7 : wc.frozen? ⟨w.heap.size, 7, none⟩ = false := HS.out.res.frozen 7
        have r8 : wc.cell? ⟨w.heap.size, 8, none⟩ = some (.string ⟨#[]⟩) := by rw [HS.out.res.cell]; rfl
        have g8 : wc.frozen? ⟨w.heap.size, 8, none⟩ = false := HS.out.res.frozen 8
        go_wp2_with fail
        refine bodyPost_ret (v := .tuple #[obZ.val none 0 none 0, .int .i64 13]) (by simp [results, Try.results28, go_sem, obZ, r0, r1, r2, r3, r4, r5, r6, r7, r8]) rfl ?_
        rw [HF.out]
        exact ⟨none, 0, none, 0, rfl, ObOwn.zero _ _, ((((((((HS.out.bel.setCell (by simp) _).setCell (by simp) _).setCell (by simp) _).setCell (by simp) _).setCell (by simp) _).setCell (by simp) _).setCell (by simp) _).setCell (by simp) _).setCell (by simp) _⟩
      | nil =>
        have HC := Lib.hid (ocheck_any OB ea ec pa pc wc HS.out.inn.inn)
        have o0 : wc.cell? ⟨x1.heap.size, 0, none⟩ = some (.int .i64 OB.kind) := by rw [HS.out.obj.cell]; rfl
        have o1 : wc.cell? ⟨x1.heap.size, 1, none⟩ = some (.string ⟨OB.data.toArray⟩) := by rw [HS.out.obj.cell]; rfl
        have o2 : wc.cell? ⟨x1.heap.size, 2, none⟩ = some (.slice ea OB.ents.length ec) := by rw [HS.out.obj.cell]; rfl
        have o3 : wc.cell? ⟨x1.heap.size, 3, none⟩ = some (.int .u64 OB.tree.1) := by rw [HS.out.obj.cell]; rfl
        have o4 : wc.cell? ⟨x1.heap.size, 4, none⟩ = some (.int .u64 OB.tree.2) := by rw [HS.out.obj.cell]; rfl
        have o5 : wc.cell? ⟨x1.heap.size, 5, none⟩ = some (.slice pa OB.pars.length pc) := by rw [HS.out.obj.cell]; rfl
        have o6 : wc.cell? ⟨x1.heap.size, 6, none⟩ = some (.string ⟨OB.author.toArray⟩) := by rw [HS.out.obj.cell]; rfl
        have o7 : wc.cell? ⟨x1.heap.size, 7, none⟩ = some (.int .i64 OB.time) := by rw [HS.out.obj.cell]; rfl
        have o8 : wc.cell? ⟨x1.heap.size, 8, none⟩ = some (.string ⟨OB.msg.toArray⟩) := by rw [HS.out.obj.cell]; rfl
        generalize (encodeS OB).2 = er at HDE HC
        by_cases he : er = 0
        · subst he
          have HF : Hid (D = (OB, 0)) := Lib.hid (by rw [HDE.out, if_neg (by simp)])
          clear HDE
          go_wp2_with fail
          have hx := HC.out
          (with_reducible refine hx.mono ?_)
          clear hx HC o0 o1 o2 o3 o4 o5 o6 o7 o8 r0b r1b
          rintro e w1 ⟨rfl, hb⟩
          have HB := Lib.hid hb
          have HRS := Lib.hid (HS.out.res.below hb)
          have HOJ := Lib.hid (HS.out.obj.below hb)
          have hz1 := hb.size
          clear hb
          have r0 : w1.cell? ⟨w.heap.size, 0, none⟩ = some (.int .i64 0) := by rw [HRS.out.cell]; rfl
          have g0 : w1.frozen? ⟨w.heap.size, 0, none⟩ = false := HRS.out.frozen 0
          have r1 : w1.cell? ⟨w.heap.size, 1, none⟩ = some (.string ⟨#[]⟩) := by rw [HRS.out.cell]; rfl
          have g1 : w1.frozen? ⟨w.heap.size, 1, none⟩ = false := HRS.out.frozen 1
          have r2 : w1.cell? ⟨w.heap.size, 2, none⟩ = some (.slice none 0 0) := by rw [HRS.out.cell]; rfl
          have g2 : w1.frozen? ⟨w.heap.size, 2, none⟩ = false := HRS.out.frozen 2
          have r3 : w1.cell? ⟨w.heap.size, 3, none⟩ = some (.int .u64 0) := by rw [HRS.out.cell]; rfl
          have g3 : w1.frozen? ⟨w.heap.size, 3, none⟩ = false := HRS.out.frozen 3
          have r4 : w1.cell? ⟨w.heap.size, 4, none⟩ = some (.int .u64 0) := by rw [HRS.out.cell]; rfl
          have g4 : w1.frozen? ⟨w.heap.size, 4, none⟩ = false := HRS.out.frozen 4
          have r5 : w1.cell? ⟨w.heap.size, 5, none⟩ = some (.slice none 0 0) := by rw [HRS.out.cell]; rfl
          have g5 : w1.frozen? ⟨w.heap.size, 5, none⟩ = false := HRS.out.frozen 5
          have r6 : w1.cell? ⟨w.heap.size, 6, none⟩ = some (.string ⟨#[]⟩) := by rw [HRS.out.cell]; rfl
          have g6 : w1.frozen? ⟨w.heap.size, 6, none⟩ = false := HRS.out.frozen 6
          have r7 : w1.cell? ⟨w.heap.size, 7, none⟩ = some (.int .i64 0) := by rw [HRS.out.cell]; rfl
          have g7 : w1.frozen? ⟨w.heap.size, 7, none⟩ = false := HRS.out.frozen 7
          have r8 : w1.cell? ⟨w.heap.size, 8, none⟩ = some (.string ⟨#[]⟩) := by rw [HRS.out.cell]; rfl
          have g8 : w1.frozen? ⟨w.heap.size, 8, none⟩ = false := HRS.out.frozen 8
          have o0 : w1.cell? ⟨x1.heap.size, 0, none⟩ = some (.int .i64 OB.kind) := by rw [HOJ.out.cell]; rfl
          have o1 : w1.cell? ⟨x1.heap.size, 1, none⟩ = some (.string ⟨OB.data.toArray⟩) := by rw [HOJ.out.cell]; rfl
          have o2 : w1.cell? ⟨x1.heap.size, 2, none⟩ = some (.slice ea OB.ents.length ec) := by rw [HOJ.out.cell]; rfl
          have o3 : w1.cell? ⟨x1.heap.size, 3, none⟩ = some (.int .u64 OB.tree.1) := by rw [HOJ.out.cell]; rfl
          have o4 : w1.cell? ⟨x1.heap.size, 4, none⟩ = some (.int .u64 OB.tree.2) := by rw [HOJ.out.cell]; rfl
          have o5 : w1.cell? ⟨x1.heap.size, 5, none⟩ = some (.slice pa OB.pars.length pc) := by rw [HOJ.out.cell]; rfl
          have o6 : w1.cell? ⟨x1.heap.size, 6, none⟩ = some (.string ⟨OB.author.toArray⟩) := by rw [HOJ.out.cell]; rfl
          have o7 : w1.cell? ⟨x1.heap.size, 7, none⟩ = some (.int .i64 OB.time) := by rw [HOJ.out.cell]; rfl
          have o8 : w1.cell? ⟨x1.heap.size, 8, none⟩ = some (.string ⟨OB.msg.toArray⟩) := by rw [HOJ.out.cell]; rfl
          have hne : x1.heap.size ≠ w.heap.size := by omega
          go_wp2_with fail
          refine bodyPost_ret (v := .tuple #[OB.val ea ec pa pc, .int .i64 0]) (by simp [results, Try.results28, go_sem, r0, r1, r2, r3, r4, r5, r6, r7, r8]) rfl ?_
          rw [HF.out]
          have hbb : Below w.heap.size w w1 := HS.out.bel.trans (HB.out.mono hws)
          exact ⟨ea, ec, pa, pc, rfl, ((HS.out.inn.below HB.out).kept (gown (gown (gown (gown (gown (gown (gown (gown (gset _ _ _ _) _ _) _ _) _ _) _ _) _ _) _ _) _ _) _ _) (by omega)).le (by omega), ((((((((hbb.setCell (by simp) _).setCell (by simp) _).setCell (by simp) _).setCell (by simp) _).setCell (by simp) _).setCell (by simp) _).setCell (by simp) _).setCell (by simp) _).setCell (by simp) _⟩
        · have hne : (er != 0) = true := by simpa using he
          have HF : Hid (D = (obZ, 13)) := Lib.hid (by rw [HDE.out, if_pos (.inr (.inr he))])
          clear HDE he
          go_wp2_with fail
          have hx := HC.out
          (with_reducible refine hx.mono ?_)
          clear hx HC o0 o1 o2 o3 o4 o5 o6 o7 o8 r0b r1b
          rintro e w1 ⟨rfl, hb⟩
          have HB := Lib.hid hb
          have HRS := Lib.hid (HS.out.res.below hb)
          clear hb
          have r0 : w1.cell? ⟨w.heap.size, 0, none⟩ = some (.int .i64 0) := by rw [HRS.out.cell]; rfl
          have g0 : w1.frozen? ⟨w.heap.size, 0, none⟩ = false := HRS.out.frozen 0
          have r1 : w1.cell? ⟨w.heap.size, 1, none⟩ = some (.string ⟨#[]⟩) := by rw [HRS.out.cell]; rfl
          have g1 : w1.frozen? ⟨w.heap.size, 1, none⟩ = false := HRS.out.frozen 1
          have r2 : w1.cell? ⟨w.heap.size, 2, none⟩ = some (.slice none 0 0) := by rw [HRS.out.cell]; rfl
          have g2 : w1.frozen? ⟨w.heap.size, 2, none⟩ = false := HRS.out.frozen 2
          have r3 : w1.cell? ⟨w.heap.size, 3, none⟩ = some (.int .u64 0) := by rw [HRS.out.cell]; rfl
          have g3 : w1.frozen? ⟨w.heap.size, 3, none⟩ = false := HRS.out.frozen 3
          have r4 : w1.cell? ⟨w.heap.size, 4, none⟩ = some (.int .u64 0) := by rw [HRS.out.cell]; rfl
          have g4 : w1.frozen? ⟨w.heap.size, 4, none⟩ = false := HRS.out.frozen 4
          have r5 : w1.cell? ⟨w.heap.size, 5, none⟩ = some (.slice none 0 0) := by rw [HRS.out.cell]; rfl
          have g5 : w1.frozen? ⟨w.heap.size, 5, none⟩ = false := HRS.out.frozen 5
          have r6 : w1.cell? ⟨w.heap.size, 6, none⟩ = some (.string ⟨#[]⟩) := by rw [HRS.out.cell]; rfl
          have g6 : w1.frozen? ⟨w.heap.size, 6, none⟩ = false := HRS.out.frozen 6
          have r7 : w1.cell? ⟨w.heap.size, 7, none⟩ = some (.int .i64 0) := by rw [HRS.out.cell]; rfl
          have g7 : w1.frozen? ⟨w.heap.size, 7, none⟩ = false := HRS.out.frozen 7
          have r8 : w1.cell? ⟨w.heap.size, 8, none⟩ = some (.string ⟨#[]⟩) := by rw [HRS.out.cell]; rfl
          have g8 : w1.frozen? ⟨w.heap.size, 8, none⟩ = false := HRS.out.frozen 8
          go_wp2_with fail
          refine bodyPost_ret (v := .tuple #[obZ.val none 0 none 0, .int .i64 13]) (by simp [results, Try.results28, go_sem, obZ, r0, r1, r2, r3, r4, r5, r6, r7, r8]) rfl ?_
          rw [HF.out]
          exact ⟨none, 0, none, 0, rfl, ObOwn.zero _ _, (((((((((HS.out.bel.trans (HB.out.mono hws)).setCell (by simp) _).setCell (by simp) _).setCell (by simp) _).setCell (by simp) _).setCell (by simp) _).setCell (by simp) _).setCell (by simp) _).setCell (by simp) _).setCell (by simp) _⟩
  case first =>
    have HBK : Hid (BK x1.heap.size #[.int .i64 k, .string ⟨#[]⟩, .slice none 0 0, .int .u64 0, .int .u64 0, .slice none 0 0, .string ⟨#[]⟩, .int .i64 0, .string ⟨#[]⟩] 33 (x1.alloc (.cells #[.int .i64 k, .string ⟨#[]⟩, .slice none 0 0, .int .u64 0, .int .u64 0, .slice none 0 0, .string ⟨#[]⟩, .int .i64 0, .string ⟨#[]⟩] 33))) := Lib.hid (BK.new _ _ _)
    clear HDE
    by_cases h1 : k = 1
    · subst h1
      have HRO2 := Lib.hid (by have := HRO.out; rw [if_pos (by omega)] at this; exact this)
      clear HRO
      have HC := Lib.hid (fun W hW => rstring_any (w.heap.size + 1) r1 W hW hl1)
      generalize rStr r1 = s2 at HC HRO2
      obtain ⟨dt, q2⟩ := s2
      simp only at HC HRO2
      go_wp2_with fail
      have hx := HC.out _ (HR1.out.alloc (.cells #[.int .i64 1, .string ⟨#[]⟩, .slice none 0 0, .int .u64 0, .int .u64 0, .slice none 0 0, .string ⟨#[]⟩, .int .i64 0, .string ⟨#[]⟩] 33))
      (with_reducible refine hx.mono ?_)
      clear hx HC
      rintro e x2 ⟨rfl, HR2, HG2⟩
      have HBK2 : Hid (BK x1.heap.size #[.int .i64 1, .string ⟨#[]⟩, .slice none 0 0, .int .u64 0, .int .u64 0, .slice none 0 0, .string ⟨#[]⟩, .int .i64 0, .string ⟨#[]⟩] 33 x2) := Lib.hid (HBK.out.grow1 HG2.out (by omega))
      have hz2 : x1.heap.size + 1 ≤ x2.heap.size := by have := HG2.out.size; simpa using this
      have c1 : x2.cell? ⟨x1.heap.size, 1, none⟩ = some (.string ⟨#[]⟩) := by rw [HBK2.out.cell]; rfl
      have f1 : x2.frozen? ⟨x1.heap.size, 1, none⟩ = false := HBK2.out.frozen 1
      have HF : Hid (DecX w x1.heap.size OB q (x2.setCell ⟨x1.heap.size, 1, none⟩ (.string ⟨dt.toArray⟩))) := Lib.hid (by
        obtain ⟨rfl, rfl⟩ := Prod.mk.inj HRO2.out
        refine ⟨none, 0, none, 0, HR2.out.set (by omega) _ _, HBK2.out.set 1 _, ⟨HB.out, World.ownsRow_nil _ _ _ _, World.ownsRow_nil _ _ _ _⟩, ((HRES1.out.alloc _).grow1 HG2.out (by omega)).other (by omega) _ _, ?_⟩
        exact (below_of_grown (HB1.out.alloc (by omega) _) HG2.out (by omega)).setCell (by simp; omega) _)
      clear HR1 HR2 HBK HBK2 HRO2 HG2 HB1 HRES1
      go_wp2_with fail
      go_meet
      case rel => exact HF.out
    · by_cases h4 : k = 4
      · subst h4
        have HRO2 := Lib.hid (by have := HRO.out; rw [if_pos (by omega)] at this; exact this)
        clear HRO h1
        have HC := Lib.hid (fun W hW => rstring_any (w.heap.size + 1) r1 W hW hl1)
        generalize rStr r1 = s2 at HC HRO2
        obtain ⟨dt, q2⟩ := s2
        simp only at HC HRO2
        go_wp2_with fail
        have hx := HC.out _ (HR1.out.alloc (.cells #[.int .i64 4, .string ⟨#[]⟩, .slice none 0 0, .int .u64 0, .int .u64 0, .slice none 0 0, .string ⟨#[]⟩, .int .i64 0, .string ⟨#[]⟩] 33))
        (with_reducible refine hx.mono ?_)
        clear hx HC
        rintro e x2 ⟨rfl, HR2, HG2⟩
        have HBK2 : Hid (BK x1.heap.size #[.int .i64 4, .string ⟨#[]⟩, .slice none 0 0, .int .u64 0, .int .u64 0, .slice none 0 0, .string ⟨#[]⟩, .int .i64 0, .string ⟨#[]⟩] 33 x2) := Lib.hid (HBK.out.grow1 HG2.out (by omega))
        have hz2 : x1.heap.size + 1 ≤ x2.heap.size := by have := HG2.out.size; simpa using this
        have c1 : x2.cell? ⟨x1.heap.size, 1, none⟩ = some (.string ⟨#[]⟩) := by rw [HBK2.out.cell]; rfl
        have f1 : x2.frozen? ⟨x1.heap.size, 1, none⟩ = false := HBK2.out.frozen 1
        have HF : Hid (DecX w x1.heap.size OB q (x2.setCell ⟨x1.heap.size, 1, none⟩ (.string ⟨dt.toArray⟩))) := Lib.hid (by
          obtain ⟨rfl, rfl⟩ := Prod.mk.inj HRO2.out
          refine ⟨none, 0, none, 0, HR2.out.set (by omega) _ _, HBK2.out.set 1 _, ⟨HB.out, World.ownsRow_nil _ _ _ _, World.ownsRow_nil _ _ _ _⟩, ((HRES1.out.alloc _).grow1 HG2.out (by omega)).other (by omega) _ _, ?_⟩
          exact (below_of_grown (HB1.out.alloc (by omega) _) HG2.out (by omega)).setCell (by simp; omega) _)
        clear HR1 HR2 HBK HBK2 HRO2 HG2 HB1 HRES1
        go_wp2_with fail
        go_meet
        case rel => exact HF.out
      · by_cases h2 : k = 2
        · subst h2
          have HRO2 := Lib.hid (by have := HRO.out; rw [if_neg (by omega), if_pos rfl] at this; exact this)
          clear HRO h1 h4
          have HC := Lib.hid (fun W hW => rlistE_any (w.heap.size + 1) 200 r1 W hW hl1 (by omega) (by omega))
          generalize rMany rEnt 200 r1 = s2 at HC HRO2
          obtain ⟨es, q2⟩ := s2
          simp only at HC HRO2
          go_wp2_with fail
          have hx := HC.out _ (HR1.out.alloc (.cells #[.int .i64 2, .string ⟨#[]⟩, .slice none 0 0, .int .u64 0, .int .u64 0, .slice none 0 0, .string ⟨#[]⟩, .int .i64 0, .string ⟨#[]⟩] 33))
          (with_reducible refine hx.mono ?_)
          clear hx HC
          rintro e x2 ⟨ea, ec, rfl, hec, HR2, HO2, HG2⟩
          have HBK2 : Hid (BK x1.heap.size #[.int .i64 2, .string ⟨#[]⟩, .slice none 0 0, .int .u64 0, .int .u64 0, .slice none 0 0, .string ⟨#[]⟩, .int .i64 0, .string ⟨#[]⟩] 33 x2) := Lib.hid (HBK.out.grow1 HG2.out (by omega))
          have hz2 : x1.heap.size + 1 ≤ x2.heap.size := by have := HG2.out.size; simpa using this
          have c2 : x2.cell? ⟨x1.heap.size, 2, none⟩ = some (.slice none 0 0) := by rw [HBK2.out.cell]; rfl
          have f2 : x2.frozen? ⟨x1.heap.size, 2, none⟩ = false := HBK2.out.frozen 2
          have HF : Hid (DecX w x1.heap.size OB q (x2.setCell ⟨x1.heap.size, 2, none⟩ (.slice ea es.length ec))) := Lib.hid (by
            obtain ⟨rfl, rfl⟩ := Prod.mk.inj HRO2.out
            have hO := own_kept HO2.out (gset x2 x1.heap.size 2 (.slice ea es.length ec)) (by simp)
            refine ⟨ea, ec, none, 0, HR2.out.set (by omega) _ _, HBK2.out.set 2 _, ⟨HB.out, own_le hO (by simp; omega), World.ownsRow_nil _ _ _ _⟩, ((HRES1.out.alloc _).grow1 HG2.out (by omega)).other (by omega) _ _, ?_⟩
            exact (below_of_grown (HB1.out.alloc (by omega) _) HG2.out (by omega)).setCell (by simp; omega) _)
          clear HR1 HR2 HBK HBK2 HRO2 HG2 HB1 HRES1 HO2
          go_wp2_with fail
          go_meet
          case rel => exact HF.out
        · by_cases h3 : k = 3
          · subst h3
            have HRO2 := Lib.hid (by have := HRO.out; rw [if_neg (by omega), if_neg (by omega), if_pos rfl] at this; exact this)
            clear HRO h1 h4 h2
            have HC := Lib.hid (fun W hW => rdigest_any (w.heap.size + 1) r1 W hW hl1)
            have hl2 := rDig_len r1
            unfold readC at HRO2
            generalize rDig r1 = s2 at HC HRO2 hl2
            obtain ⟨⟨t1, t2⟩, q2⟩ := s2
            simp only at HC HRO2 hl2
            have HC3 := Lib.hid (fun W hW => rlistD_any (w.heap.size + 1) 8 q2 W hW (by omega) (by omega) (by omega))
            have hl3 := rMany_len rDig rDig_len 8 q2
            generalize rMany rDig 8 q2 = s3 at HC3 HRO2 hl3
            obtain ⟨ps, q3⟩ := s3
            simp only at HC3 HRO2 hl3
            have HC4 := Lib.hid (fun W hW => rstring_any (w.heap.size + 1) q3 W hW (by omega))
            have hl4 := rStr_len q3
            generalize rStr q3 = s4 at HC4 HRO2 hl4
            obtain ⟨au, q4⟩ := s4
            simp only at HC4 HRO2 hl4
            have HC5 := Lib.hid (fun W hW => rnumber_any (w.heap.size + 1) q4 W hW (by omega))
            have hl5 := rNum_len q4
            generalize rNum q4 = s5 at HC5 HRO2 hl5
            obtain ⟨ti, q5⟩ := s5
            simp only at HC5 HRO2 hl5
            have HC6 := Lib.hid (fun W hW => rstring_any (w.heap.size + 1) q5 W hW (by omega))
            generalize rStr q5 = s6 at HC6 HRO2
            obtain ⟨ms, q6⟩ := s6
            simp only at HC6 HRO2
            go_wp2_with fail
            have hx := HC.out _ (HR1.out.alloc (.cells #[.int .i64 3, .string ⟨#[]⟩, .slice none 0 0, .int .u64 0, .int .u64 0, .slice none 0 0, .string ⟨#[]⟩, .int .i64 0, .string ⟨#[]⟩] 33))
            (with_reducible refine hx.mono ?_)
            clear hx HC
            rintro e x2 ⟨rfl, HR2, HG2⟩
            have HBK2 : Hid (BK x1.heap.size #[.int .i64 3, .string ⟨#[]⟩, .slice none 0 0, .int .u64 0, .int .u64 0, .slice none 0 0, .string ⟨#[]⟩, .int .i64 0, .string ⟨#[]⟩] 33 x2) := Lib.hid (HBK.out.grow1 HG2.out (by omega))
            have hz2 : x1.heap.size + 1 ≤ x2.heap.size := by have := HG2.out.size; simpa using this
            have HRES2 : Hid (BK w.heap.size #[.int .i64 0, .string ⟨#[]⟩, .slice none 0 0, .int .u64 0, .int .u64 0, .slice none 0 0, .string ⟨#[]⟩, .int .i64 0, .string ⟨#[]⟩] 33 x2) := Lib.hid ((HRES1.out.alloc _).grow1 HG2.out (by omega))
            have HB2 : Hid (Below w.heap.size w x2) := Lib.hid (below_of_grown (HB1.out.alloc (by omega) _) HG2.out (by omega))
            clear HR1 HBK HG2 HB1 HRES1
            have c3 : x2.cell? ⟨x1.heap.size, 3, none⟩ = some (.int .u64 0) := by rw [HBK2.out.cell]; rfl
            have f3 : x2.frozen? ⟨x1.heap.size, 3, none⟩ = false := HBK2.out.frozen 3
            have c4 : x2.cell? ⟨x1.heap.size, 4, none⟩ = some (.int .u64 0) := by rw [HBK2.out.cell]; rfl
            have f4 : x2.frozen? ⟨x1.heap.size, 4, none⟩ = false := HBK2.out.frozen 4
            have HRY : Hid (RD (w.heap.size + 1) q2 ((x2.setCell ⟨x1.heap.size, 3, none⟩ (.int .u64 t1)).setCell ⟨x1.heap.size, 4, none⟩ (.int .u64 t2))) := Lib.hid ((HR2.out.set (by omega) _ _).set (by omega) _ _)
            have HBY : Hid (BK x1.heap.size #[.int .i64 3, .string ⟨#[]⟩, .slice none 0 0, .int .u64 t1, .int .u64 t2, .slice none 0 0, .string ⟨#[]⟩, .int .i64 0, .string ⟨#[]⟩] 33 ((x2.setCell ⟨x1.heap.size, 3, none⟩ (.int .u64 t1)).setCell ⟨x1.heap.size, 4, none⟩ (.int .u64 t2))) := Lib.hid ((HBK2.out.set 3 _).set 4 _)
            have HRESY : Hid (BK w.heap.size #[.int .i64 0, .string ⟨#[]⟩, .slice none 0 0, .int .u64 0, .int .u64 0, .slice none 0 0, .string ⟨#[]⟩, .int .i64 0, .string ⟨#[]⟩] 33 ((x2.setCell ⟨x1.heap.size, 3, none⟩ (.int .u64 t1)).setCell ⟨x1.heap.size, 4, none⟩ (.int .u64 t2))) := Lib.hid ((HRES2.out.other (by omega) _ _).other (by omega) _ _)
            have HBLY : Hid (Below w.heap.size w ((x2.setCell ⟨x1.heap.size, 3, none⟩ (.int .u64 t1)).setCell ⟨x1.heap.size, 4, none⟩ (.int .u64 t2))) := Lib.hid ((HB2.out.setCell (by simp; omega) _).setCell (by simp; omega) _)
            clear HR2 HBK2 HRES2 HB2
            go_wp2_with fail
            have hx := HC3.out _ HRY.out
            (with_reducible refine hx.mono ?_)
            clear hx HC3 c3 f3 c4 f4
            rintro e x3 ⟨pa, pc, rfl, hpc, HR3, HO3, HG3⟩
            have hz3 : x2.heap.size ≤ x3.heap.size := by have := HG3.out.size; simpa using this
            have HBK3 : Hid (BK x1.heap.size #[.int .i64 3, .string ⟨#[]⟩, .slice none 0 0, .int .u64 t1, .int .u64 t2, .slice none 0 0, .string ⟨#[]⟩, .int .i64 0, .string ⟨#[]⟩] 33 x3) := Lib.hid (HBY.out.grow1 HG3.out (by omega))
            have HRES3 := Lib.hid (HRESY.out.grow1 HG3.out (by omega))
            have HB3 := Lib.hid (below_of_grown HBLY.out HG3.out (by omega))
            clear HRY HBY HRESY HBLY HG3
            have c5 : x3.cell? ⟨x1.heap.size, 5, none⟩ = some (.slice none 0 0) := by rw [HBK3.out.cell]; rfl
            have f5 : x3.frozen? ⟨x1.heap.size, 5, none⟩ = false := HBK3.out.frozen 5
            have HRZ := Lib.hid (HR3.out.set (c := x1.heap.size) (by omega) 5 (.slice pa ps.length pc))
            have HBZ : Hid (BK x1.heap.size #[.int .i64 3, .string ⟨#[]⟩, .slice none 0 0, .int .u64 t1, .int .u64 t2, .slice pa ps.length pc, .string ⟨#[]⟩, .int .i64 0, .string ⟨#[]⟩] 33 (x3.setCell ⟨x1.heap.size, 5, none⟩ (.slice pa ps.length pc))) := Lib.hid (HBK3.out.set 5 _)
            have HRESZ := Lib.hid (HRES3.out.other (c := x1.heap.size) (by omega) 5 (.slice pa ps.length pc))
            have HBLZ := Lib.hid (HB3.out.setCell (p := ⟨x1.heap.size, 5, none⟩) (by simp; omega) (.slice pa ps.length pc))
            have HOZ := Lib.hid (own_kept HO3.out (gset x3 x1.heap.size 5 (.slice pa ps.length pc)) (by simp; omega))
            clear HR3 HBK3 HRES3 HB3 HO3
            go_wp2_with fail
            have hx := HC4.out _ HRZ.out
            (with_reducible refine hx.mono ?_)
            clear hx HC4 c5 f5
            rintro e x4 ⟨rfl, HR4, HG4⟩
            have hz4 : x3.heap.size ≤ x4.heap.size := by have := HG4.out.size; simpa using this
            have HBK4 : Hid (BK x1.heap.size #[.int .i64 3, .string ⟨#[]⟩, .slice none 0 0, .int .u64 t1, .int .u64 t2, .slice pa ps.length pc, .string ⟨#[]⟩, .int .i64 0, .string ⟨#[]⟩] 33 x4) := Lib.hid (HBZ.out.grow1 HG4.out (by omega))
            have HRES4 := Lib.hid (HRESZ.out.grow1 HG4.out (by omega))
            have HB4 := Lib.hid (below_of_grown HBLZ.out HG4.out (by omega))
            have HO4 := Lib.hid (own_kept HOZ.out HG4.out (by simp; omega))
            clear HRZ HBZ HRESZ HBLZ HOZ HG4
            have c6 : x4.cell? ⟨x1.heap.size, 6, none⟩ = some (.string ⟨#[]⟩) := by rw [HBK4.out.cell]; rfl
            have f6 : x4.frozen? ⟨x1.heap.size, 6, none⟩ = false := HBK4.out.frozen 6
            have HRU := Lib.hid (HR4.out.set (c := x1.heap.size) (by omega) 6 (.string ⟨au.toArray⟩))
            have HBU : Hid (BK x1.heap.size #[.int .i64 3, .string ⟨#[]⟩, .slice none 0 0, .int .u64 t1, .int .u64 t2, .slice pa ps.length pc, .string ⟨au.toArray⟩, .int .i64 0, .string ⟨#[]⟩] 33 (x4.setCell ⟨x1.heap.size, 6, none⟩ (.string ⟨au.toArray⟩))) := Lib.hid (HBK4.out.set 6 _)
            have HRESU := Lib.hid (HRES4.out.other (c := x1.heap.size) (by omega) 6 (.string ⟨au.toArray⟩))
            have HBLU := Lib.hid (HB4.out.setCell (p := ⟨x1.heap.size, 6, none⟩) (by simp; omega) (.string ⟨au.toArray⟩))
            have HOU := Lib.hid (own_kept HO4.out (gset x4 x1.heap.size 6 (.string ⟨au.toArray⟩)) (by simp; omega))
            clear HR4 HBK4 HRES4 HB4 HO4
            go_wp2_with fail
            have hx := HC5.out _ HRU.out
            (with_reducible refine hx.mono ?_)
            clear hx HC5 c6 f6
            rintro e x5 ⟨rfl, HR5, HG5⟩
            have hz5 : x4.heap.size ≤ x5.heap.size := by have := HG5.out.size; simpa using this
            have HBK5 : Hid (BK x1.heap.size #[.int .i64 3, .string ⟨#[]⟩, .slice none 0 0, .int .u64 t1, .int .u64 t2, .slice pa ps.length pc, .string ⟨au.toArray⟩, .int .i64 0, .string ⟨#[]⟩] 33 x5) := Lib.hid (HBU.out.grow1 HG5.out (by omega))
            have HRES5 := Lib.hid (HRESU.out.grow1 HG5.out (by omega))
            have HB5 := Lib.hid (below_of_grown HBLU.out HG5.out (by omega))
            have HO5 := Lib.hid (own_kept HOU.out HG5.out (by simp; omega))
            clear HRU HBU HRESU HBLU HOU HG5
            have c7 : x5.cell? ⟨x1.heap.size, 7, none⟩ = some (.int .i64 0) := by rw [HBK5.out.cell]; rfl
            have f7 : x5.frozen? ⟨x1.heap.size, 7, none⟩ = false := HBK5.out.frozen 7
            have HRV := Lib.hid (HR5.out.set (c := x1.heap.size) (by omega) 7 (.int .i64 ti))
            have HBV : Hid (BK x1.heap.size #[.int .i64 3, .string ⟨#[]⟩, .slice none 0 0, .int .u64 t1, .int .u64 t2, .slice pa ps.length pc, .string ⟨au.toArray⟩, .int .i64 ti, .string ⟨#[]⟩] 33 (x5.setCell ⟨x1.heap.size, 7, none⟩ (.int .i64 ti))) := Lib.hid (HBK5.out.set 7 _)
            have HRESV := Lib.hid (HRES5.out.other (c := x1.heap.size) (by omega) 7 (.int .i64 ti))
            have HBLV := Lib.hid (HB5.out.setCell (p := ⟨x1.heap.size, 7, none⟩) (by simp; omega) (.int .i64 ti))
            have HOV := Lib.hid (own_kept HO5.out (gset x5 x1.heap.size 7 (.int .i64 ti)) (by simp; omega))
            clear HR5 HBK5 HRES5 HB5 HO5
            go_wp2_with fail
            have hx := HC6.out _ HRV.out
            (with_reducible refine hx.mono ?_)
            clear hx HC6 c7 f7
            rintro e x6 ⟨rfl, HR6, HG6⟩
            have hz6 : x5.heap.size ≤ x6.heap.size := by have := HG6.out.size; simpa using this
            have HBK6 : Hid (BK x1.heap.size #[.int .i64 3, .string ⟨#[]⟩, .slice none 0 0, .int .u64 t1, .int .u64 t2, .slice pa ps.length pc, .string ⟨au.toArray⟩, .int .i64 ti, .string ⟨#[]⟩] 33 x6) := Lib.hid (HBV.out.grow1 HG6.out (by omega))
            have HRES6 := Lib.hid (HRESV.out.grow1 HG6.out (by omega))
            have HB6 := Lib.hid (below_of_grown HBLV.out HG6.out (by omega))
            have HO6 := Lib.hid (own_kept HOV.out HG6.out (by simp; omega))
            clear HRV HBV HRESV HBLV HOV HG6
            have c8 : x6.cell? ⟨x1.heap.size, 8, none⟩ = some (.string ⟨#[]⟩) := by rw [HBK6.out.cell]; rfl
            have f8 : x6.frozen? ⟨x1.heap.size, 8, none⟩ = false := HBK6.out.frozen 8
            have HF : Hid (DecX w x1.heap.size OB q (x6.setCell ⟨x1.heap.size, 8, none⟩ (.string ⟨ms.toArray⟩))) := Lib.hid (by
              obtain ⟨rfl, rfl⟩ := Prod.mk.inj HRO2.out
              have hO := own_kept HO6.out (gset x6 x1.heap.size 8 (.string ⟨ms.toArray⟩)) (by simp; omega)
              exact ⟨none, 0, pa, pc, HR6.out.set (by omega) _ _, HBK6.out.set 8 _, ⟨HB.out, World.ownsRow_nil _ _ _ _, own_le hO (by simp; omega)⟩, HRES6.out.other (by omega) _ _, HB6.out.setCell (by simp; omega) _⟩)
            clear HR6 HBK6 HRES6 HB6 HO6 HRO2
            go_wp2_with fail
            go_meet
            case rel => exact HF.out
          · have HRO2 := Lib.hid (by have := HRO.out; rw [if_neg (by omega), if_neg h2, if_neg h3] at this; exact this)
            have e1 : (k == 1) = false := by simpa using h1
            have e4 : (k == 4) = false := by simpa using h4
            have e2 : (k == 2) = false := by simpa using h2
            have e3 : (k == 3) = false := by simpa using h3
            clear HRO h1 h4 h2 h3
            have HF : Hid (DecX w x1.heap.size OB q (x1.alloc (.cells #[.int .i64 k, .string ⟨#[]⟩, .slice none 0 0, .int .u64 0, .int .u64 0, .slice none 0 0, .string ⟨#[]⟩, .int .i64 0, .string ⟨#[]⟩] 33))) := Lib.hid (by
              obtain ⟨rfl, rfl⟩ := Prod.mk.inj HRO2.out
              exact ⟨none, 0, none, 0, HR1.out.alloc _, HBK.out, ⟨HB.out, World.ownsRow_nil _ _ _ _, World.ownsRow_nil _ _ _ _⟩, HRES1.out.alloc _, HB1.out.alloc (by omega) _⟩)
            clear HR1 HBK HRO2 HB1 HRES1
            go_wp2_with fail
            go_meet
            case rel => exact HF.out

end Go.Proofs.Ytlfodnehgedpmaa
