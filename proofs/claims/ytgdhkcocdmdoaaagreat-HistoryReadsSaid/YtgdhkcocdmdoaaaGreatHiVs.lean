/- history.visit: the state in memory. -/
import Derived.Test.YtgdhkcocdmdoaaaGreatHiCo
import Derived.Test.YtgdhkcocdmdoaaaGreatHiMp
import Derived.Test.YtgdhkcocdmdoaaaGreatHiRv
namespace Go.Proofs.YtgdhkcocdmdoaaaGreat
open Go.RowKit Go.Shelf
set_option linter.unusedVariables false

/-- A loop of at most so many rounds. -/
theorem wpIn_loop_fuel {F : Fence} {n : Nat} {P : Program} {Q : Exit → Act → World → Prop} {c : Code} (I : Nat → Act → World → Prop)
    (round : ∀ f a w, I f a w → c.wpIn F n P (Exit.then (fun a' w' => ∃ g, f = g + 1 ∧ I g a' w') Q) a w) (f : Nat) (a : Act) (w : World) (h0 : I f a w) : (Code.loop c).wpIn F n P Q a w := by
  refine wpIn_loop_rounds (f + 1) ?_
  induction f generalizing a w with
  | zero =>
    rw [roundsIn_succ]
    refine wpIn_mono (round 0 a w h0) ?_
    rintro e a' w' h
    cases e with
    | normal => obtain ⟨g, hg, _⟩ := h; omega
    | _ => exact h
  | succ f ih =>
    rw [roundsIn_succ]
    refine wpIn_mono (round (f + 1) a w h0) ?_
    rintro e a' w' h
    cases e with
    | normal => obtain ⟨g, hg, hi⟩ := h; obtain rfl : f = g := by omega
                exact ih a' w' hi
    | _ => exact h

/-- What the map of parents holds. -/
def FA (xs : List Itm) (met : List (Int × Int)) (A : Int × Int → Option Addr × Nat) (d : Int × Int) : Option Value := if d ∈ met then some (.slice (A d).1 (commitS xs d).1.pars.length (A d).2) else none
structure VM (xs : List Itm) (B b n : Nat) (met : List (Int × Int)) (A : Int × Int → Option Addr × Nat) (W : World) : Prop where
  mp : MapV b n (FA xs met A) W
  pr : ∀ d ∈ met, Digs W.heap.size W (A d).1 (commitS xs d).1.pars ∧ (commitS xs d).1.pars.length ≤ (A d).2
  pb : ∀ d ∈ met, ∀ ad, (A d).1 = some ad → B ≤ ad.block ∧ ad.block < W.heap.size ∧ ad.block ≠ b
section
variable {xs : List Itm} {B b n : Nat} {met : List (Int × Int)} {A : Int × Int → Option Addr × Nat} {W W' : World}
theorem VM.kept {row : Option Nat} (h : VM xs B b n met A W) (hg : W.grownBy W' row) (hb : row ≠ some b) (hr : ∀ k, row = some k → ∀ d ∈ met, 0 < (commitS xs d).1.pars.length → ∀ ad, (A d).1 = some ad → k ≠ ad.block) : VM xs B b n met A W' :=
  ⟨h.mp.kept hg hb.symm, fun d hd => ⟨(h.pr d hd).1.kept hg (fun hp ad e hk => hr _ hk d hd hp ad e rfl), (h.pr d hd).2⟩, fun d hd ad e => ⟨(h.pb d hd ad e).1, Nat.lt_of_lt_of_le (h.pb d hd ad e).2.1 hg.size, (h.pb d hd ad e).2.2⟩⟩
theorem grown_below {W W' : World} (hb : Below W.heap.size W W') : W.grownBy W' none := ⟨hb.os, hb.tape, hb.output, hb.size, fun k hk _ => hb.block k hk⟩
theorem VM.below (h : VM xs B b n met A W) (hb : Below W.heap.size W W') : VM xs B b n met A W' := h.kept (grown_below hb) (by simp) (fun k e => by cases e)
theorem VM.alloc (h : VM xs B b n met A W) (o : Obj) : VM xs B b n met A (W.alloc o) := h.below ((Below.refl _ _).alloc (Nat.le_refl _) _)
theorem digs_cells {a : Option Addr} {L : List (Int × Int)} (h : Digs W.heap.size W a L) (hp : 0 < L.length) {ad : Addr} (e : a = some ad) {k : Nat} {o : Obj} (hk : W.heap[k]? = some o) (ho : o.isCells = false) : k ≠ ad.block := by
  obtain ⟨g, off, h1, h2, h3, _⟩ := h 0 hp
  rw [h1] at e
  cases e
  rintro rfl
  try simp only at hk
  unfold World.cell? at h3
  simp only [hk] at h3
  cases o <;> first | (cases ho; done) | (simp at h3; done)
theorem VM.put (h : VM xs B b n met A W) {x y : Int} (hd : OkD (x, y)) (hn : (n : Int) ≤ 1000000000) {pa : Option Addr} {pc : Nat} (hdg : Digs W.heap.size W pa (commitS xs (x, y)).1.pars) (hc : (commitS xs (x, y)).1.pars.length ≤ pc) (hpb : ∀ ad, pa = some ad → B ≤ ad.block ∧ ad.block < W.heap.size ∧ ad.block ≠ b) :
    ∃ W', (Instr.mapUpdate 63 (.map (some b)) (.agg #[.int .u64 x, .int .u64 y]) (.slice pa (commitS xs (x, y)).1.pars.length pc)).run Tryz.prog W = .ok () W' ∧ VM xs B b (n + 1) (met ++ [(x, y)]) (fun d => if d = (x, y) then (pa, pc) else A d) W' ∧ W.grownBy W' (some b) ∧ W'.heap.size = W.heap.size := by
  obtain ⟨W', hrun, hm, hg, hs⟩ := h.mp.put Tryz.underlying63 hd hn (.slice pa (commitS xs (x, y)).1.pars.length pc)
  have key : ∀ d ∈ met ++ [(x, y)], d ≠ (x, y) → d ∈ met := fun d hd he => by
    rcases List.mem_append.1 hd with h1 | h1
    · exact h1
    · exact absurd (List.mem_singleton.1 h1) he
  refine ⟨W', hrun, ⟨hm.eq (fun d => ?_), fun d hd => ?_, fun d hd ad e => ?_⟩, hg, hs⟩
  · by_cases e : d = (x, y)
    · subst e; simp [FA]
    · simp [FA, e]
  · by_cases e : d = (x, y)
    · subst e
      simp only [if_true]
      exact ⟨hdg.kept hg (fun _ ad e1 hk => (hpb ad e1).2.2 (Option.some.inj hk).symm), hc⟩
    · simp only [if_neg e]
      exact ⟨(h.pr d (key d hd e)).1.kept hg (fun _ ad e1 hk => (h.pb d (key d hd e) ad e1).2.2 (Option.some.inj hk).symm), (h.pr d (key d hd e)).2⟩
  · rw [hs]
    by_cases e1 : d = (x, y)
    · subst e1
      simp only [if_true] at e
      exact hpb ad e
    · simp only [if_neg e1] at e
      exact h.pb d (key d hd e1) ad e
end
/-- The search in memory: v the open slice (in box ob) that holds row, Ds the marks. -/
structure SV (xs : List Itm) (w0 : World) (b n ob : Nat) (met row : List (Int × Int)) (Ds : List Nat) (A : Int × Int → Option Addr × Nat) (v : Value) (W : World) : Prop where
  gr : w0.grownBy W (some b)
  lb : b < w0.heap.size
  bx : BK ob #[v] 24 W
  lo : w0.heap.size ≤ ob
  ow : W.ownsRow w0.heap.size 32 2 v row.length (dcells row)
  ne : v.ownBlock ≠ some ob
  vm : VM xs w0.heap.size b n met A W
  pb : ∀ d ∈ met, ∀ ad, (A d).1 = some ad → ad.block ≠ ob ∧ v.ownBlock ≠ some ad.block
  mks : ∀ D ∈ Ds, w0.heap.size ≤ D ∧ W.heap[D]? = some (.deferred (some []))
  nd : Ds.Nodup
section
variable {xs : List Itm} {w0 W W' : World} {b n ob : Nat} {met row : List (Int × Int)} {Ds : List Nat} {A : Int × Int → Option Addr × Nat} {v v' : Value}
theorem own_cells {base : Nat} {e : TypeId} {z : Nat} {m : Nat} {cs : List Value} (h : W.ownsRow base e z v m cs) {k : Nat} (hk : v.ownBlock = some k) {o : Obj} (ho : W.heap[k]? = some o) : o.isCells = true := by
  rcases h.2 with ⟨rfl, _⟩ | ⟨g, cap, cur, rfl, _, hg, _⟩
  · cases hk
  · have : g = k := by simpa [Value.ownBlock] using hk
    subst this
    rw [hg] at ho
    cases ho
    rfl
theorem SV.kept {r : Option Nat} (h : SV xs w0 b n ob met row Ds A v W) (hg : W.grownBy W' r) (hr : ∀ k, r = some k → w0.heap.size ≤ k ∧ k ∉ Ds ∧ ∃ o, W.heap[k]? = some o ∧ o.isCells = false) : SV xs w0 b n ob met row Ds A v W' := by
  have hlb := h.lb
  have e1 : ∀ k, r = some k → k ≠ ob := fun k e hk => by
    obtain ⟨_, _, o, ho, hc⟩ := hr k e
    subst hk
    rw [show W.heap[k]? = _ from h.bx] at ho
    cases ho
    cases hc
  refine ⟨h.gr.andThen hg (fun j e => .inl (hr j e).1), h.lb, h.bx.grow hg e1, h.lo, h.ow.kept hg ?_, h.ne, h.vm.kept hg (fun e => by have := (hr b e).1; omega) (fun k e d hd hp ad ha => ?_), h.pb, fun D hD => ⟨(h.mks D hD).1, (hg.block D (Array.getElem?_eq_some_iff.1 (h.mks D hD).2).1 (fun e => (hr D e.symm).2.1 hD)).trans (h.mks D hD).2⟩, h.nd⟩
  · cases hv : v.ownBlock with
    | none => exact .inl rfl
    | some k =>
      refine .inr (fun e => ?_)
      obtain ⟨_, _, o, ho, hc⟩ := hr k e.symm
      rw [own_cells h.ow hv ho] at hc
      cases hc
  · obtain ⟨_, _, o, ho, hc⟩ := hr k e
    exact digs_cells (h.vm.pr d hd).1 hp ha ho hc
theorem SV.below (h : SV xs w0 b n ob met row Ds A v W) (hb : Below W.heap.size W W') : SV xs w0 b n ob met row Ds A v W' := h.kept (grown_below hb) (fun k e => by cases e)
theorem SV.alloc (h : SV xs w0 b n ob met row Ds A v W) (o : Obj) : SV xs w0 b n ob met row Ds A v (W.alloc o) := h.below ((Below.refl _ _).alloc (Nat.le_refl _) _)
/-- A store into the box. -/
theorem SV.set (h : SV xs w0 b n ob met row Ds A v W) {row' : List (Int × Int)} (ho : W.ownsRow w0.heap.size 32 2 v' row'.length (dcells row')) (hv : v'.ownBlock = v.ownBlock) : SV xs w0 b n ob met row' Ds A v' (W.setCell ⟨ob, 0, none⟩ v') := by
  have hlb := h.lb
  have hlo := h.lo
  have hg : W.grownBy (W.setCell ⟨ob, 0, none⟩ v') (some ob) := grownBy_setCell' W ob v'
  have hs := h.bx.set 0 v'
  refine ⟨h.gr.andThen hg (fun j e => by cases e; exact .inl hlo), h.lb, hs, h.lo, ho.kept hg (.inr (by rw [hv]; exact h.ne)), by rw [hv]; exact h.ne, h.vm.kept hg (fun e => by cases e; omega) (fun k e d hd hp ad ha => by cases e; exact (h.pb d hd ad ha).1.symm), fun d hd ad e => ⟨(h.pb d hd ad e).1, by rw [hv]; exact (h.pb d hd ad e).2⟩, fun D hD => ⟨(h.mks D hD).1, (hg.block D (Array.getElem?_eq_some_iff.1 (h.mks D hD).2).1 (fun e => ?_)).trans (h.mks D hD).2⟩, h.nd⟩
  have h2 := (h.mks D hD).2
  cases e
  rw [show W.heap[ob]? = _ from h.bx] at h2
  cases h2
/-- A commit is laid into the map. -/
theorem SV.put (h : SV xs w0 b n ob met row Ds A v W) {x y : Int} (hd : OkD (x, y)) (hn : (n : Int) ≤ 1000000000) {pa : Option Addr} {pc : Nat} (hdg : Digs W.heap.size W pa (commitS xs (x, y)).1.pars) (hc : (commitS xs (x, y)).1.pars.length ≤ pc) (hpb : ∀ ad, pa = some ad → w0.heap.size ≤ ad.block ∧ ad.block < W.heap.size ∧ ad.block ≠ ob ∧ v.ownBlock ≠ some ad.block) :
    ∃ W', (Instr.mapUpdate 63 (.map (some b)) (.agg #[.int .u64 x, .int .u64 y]) (.slice pa (commitS xs (x, y)).1.pars.length pc)).run Tryz.prog W = .ok () W' ∧ SV xs w0 b (n + 1) ob (met ++ [(x, y)]) row Ds (fun d => if d = (x, y) then (pa, pc) else A d) v W' ∧ W.grownBy W' (some b) ∧ W'.heap.size = W.heap.size := by
  have hlb := h.lb
  obtain ⟨W', hrun, hv, hg, hs⟩ := h.vm.put hd hn hdg hc (fun ad e => ⟨(hpb ad e).1, (hpb ad e).2.1, by have := (hpb ad e).1; omega⟩)
  refine ⟨W', hrun, ⟨h.gr.andThen hg (fun j e => .inr e), h.lb, h.bx.grow1 hg (by have := h.lo; omega), h.lo, own_kept h.ow hg hlb, h.ne, hv, fun d hd ad e => ?_, fun D hD => ⟨(h.mks D hD).1, (hg.block D (Array.getElem?_eq_some_iff.1 (h.mks D hD).2).1 (fun e => by have := (h.mks D hD).1; cases e; omega)).trans (h.mks D hD).2⟩, h.nd⟩, hg, hs⟩
  by_cases e1 : d = (x, y)
  · subst e1
    simp only [if_true] at e
    exact (hpb ad e).2.2
  · simp only [if_neg e1] at e
    rcases List.mem_append.1 hd with h1 | h1
    · exact h.pb d h1 ad e
    · exact absurd (List.mem_singleton.1 h1) e1
/-- Something is appended to the open slice (box not yet written). -/
theorem SV.push (h : SV xs w0 b n ob met row Ds A v W) {row' : List (Int × Int)} (ho : W'.ownsRow w0.heap.size 32 2 v' row'.length (dcells row')) (hg : W.grownBy W' v.ownBlock) (hat : v'.ownBlock = v.ownBlock ∨ v'.ownBlock = some W.heap.size) : SV xs w0 b n ob met row' Ds A v' (W'.setCell ⟨ob, 0, none⟩ v') := by
  have hlb := h.lb
  have hlo := h.lo
  have hox := h.bx.lt
  have hvo : ∀ k, v.ownBlock = some k → w0.heap.size ≤ k ∧ k < W.heap.size := fun k e => h.ow.lt k e
  have hnew : v'.ownBlock ≠ some ob := by
    rcases hat with e | e
    · rw [e]; exact h.ne
    · rw [e]; intro e2; cases e2; omega
  have hg2 : W'.grownBy (W'.setCell ⟨ob, 0, none⟩ v') (some ob) := grownBy_setCell' W' ob v'
  have hbx' : BK ob #[v] 24 W' := h.bx.grow hg (fun k e hk => h.ne (by rw [e, hk]))
  refine ⟨(h.gr.andThen hg (fun j e => .inl (hvo j e).1)).andThen hg2 (fun j e => by cases e; exact .inl hlo), h.lb, hbx'.set 0 v', h.lo, ho.kept hg2 (.inr hnew), hnew, (h.vm.kept hg (fun e => by have := (hvo b e).1; omega) (fun k e d hd hp ad ha hk => (h.pb d hd ad ha).2 (by rw [e, hk]))).kept hg2 (fun e => by cases e; omega) (fun k e d hd hp ad ha => by cases e; exact (h.pb d hd ad ha).1.symm), fun d hd ad e => ⟨(h.pb d hd ad e).1, ?_⟩, fun D hD => ⟨(h.mks D hD).1, ?_⟩, h.nd⟩
  · rcases hat with e1 | e1
    · rw [e1]; exact (h.pb d hd ad e).2
    · rw [e1]; intro e2; have := (h.vm.pb d hd ad e).2.1; have := Option.some.inj e2; omega
  · have h2 := (h.mks D hD).2
    have h3 := (Array.getElem?_eq_some_iff.1 h2).1
    have h4 : W'.heap[D]? = some (.deferred (some [])) := (hg.block D h3 (fun e => by have := own_cells h.ow e.symm h2; cases this)).trans h2
    refine (hg2.block D (Nat.lt_of_lt_of_le h3 hg.size) (fun e => ?_)).trans h4
    cases e
    rw [show W'.heap[ob]? = _ from hbx'] at h4
    cases h4
/-- One mark more. -/
theorem SV.mark (h : SV xs w0 b n ob met row Ds A v W) {D : Nat} (h1 : w0.heap.size ≤ D) (h2 : W.heap[D]? = some (.deferred (some []))) (h3 : D ∉ Ds) : SV xs w0 b n ob met row (D :: Ds) A v W :=
  ⟨h.gr, h.lb, h.bx, h.lo, h.ow, h.ne, h.vm, h.pb, fun E hE => by
    rcases List.mem_cons.1 hE with rfl | hE
    · exact ⟨h1, h2⟩
    · exact h.mks E hE, List.nodup_cons.2 ⟨h3, h.nd⟩⟩
/-- A mark is taken. -/
theorem SV.unmark {D : Nat} (h : SV xs w0 b n ob met row (D :: Ds) A v W) : SV xs w0 b n ob met row Ds A v (W.putObj D (.deferred none)) := by
  have hm := h.mks D (by simp)
  have hnd := List.nodup_cons.1 h.nd
  have h' : SV xs w0 b n ob met row Ds A v W := ⟨h.gr, h.lb, h.bx, h.lo, h.ow, h.ne, h.vm, h.pb, fun E hE => h.mks E (by simp [hE]), hnd.2⟩
  exact h'.kept (grownBy_putObj' W D _) (fun k e => by cases e; exact ⟨hm.1, hnd.1, _, hm.2, rfl⟩)
end
theorem own_pop {base : Nat} {op : List (Int × Int)} {d1 d2 : Int} {W : World} {v : Value} (ho : W.ownsRow base 32 2 v (op ++ [(d1, d2)]).length (dcells (op ++ [(d1, d2)]))) : ∃ g c, v = .slice (some ⟨g, 0, none⟩) (op.length + 1) c ∧ op.length + 1 ≤ c ∧ W.cell? ⟨g, op.length * 2, none⟩ = some (.int .u64 d1) ∧ W.cell? ⟨g, op.length * 2 + 1, none⟩ = some (.int .u64 d2) ∧
    W.ownsRow base 32 2 (.slice (some ⟨g, 0, none⟩) op.length c) op.length (dcells op) := by
  rcases ho.2 with ⟨h1, h2⟩ | ⟨g, c, cur, h1, hbase, hg, hcap, hmax, hcs, htake⟩
  · simp at h2
  · rw [List.length_append, List.length_singleton] at h1 hcap htake
    subst h1
    have hat := dcells_at (op ++ [(d1, d2)]) op.length (by simp)
    simp only [List.getElem_append_right (Nat.le_refl _), Nat.sub_self, List.getElem_cons_zero] at hat
    refine ⟨g, c, rfl, hcap, ?_, ?_, ?_⟩
    · have := ho.cells (g := g) rfl _ _ hat.1; rwa [Go.WideShapes.add_plain, Nat.zero_add] at this
    · have := ho.cells (g := g) rfl _ _ hat.2; rwa [Go.WideShapes.add_plain, Nat.zero_add] at this
    · refine ⟨dcells_length op, .inr ⟨g, c, cur, rfl, hbase, hg, by omega, hmax, hcs, ?_⟩⟩
      have h3 : (cur.toList.take ((op.length + 1) * 2)).take (op.length * 2) = dcells op := by
        rw [htake, dcells_append, ← dcells_length op, List.take_left]
      rw [List.take_take, Nat.min_eq_left (by omega)] at h3
      exact h3
theorem pars_okD {xs : List Itm} {d : Int × Int} (h : (commitS xs d).2 = 0) : ∀ p ∈ (commitS xs d).1.pars, OkD p := by
  obtain ⟨h1, _, h3⟩ := commit_ok h
  obtain ⟨x, _, _, hd⟩ := getS_good h1
  have hg : decodeS x.data = ((getS xs d).1, 0) := by rw [hd, ← h1]
  rw [h3]
  exact (decode_good hg).2.2.1
theorem zeroSl (W : World) : (zeroValue 24).run Tryz.prog W = .ok (.slice none 0 0) W := by kernel_rfl
def marks (Ds : List Nat) : List Deferred := Ds.map fun D => { target := .collected D, args := #[] }
/-- The marks are taken at the end. -/
theorem leaves_marks {xs : List Itm} {w0 : World} {b n ob : Nat} {met row : List (Int × Int)} {A : Int × Int → Option Addr × Nat} {v : Value} {F : Fence} {nn : Nat} {P : Program} {fn : Func} {tmps : Array Value} {R : Ending → World → Prop} {u : FrameMode} (hu : u ≠ .run) :
    ∀ (Ds : List Nat) (W : World), SV xs w0 b n ob met row Ds A v W → (∀ W', SV xs w0 b n ob met row [] A v W' → LeavesInM F nn P fn tmps R [] u W') → LeavesInM F nn P fn tmps R (marks Ds) u W
  | [], W, h, k => k W h
  | D :: Ds, W, h, k => ⟨hu, .inl ⟨D, _, rfl, run_takeDeferred (h.mks D (by simp)).2, leaves_marks hu Ds _ h.unmark k⟩⟩

end Go.Proofs.YtgdhkcocdmdoaaaGreat
