/- Joined texts: ApPl, ApRw, ApOa, ApPp. -/
import Derived.Test.YtdedfkljaeloiaaGreatDoorG1
import Derived.Test.YtdedfkljaeloiaaGreatDoorG2
import Derived.Test.YtdedfkljaeloiaaGreatDoorK3

/- Owners files on paper: words, rules, who owns a path. -/
namespace Go.Proofs.YtdedfkljaeloiaaGreatDoor
open Go.RowKit
set_option linter.unusedVariables false

def spB (c : UInt8) : Bool := c == 32 || c == 10
def nlB (c : UInt8) : Bool := c == 10
/-- The words of a text with their offsets. -/
def wordsF : Nat → Pa → Nat → List (Pa × Nat)
  | 0, _, _ => []
  | _ + 1, [], _ => []
  | n + 1, c :: l, k =>
    if spB c = true then wordsF n l (k + 1)
    else if c = 35 then wordsF n ((c :: l).dropWhile fun c => !nlB c) (k + ((c :: l).takeWhile fun c => !nlB c).length)
    else (((c :: l).takeWhile fun c => !spB c), k) :: wordsF n ((c :: l).dropWhile fun c => !spB c) (k + ((c :: l).takeWhile fun c => !spB c).length)
/-- A rule: a prefix and groups. -/
abbrev Ru := Pa × List (List Pa)
def authO (s : Pa) : Ob := ⟨3, [], [], (1, 1), [], s, 0, []⟩
def personB (s : Pa) : Bool := !decide (s = [103, 114, 111, 117, 112]) && decide ((encodeS (authO s)).2 = 0)
def prefC (c : UInt8) : Bool := (decide (97 ≤ c) && decide (c ≤ 122)) || (decide (65 ≤ c) && decide (c ≤ 90)) || (decide (48 ≤ c) && decide (c ≤ 57)) || c == 46 || c == 95 || c == 45 || c == 47
def prefB (s : Pa) : Bool := decide (s.length ≤ 100) && s.all prefC
def modLast {α : Type} (f : α → α) : List α → List α
  | [] => []
  | [x] => [f x]
  | x :: y :: l => x :: modLast f (y :: l)
theorem modLast_snoc {α : Type} (f : α → α) : ∀ (l : List α) (x : α), modLast f (l ++ [x]) = l ++ [f x]
  | [], x => rfl
  | [a], x => rfl
  | a :: b :: l, x => by
    rw [List.cons_append, List.cons_append, modLast, ← List.cons_append, modLast_snoc f (b :: l) x]; rfl
/-- One word more: the place behind it, and the rules. -/
def stepR (pl : Nat) (rs : List Ru) (w : Pa) : Option (Nat × List Ru) :=
  if pl = 0 ∧ w = [97, 108, 108] then some (2, rs ++ [([], [])])
  else if pl = 0 ∧ w = [112, 114, 101, 102, 105, 120] then some (1, rs)
  else if pl = 1 ∧ prefB w = true then some (2, rs ++ [(w, [])])
  else if (pl = 2 ∨ pl = 4) ∧ w = [103, 114, 111, 117, 112] then some (3, modLast (fun r => (r.1, r.2 ++ [[]])) rs)
  else if (pl = 3 ∨ pl = 4) ∧ personB w = true then some (4, modLast (fun r => (r.1, modLast (fun g => g ++ [w]) r.2)) rs)
  else if pl = 4 ∧ w = [59] then some (0, rs)
  else none
def runR : List (Pa × Nat) → Nat → List Ru → Option (Nat × List Ru)
  | [], pl, rs => some (pl, rs)
  | w :: ws, pl, rs => match stepR pl rs w.1 with
    | some x => runR ws x.1 x.2
    | none => none
def groupB (g : List Pa) : Bool := decide (g ≠ []) && decide (g.length ≤ 40)
/-- Whether a rule by itself is valid (the numbers nt, np are the program's limits). -/
def dupB : List Pa → Bool
  | [] => true
  | w :: g => !decide (w ∈ g) && dupB g
def ruleB (mg mu : Nat) (r : Ru) : Bool := prefB r.1 && decide (r.2 ≠ []) && decide (r.2.length ≤ mg) && r.2.all fun g => decide (g ≠ []) && decide (g.length ≤ mu) && g.all personB && dupB g
def rulesB (mt mg mu : Nat) (rs : List Ru) : Bool := decide (rs.length ≤ mt) && rs.all (ruleB mg mu) && dupB (rs.map (·.1))
/-- The directories of a path, from the nearest one to the root: the owners file there, and the rest of the path. -/
def ownN : Pa := [79, 87, 78, 69, 82, 83]
def lastSl : Pa → Option (Pa × Pa)
  | [] => none
  | c :: l => match lastSl l with
    | some x => some (c :: x.1, x.2)
    | none => if c = 47 then some ([], l) else none
def dirsF : Nat → Pa → Pa → List (Pa × Pa)
  | 0, _, _ => []
  | n + 1, p, rest => match lastSl p with
    | none => [(ownN, p ++ rest)]
    | some x => (x.1 ++ 47 :: ownN, x.2 ++ rest) :: dirsF n x.1 (47 :: (x.2 ++ rest))
/-- The rule that fits best: the first one of those with the longest prefix. -/
def bestR (rest : Pa) : List Ru → Option Ru → Option Ru
  | [], b => b
  | r :: rs, b => if (r.1.isPrefixOf rest && (match b with | none => true | some q => decide (q.1.length < r.1.length))) = true then bestR rest rs (some r) else bestR rest rs b
def ownF (R : Pa → List Ru) : List (Pa × Pa) → List (List Pa)
  | [] => []
  | d :: ds => match bestR d.2 (R d.1) none with
    | some r => r.2
    | none => ownF R ds
end Go.Proofs.YtdedfkljaeloiaaGreatDoor

/- Rules in memory: rows of strings, of groups, of rules; the reader's box. -/
namespace Go.Proofs.YtdedfkljaeloiaaGreatDoor
open Go.RowKit Go.Shelf
set_option linter.unusedVariables false

/-- Two lists, element by element. -/
inductive Al {α β : Type} (R : α → β → Prop) : List α → List β → Prop
  | nil : Al R [] []
  | cons {a : α} {b : β} {xs : List α} {ys : List β} : R a b → Al R xs ys → Al R (a :: xs) (b :: ys)
theorem Al.imp {α β : Type} {R S : α → β → Prop} (f : ∀ a b, R a b → S a b) : ∀ {xs : List α} {ys : List β}, Al R xs ys → Al S xs ys
  | _, _, .nil => .nil
  | _, _, .cons h t => .cons (f _ _ h) (t.imp f)
theorem Al.len {α β : Type} {R : α → β → Prop} : ∀ {xs : List α} {ys : List β}, Al R xs ys → xs.length = ys.length
  | _, _, .nil => rfl
  | _, _, .cons h t => by simp [t.len]
theorem Al.snoc {α β : Type} {R : α → β → Prop} {a : α} {b : β} (hab : R a b) : ∀ {xs : List α} {ys : List β}, Al R xs ys → Al R (xs ++ [a]) (ys ++ [b])
  | _, _, .nil => .cons hab .nil
  | _, _, .cons h t => .cons h (t.snoc hab)
theorem Al.get {α β : Type} {R : α → β → Prop} : ∀ {xs : List α} {ys : List β}, Al R xs ys → ∀ (i : Nat) (h1 : i < xs.length) (h2 : i < ys.length), R xs[i] ys[i]
  | _, _, .nil, i, h1, _ => by simp at h1
  | _, _, .cons h t, 0, _, _ => h
  | _, _, .cons h t, i + 1, h1, h2 => t.get i (by simpa using h1) (by simpa using h2)
abbrev Hd := Option Addr × Nat × Nat
def hdV (h : Hd) : Value := .slice h.1 h.2.1 h.2.2
def slCs (h : Hd) : List Value := [hdV h]
def stCs (s : Pa) : List Value := [.string ⟨s.toArray⟩]
def ruCs (x : Pa × Hd) : List Value := [.string ⟨x.1.toArray⟩, hdV x.2]
theorem laySl : Lay slCs 1 := ⟨by decide, fun o => rfl, fun o v hv => by
  simp only [slCs, List.mem_cons, List.not_mem_nil, or_false] at hv
  subst hv; rfl⟩
theorem laySt : Lay stCs 1 := ⟨by decide, fun o => rfl, fun o v hv => by
  simp only [stCs, List.mem_cons, List.not_mem_nil, or_false] at hv
  subst hv; rfl⟩
theorem layRu : Lay ruCs 2 := ⟨by decide, fun o => rfl, fun o v hv => by
  simp only [ruCs, List.mem_cons, List.not_mem_nil, or_false] at hv
  rcases hv with rfl | rfl <;> rfl⟩
/-- An address points into a block of cells of type t. -/
def TyW (t : TypeId) (W : World) (a : Option Addr) : Prop := ∀ ad, a = some ad → ∃ cs fz, W.heap[ad.block]? = some (.cells cs t fz)
/-- A row that may be written is at or behind B, or of none of these types. -/
def Far (ts : List TypeId) (B : Nat) (W : World) (row : Option Nat) : Prop := ∀ k, row = some k → B ≤ k ∨ ∀ t ∈ ts, ∀ cs fz, W.heap[k]? ≠ some (.cells cs t fz)
theorem Far.none (ts : List TypeId) (B : Nat) (W : World) : Far ts B W .none := fun k e => by cases e
theorem Far.bk {ts : List TypeId} {B : Nat} {W : World} {b : Nat} {cs : Array Value} {t : TypeId} (h : BK b cs t W) (ht : t ∉ ts) : Far ts B W (some b) := fun k e => .inr (fun t' ht' cs' fz e' => by
  cases e
  rw [h] at e'
  cases e'
  exact ht ht')
theorem Far.own {ts : List TypeId} {B base : Nat} {W : World} {e : TypeId} {z : Nat} {v : Value} {n : Nat} {xs : List Value} (h : W.ownsRow base e z v n xs) (ht : e ∉ ts) : Far ts B W v.ownBlock := fun k ek => .inr (fun t' ht' cs' fz e' => by
  rcases h.2 with ⟨h1, _⟩ | ⟨g, cap, cur, h1, _, h3, _⟩
  · rw [h1] at ek; cases ek
  · rw [h1] at ek
    cases ek
    simp only at e'
    rw [h3] at e'
    cases e'
    exact ht ht')
theorem Far.lo {ts : List TypeId} {B base : Nat} {W : World} {e : TypeId} {z : Nat} {v : Value} {n : Nat} {xs : List Value} (h : W.ownsRow base e z v n xs) (hb : B ≤ base) : Far ts B W v.ownBlock := fun k ek => .inl (Nat.le_trans hb (h.lt k ek).1)
theorem Far.sub {ts ts' : List TypeId} {B : Nat} {W : World} {row : Option Nat} (h : Far ts B W row) (hs : ∀ t ∈ ts', t ∈ ts) : Far ts' B W row := fun k e => (h k e).imp id (fun g t ht => g t (hs t ht))
theorem Far.alloc {ts : List TypeId} {B : Nat} {W : World} {row : Option Nat} (h : Far ts B W row) (o : Obj) (hlt : ∀ k, row = some k → k < W.heap.size) : Far ts B (W.alloc o) row := fun k e => (h k e).imp id (fun g t ht cs fz e' => g t ht cs fz (by rwa [Below.heap_alloc _ _ _ (hlt k e)] at e'))
theorem TyW.lt {t : TypeId} {W : World} {a : Option Addr} (h : TyW t W a) : ∀ ad, a = some ad → ad.block < W.heap.size := fun ad e => by
  obtain ⟨_, _, h1⟩ := h ad e
  exact (Array.getElem?_eq_some_iff.1 h1).1
theorem TyW.none (t : TypeId) (W : World) : TyW t W .none := fun ad e => by cases e
/-- A row below B of one type: kept by what writes elsewhere. -/
structure RoW {α : Type} (f : α → List Value) (z : Nat) (t : TypeId) (B : Nat) (W : World) (h : Hd) (l : List α) : Prop where
  len : h.2.1 = l.length
  cap : h.2.1 ≤ h.2.2
  row : GIn f z B W h.1 l
  ty : TyW t W h.1
  lt : ∀ ad, h.1 = some ad → ad.block < B
section
variable {α : Type} {f : α → List Value} {z : Nat} {t : TypeId}
theorem RoW.grow {B B' : Nat} {W W' : World} {h : Hd} {l : List α} {row : Option Nat} (hr : RoW f z t B W h l) (hg : W.grownBy W' row) (hf : Far [t] B W row) (hB : B ≤ B') : RoW f z t B' W' h l := by
  have hb : ∀ ad, h.1 = some ad → W'.heap[ad.block]? = W.heap[ad.block]? := fun ad e => hg.block _ (hr.ty.lt ad e) (fun e' => by
    rcases hf _ e'.symm with h1 | h1
    · have := hr.lt ad e; omega
    · obtain ⟨cs, fz, h2⟩ := hr.ty ad e
      exact h1 t (by simp) cs fz h2)
  refine ⟨hr.len, hr.cap, fun i hi => ?_, fun ad e => ?_, fun ad e => Nat.lt_of_lt_of_le (hr.lt ad e) hB⟩
  · obtain ⟨b, off, ha, hlt, hc⟩ := hr.row i hi
    exact ⟨b, off, ha, by omega, fun j v hv => (World.cell?_of_block (a := ⟨b, off + i * z + j, .none⟩) (show W'.heap[b]? = W.heap[b]? from hb ⟨b, off, .none⟩ ha)).trans (hc j v hv)⟩
  · obtain ⟨cs, fz, h2⟩ := hr.ty ad e
    exact ⟨cs, fz, (hb ad e).trans h2⟩
theorem RoW.mono {B B' : Nat} {W : World} {h : Hd} {l : List α} (hr : RoW f z t B W h l) (hB : B ≤ B') : RoW f z t B' W h l := ⟨hr.len, hr.cap, hr.row.mono hB, hr.ty, fun ad e => Nat.lt_of_lt_of_le (hr.lt ad e) hB⟩
theorem RoW.below {B : Nat} {W W' : World} {h : Hd} {l : List α} (hr : RoW f z t B W h l) (hb : Below B W W') : RoW f z t B W' h l := by
  have hk : ∀ ad, h.1 = some ad → W'.heap[ad.block]? = W.heap[ad.block]? := fun ad e => hb.block _ (hr.lt ad e)
  refine ⟨hr.len, hr.cap, hr.row.below hb (Nat.le_refl _), fun ad e => ?_, hr.lt⟩
  obtain ⟨cs, fz, h2⟩ := hr.ty ad e
  exact ⟨cs, fz, (hk ad e).trans h2⟩
theorem RoW.of_own {W : World} {base : Nat} {h : Hd} {l : List α} (hf : Lay f z) (hn : h.2.1 = l.length) (ho : W.ownsRow base t z (hdV h) h.2.1 (gcs f l)) : RoW f z t W.heap.size W h l := by
  obtain ⟨a, n, c⟩ := h
  refine ⟨hn, own_cap ho, own_gin hf hn ho, fun ad e => ?_, fun ad e => ?_⟩
  · rcases ho.2 with ⟨h1, _⟩ | ⟨g, cap, cur, h1, _, h3, _⟩
    · simp only [hdV] at h1
      cases h1; cases e
    · simp only [hdV] at h1
      cases h1; cases e
      exact ⟨_, _, h3⟩
  · have := (ho.lt ad.block (by simp only [hdV, Value.ownBlock]; simp only at e; rw [e])).2
    exact this
theorem RoW.nil (B : Nat) (W : World) : RoW f z t B W (none, 0, 0) [] := ⟨rfl, Nat.le_refl _, GIn.nil _ _ _, TyW.none _ _, fun ad e => by cases e⟩
end
abbrev SrW (B : Nat) (W : World) (h : Hd) (g : List Pa) : Prop := RoW stCs 1 9 B W h g
/-- A row of groups. -/
def GrW (B : Nat) (W : World) (h : Hd) (G : List (List Pa)) : Prop := ∃ hs, RoW slCs 1 44 B W h hs ∧ Al (SrW B W) hs G
def RuW (B : Nat) (W : World) (x : Pa × Hd) (r : Ru) : Prop := x.1 = r.1 ∧ GrW B W x.2 r.2
/-- A row of rules. -/
def RlW (B : Nat) (W : World) (h : Hd) (R : List Ru) : Prop := ∃ L, RoW ruCs 2 127 B W h L ∧ Al (RuW B W) L R
theorem GrW.len {B : Nat} {W : World} {h : Hd} {G : List (List Pa)} (hr : GrW B W h G) : h.2.1 = G.length := by
  obtain ⟨hs, h1, h2⟩ := hr
  rw [h1.len, h2.len]
theorem RlW.len {B : Nat} {W : World} {h : Hd} {G : List Ru} (hr : RlW B W h G) : h.2.1 = G.length := by
  obtain ⟨hs, h1, h2⟩ := hr
  rw [h1.len, h2.len]
theorem GrW.grow {B B' : Nat} {W W' : World} {h : Hd} {G : List (List Pa)} {row : Option Nat} (hr : GrW B W h G) (hg : W.grownBy W' row) (hf : Far [9, 44] B W row) (hB : B ≤ B') : GrW B' W' h G := by
  obtain ⟨hs, h1, h2⟩ := hr
  exact ⟨hs, h1.grow hg (hf.sub (by simp)) hB, h2.imp (fun a b hab => hab.grow hg (hf.sub (by simp)) hB)⟩
theorem GrW.mono {B B' : Nat} {W : World} {h : Hd} {G : List (List Pa)} (hr : GrW B W h G) (hB : B ≤ B') : GrW B' W h G := by
  obtain ⟨hs, h1, h2⟩ := hr
  exact ⟨hs, h1.mono hB, h2.imp (fun a b hab => hab.mono hB)⟩
theorem GrW.below {B : Nat} {W W' : World} {h : Hd} {G : List (List Pa)} (hr : GrW B W h G) (hb : Below B W W') : GrW B W' h G := by
  obtain ⟨hs, h1, h2⟩ := hr
  exact ⟨hs, h1.below hb, h2.imp (fun a b hab => hab.below hb)⟩
theorem GrW.nil (B : Nat) (W : World) : GrW B W (none, 0, 0) [] := ⟨[], RoW.nil _ _, .nil⟩
theorem RuW.grow {B B' : Nat} {W W' : World} {x : Pa × Hd} {r : Ru} {row : Option Nat} (hr : RuW B W x r) (hg : W.grownBy W' row) (hf : Far [9, 44] B W row) (hB : B ≤ B') : RuW B' W' x r := ⟨hr.1, hr.2.grow hg hf hB⟩
theorem RuW.mono {B B' : Nat} {W : World} {x : Pa × Hd} {r : Ru} (hr : RuW B W x r) (hB : B ≤ B') : RuW B' W x r := ⟨hr.1, hr.2.mono hB⟩
theorem RuW.below {B : Nat} {W W' : World} {x : Pa × Hd} {r : Ru} (hr : RuW B W x r) (hb : Below B W W') : RuW B W' x r := ⟨hr.1, hr.2.below hb⟩
theorem RlW.mono {B B' : Nat} {W : World} {h : Hd} {G : List Ru} (hr : RlW B W h G) (hB : B ≤ B') : RlW B' W h G := by
  obtain ⟨hs, h1, h2⟩ := hr
  exact ⟨hs, h1.mono hB, h2.imp (fun a b hab => hab.mono hB)⟩
theorem RlW.below {B : Nat} {W W' : World} {h : Hd} {G : List Ru} (hr : RlW B W h G) (hb : Below B W W') : RlW B W' h G := by
  obtain ⟨hs, h1, h2⟩ := hr
  exact ⟨hs, h1.below hb, h2.imp (fun a b hab => hab.below hb)⟩
theorem RlW.nil (B : Nat) (W : World) : RlW B W (none, 0, 0) [] := ⟨[], RoW.nil _ _, .nil⟩
theorem sr_cell {B : Nat} {W : World} {h : Hd} {g : List Pa} (hr : SrW B W h g) {i : Nat} (hi : i < g.length) : ∃ b off, h.1 = some ⟨b, off, none⟩ ∧ b < B ∧ W.cell? ⟨b, off + i, none⟩ = some (.string ⟨(g[i]).toArray⟩) := by
  obtain ⟨b, off, h1, h2, h3⟩ := hr.row i hi
  exact ⟨b, off, h1, h2, by have := h3 0 _ rfl; rwa [Nat.mul_one, Nat.add_zero] at this⟩
theorem gr_cell {B : Nat} {W : World} {h : Hd} {G : List (List Pa)} (hr : GrW B W h G) {i : Nat} (hi : i < G.length) : ∃ b off x, h.1 = some ⟨b, off, none⟩ ∧ b < B ∧ W.cell? ⟨b, off + i, none⟩ = some (hdV x) ∧ SrW B W x G[i] := by
  obtain ⟨hs, h1, h2⟩ := hr
  have hi' : i < hs.length := by rw [h2.len]; exact hi
  obtain ⟨b, off, g1, g2, g3⟩ := h1.row i hi'
  exact ⟨b, off, hs[i], g1, g2, by have := g3 0 _ rfl; rwa [Nat.mul_one, Nat.add_zero] at this, h2.get i hi' hi⟩
theorem rl_cell {B : Nat} {W : World} {h : Hd} {R : List Ru} (hr : RlW B W h R) {i : Nat} (hi : i < R.length) : ∃ b off x, h.1 = some ⟨b, off, none⟩ ∧ b < B ∧ W.cell? ⟨b, off + i * 2, none⟩ = some (.string ⟨(R[i].1).toArray⟩) ∧ W.cell? ⟨b, off + i * 2 + 1, none⟩ = some (hdV x) ∧ GrW B W x R[i].2 := by
  obtain ⟨hs, h1, h2⟩ := hr
  have hi' : i < hs.length := by rw [h2.len]; exact hi
  obtain ⟨b, off, g1, g2, g3⟩ := h1.row i hi'
  have hx := h2.get i hi' hi
  exact ⟨b, off, hs[i].2, g1, g2, by rw [← hx.1]; exact g3 0 _ rfl, g3 1 _ rfl, hx.2⟩
theorem infoStr : (Tryz.prog.info? 9).map (fun i => (i.zero, i.size, i.bytes)) = some (some (.string ⟨#[]⟩), 1, 16) := by kernel_rfl
theorem infoSl : (Tryz.prog.info? 44).map (fun i => (i.zero, i.size, i.bytes)) = some (some (.slice none 0 0), 1, 24) := by kernel_rfl
theorem infoRu : (Tryz.prog.info? 127).map (fun i => (i.zero, i.size, i.bytes)) = some (some (.agg #[.string ⟨#[]⟩, .slice none 0 0]), 2, 40) := by kernel_rfl
theorem append_ru {base : Nat} {W : World} {v : Value} {n : Nat} {l : List (Pa × Hd)} (hn : n = l.length) (hown : W.ownsRow base 127 2 v n (gcs ruCs l)) (x : Pa × Hd) (hlen : (n : Int) ≤ 1000000) (hbase : base ≤ W.heap.size) :
    ∃ v' W', Hid ((Builtin.append_ #[125, 125] 125 #[v, .slice (some ⟨W.heap.size, 0, none⟩) 1 1]).run Tryz.prog (W.alloc (.cells (ruCs x).toArray 127)) = .ok v' W') ∧ W'.ownsRow base 127 2 v' (n + 1) (gcs ruCs (l ++ [x])) ∧ (W.alloc (.cells (ruCs x).toArray 127)).grownBy W' v.ownBlock ∧ (v'.ownBlock = v.ownBlock ∨ v'.ownBlock = some (W.heap.size + 1)) := by
  obtain ⟨i0, hi, hz0, hz1, hz2⟩ := info_parts infoRu
  exact append_oneG layRu Tryz.underlying125 hi hz0 hz1 hz2 rfl hn hown x hlen (by decide) hbase
theorem append_sl {base : Nat} {W : World} {v : Value} {n : Nat} {l : List Hd} (hn : n = l.length) (hown : W.ownsRow base 44 1 v n (gcs slCs l)) (x : Hd) (hlen : (n : Int) ≤ 1000000) (hbase : base ≤ W.heap.size) :
    ∃ v' W', Hid ((Builtin.append_ #[27, 27] 27 #[v, .slice (some ⟨W.heap.size, 0, none⟩) 1 1]).run Tryz.prog (W.alloc (.cells (slCs x).toArray 44)) = .ok v' W') ∧ W'.ownsRow base 44 1 v' (n + 1) (gcs slCs (l ++ [x])) ∧ (W.alloc (.cells (slCs x).toArray 44)).grownBy W' v.ownBlock ∧ (v'.ownBlock = v.ownBlock ∨ v'.ownBlock = some (W.heap.size + 1)) := by
  obtain ⟨i0, hi, hz0, hz1, hz2⟩ := info_parts infoSl
  exact append_oneG laySl Tryz.underlying27 hi hz0 hz1 hz2 rfl hn hown x hlen (by decide) hbase
theorem append_st {base : Nat} {W : World} {v : Value} {n : Nat} {l : List Pa} (hn : n = l.length) (hown : W.ownsRow base 9 1 v n (gcs stCs l)) (x : Pa) (hlen : (n : Int) ≤ 1000000) (hbase : base ≤ W.heap.size) :
    ∃ v' W', Hid ((Builtin.append_ #[44, 44] 44 #[v, .slice (some ⟨W.heap.size, 0, none⟩) 1 1]).run Tryz.prog (W.alloc (.cells (stCs x).toArray 9)) = .ok v' W') ∧ W'.ownsRow base 9 1 v' (n + 1) (gcs stCs (l ++ [x])) ∧ (W.alloc (.cells (stCs x).toArray 9)).grownBy W' v.ownBlock ∧ (v'.ownBlock = v.ownBlock ∨ v'.ownBlock = some (W.heap.size + 1)) := by
  obtain ⟨i0, hi, hz0, hz1, hz2⟩ := info_parts infoStr
  exact append_oneG laySt Tryz.underlying44 hi hz0 hz1 hz2 rfl hn hown x hlen (by decide) hbase
end Go.Proofs.YtdedfkljaeloiaaGreatDoor

/- owners.isPrefix, isName, isPerson, words$1. -/
namespace Go.Proofs.YtdedfkljaeloiaaGreatDoor
open Go.RowKit Go.Shelf
set_option linter.unusedVariables false

theorem prefC_iff (c : UInt8) : prefC c = true ↔ ((97 ≤ (c.toNat : Int) ∧ (c.toNat : Int) ≤ 122) ∨ (65 ≤ (c.toNat : Int) ∧ (c.toNat : Int) ≤ 90) ∨ (48 ≤ (c.toNat : Int) ∧ (c.toNat : Int) ≤ 57) ∨ (c.toNat : Int) = 46 ∨ (c.toNat : Int) = 95 ∨ (c.toNat : Int) = 45 ∨ (c.toNat : Int) = 47) := by
  have e : ∀ k : UInt8, (c == k) = true ↔ (c.toNat : Int) = k.toNat := fun k => by
    rw [beq_iff_eq, ← UInt8.toNat_inj]; omega
  have f : ∀ k : UInt8, k ≤ c ↔ (k.toNat : Int) ≤ c.toNat := fun k => by rw [UInt8.le_iff_toNat_le]; omega
  have g : ∀ k : UInt8, c ≤ k ↔ (c.toNat : Int) ≤ k.toNat := fun k => by rw [UInt8.le_iff_toNat_le]; omega
  simp only [prefC, Bool.or_eq_true, Bool.and_eq_true, decide_eq_true_eq, e, f, g]
  simp
  omega
theorem idxA (s : List UInt8) (k : Nat) (hs : k < s.length) (W : World) : (Instr.index 9 (.string ⟨s.toArray⟩) (.int .i64 (k : Int))).run Tryz.prog W = .ok (.int .u8 ((s[k]).toNat : Int)) W := by
  obtain ⟨d, _, _, hd, h⟩ := idx ⟨s.toArray⟩ k (by rw [ba_len]; exact hs)
  rw [h W, hd]
  simp [hs]
set_option maxRecDepth 100000 in
set_option maxHeartbeats 4000000 in
theorem isPrefix_any (s : Pa) (hs : (s.length : Int) ≤ 9223372036854775807) (w : World) : Calls Tryz.prog 144 #[.string ⟨s.toArray⟩] w fun e w' => e = .returned (.bool (prefB s)) ∧ w = w' := by
  obtain ⟨R, hR⟩ : ∃ R, R = prefB s := ⟨_, rfl⟩
  rw [← hR]
  unfold prefB at hR
  have HR := Lib.hid hR
  clear hR
  by_cases h1 : (100 : Int) < (s.length : Int)
  · have HF : Hid (R = false) := Lib.hid (by rw [HR.out, decide_eq_false (by omega)]; rfl)
    go_enter Tryz.func144, Tryz.ntmps144
    go_wp2_with fail
    go_ret
    exact ⟨by rw [HF.out]; rfl, rfl⟩
  · have HR2 : Hid (R = s.all prefC) := Lib.hid (by rw [HR.out, decide_eq_true (by omega)]; rfl)
    clear HR
    obtain ⟨n, hn⟩ : ∃ n, n = s.length := ⟨_, rfl⟩
    have HN := Lib.hid hn
    have h2 : (n : Int) ≤ 100 := by rw [hn]; omega
    have hsz : (⟨s.toArray⟩ : ByteArray).size = n := by rw [ba_len, hn]
    clear hn h1 hs
    go_enter Tryz.func144, Tryz.ntmps144
    go_wp2_with fail
    go_loopw [11] (fun i wr => ∃ k : Nat, k ≤ n ∧ i = .int .i64 (k : Int) ∧ Hid (∀ j (hj : j < s.length), j < k → prefC s[j] = true) ∧ w = wr) (fun i _ => n - (intOf i).toNat)
    case atStart => exact ⟨0, by omega, rfl, Lib.hid (fun j _ h => by omega), rfl⟩
    case round =>
      obtain ⟨k, hk, rfl, HA, rfl⟩ := hrel
      by_cases hlt : k < n
      · have hki : (k : Int) < (n : Int) := by omega
        have hkl : k < s.length := by rw [← HN.out]; exact hlt
        have hidx := fun W => idxA s k hkl W
        have HPC := Lib.hid (prefC_iff s[k])
        have HNX : Hid (prefC s[k] = true → ∀ j (hj : j < s.length), j < k + 1 → prefC s[j] = true) := Lib.hid (fun h j hj hjk => by
          rcases Nat.lt_or_ge j k with h3 | h3
          · exact HA.out j hj h3
          · obtain rfl : j = k := by omega
            exact h)
        have HBD : Hid (¬ prefC s[k] = true → R = false) := Lib.hid (fun h => by
          rw [HR2.out, List.all_eq_false]
          exact ⟨_, List.getElem_mem hkl, h⟩)
        generalize prefC s[k] = pc at HPC HNX HBD
        generalize ((s[k]).toNat : Int) = x at hidx HPC
        clear HA
        (by_cases h1 : 97 ≤ x <;> first | (exfalso; omega) | skip) <;> (by_cases h2 : x ≤ 122 <;> first | (exfalso; omega) | skip) <;> (by_cases h3 : 65 ≤ x <;> first | (exfalso; omega) | skip) <;> (by_cases h4 : x ≤ 90 <;> first | (exfalso; omega) | skip) <;> (by_cases h5 : 48 ≤ x <;> first | (exfalso; omega) | skip) <;> (by_cases h6 : x ≤ 57 <;> first | (exfalso; omega) | skip) <;> (by_cases h7 : x = 46 <;> first | (exfalso; omega) | skip) <;> (by_cases h8 : x = 95 <;> first | (exfalso; omega) | skip) <;> (by_cases h9 : x = 45 <;> first | (exfalso; omega) | skip) <;> (by_cases h10 : x = 47 <;> first | (exfalso; omega) | skip)
        all_goals first
          | (have hb := Lib.hid (HBD.out (fun h => by have := HPC.out.1 h; omega))
             clear HPC HNX HBD
             go_wp2_with fail
             all_goals first | (exfalso; rename_i hx; rcases hx with ((hx | hx) | hx) | hx <;> simp_all; done) | skip
             all_goals (go_ret; exact ⟨by rw [hb.out]; rfl, rfl⟩))
          | (have hb := Lib.hid (HNX.out (HPC.out.2 (by omega)))
             clear HPC HNX HBD
             go_wp2_with fail
             all_goals (go_roundw <;> first | exact ⟨k + 1, by omega, by go_num, hb, trivial⟩ | (simp [intOf] <;> omega)))
        all_goals (refine ⟨⟨k + 1, by omega, by go_num, by assumption, trivial⟩, ?_⟩; (simp [intOf] <;> omega))
      · have hki : ¬ (k : Int) < (n : Int) := by omega
        have HF : Hid (R = true) := Lib.hid (by
          rw [HR2.out, List.all_eq_true]
          intro c hc
          obtain ⟨j, hj, rfl⟩ := List.getElem_of_mem hc
          exact HA.out j hj (by have := HN.out; omega))
        go_wp2_with fail
        go_ret
        exact ⟨by rw [HF.out]; rfl, rfl⟩
set_option maxRecDepth 100000 in
set_option maxHeartbeats 4000000 in
theorem isName_any (s : Pa) (hs : (s.length : Int) ≤ 9223372036854775807) (w : World) : Calls Tryz.prog 174 #[.string ⟨s.toArray⟩] w fun e w' => e = .returned (.bool (decide ((encodeS (authO s)).2 = 0))) ∧ Below w.heap.size w w' := by
  have hob : ∀ W : World, ObIn W (authO s) none 0 none 0 := fun W => ⟨fun i h => by simp [authO] at h, fun i h => by simp [authO] at h, by simp [authO], by simp [authO], by simp [authO], by simp [authO], by simp [authO], by simp [authO], by simp [authO], by simp [authO], by simpa [authO] using hs, by simp [authO]⟩
  obtain ⟨u1, hu1⟩ : ∃ u1, u1 = w.alloc (.cells #[.int .i64 3, .string ⟨#[]⟩, .slice none 0 0, .int .u64 1, .int .u64 1, .slice none 0 0, .string ⟨s.toArray⟩, .int .i64 0, .string ⟨#[]⟩] 100) := ⟨_, rfl⟩
  have HB1 : Hid (Below w.heap.size w u1) := Lib.hid (by rw [hu1]; exact (Below.refl _ _).alloc (Nat.le_refl _) _)
  obtain ⟨r0, r1, r2, r3, r4, r5, r6, r7, r8⟩ := (BK.new w #[.int .i64 3, .string ⟨#[]⟩, .slice none 0 0, .int .u64 1, .int .u64 1, .slice none 0 0, .string ⟨s.toArray⟩, .int .i64 0, .string ⟨#[]⟩] 100).c9
  have HC := Lib.hid (ocheck_any (authO s) none 0 none 0 u1 (hob u1))
  simp only [authO, Ob.val, List.length_nil] at HC
  rw [hu1] at HC
  have HU1 := Lib.hid hu1
  generalize hce : (encodeS (authO s)).2 = ce
  simp only [authO] at hce
  rw [hce] at HC
  clear hu1 hob hce
  go_enter Tryz.func174, Tryz.ntmps174
  go_wp2_with fail
  (with_reducible refine HC.out.mono ?_)
  rintro e u ⟨rfl, hb⟩
  rw [← HU1.out] at hb
  have HB : Hid (Below w.heap.size w u) := Lib.hid (HB1.out.trans (hb.mono HB1.out.size))
  clear hb HC r0 r1 r2 r3 r4 r5 r6 r7 r8
  go_wp2_with fail
  go_ret
  refine ⟨?_, HB.out⟩
  first | rfl | (congr 2; simp)
theorem isPerson_any (s : Pa) (hs : (s.length : Int) ≤ 9223372036854775807) (w : World) : Calls Tryz.prog 145 #[.string ⟨s.toArray⟩] w fun e w' => e = .returned (.bool (personB s)) ∧ Below w.heap.size w w' := by
  obtain ⟨R, hR⟩ : ∃ R, R = personB s := ⟨_, rfl⟩
  rw [← hR]
  unfold personB at hR
  have HC := Lib.hid (isName_any s hs w)
  generalize decide ((encodeS (authO s)).2 = 0) = nb at HC hR
  by_cases hg : s = [103, 114, 111, 117, 112]
  · have HF : Hid (R = false) := Lib.hid (by rw [hR, decide_eq_true hg]; rfl)
    subst hg
    clear hR HC
    go_enter Tryz.func145, Tryz.ntmps145
    go_wp2_with fail
    go_ret
    exact ⟨by rw [HF.out]; rfl, Below.refl _ _⟩
  · have HF : Hid (R = nb) := Lib.hid (by rw [hR, decide_eq_false hg]; rfl)
    have hg2 : (s == [103, 114, 111, 117, 112]) = false := by simpa using hg
    clear hR hg
    go_enter Tryz.func145, Tryz.ntmps145
    go_wp2_with fail
    (with_reducible refine HC.out.mono ?_)
    rintro e u ⟨rfl, hb⟩
    have HB := Lib.hid hb
    clear hb HC
    go_wp2_with fail
    go_ret
    exact ⟨by rw [HF.out]; rfl, HB.out⟩
/-- words$1: a space or the end of a line. -/
theorem isSpace_any (c : UInt8) (w : World) : Calls Tryz.prog 141 #[.int .u8 (c.toNat : Int)] w fun e w' => e = .returned (.bool (spB c)) ∧ w' = w := by
  have e : ∀ k : UInt8, (c == k) = decide ((c.toNat : Int) = k.toNat) := fun k => by
    rw [Bool.eq_iff_iff, beq_iff_eq, ← UInt8.toNat_inj, decide_eq_true_eq]; omega
  have HR : Hid (spB c = (decide ((c.toNat : Int) = 32) || decide ((c.toNat : Int) = 10))) := Lib.hid (by unfold spB; rw [e, e]; rfl)
  generalize spB c = R at HR ⊢
  generalize (c.toNat : Int) = x at HR ⊢
  by_cases h1 : x = 32
  · have HF : Hid (R = true) := Lib.hid (by rw [HR.out, decide_eq_true h1]; rfl)
    subst h1
    clear HR
    go_enter Tryz.func141, Tryz.ntmps141
    go_wp2_with fail
    go_ret
    exact ⟨by rw [HF.out]; rfl, rfl⟩
  · by_cases h2 : x = 10
    · have HF : Hid (R = true) := Lib.hid (by rw [HR.out, decide_eq_true h2]; simp)
      subst h2
      clear HR
      go_enter Tryz.func141, Tryz.ntmps141
      go_wp2_with fail
      go_ret
      exact ⟨by rw [HF.out]; rfl, rfl⟩
    · have HF : Hid (R = false) := Lib.hid (by rw [HR.out, decide_eq_false h1, decide_eq_false h2]; rfl)
      clear HR
      go_enter Tryz.func141, Tryz.ntmps141
      go_wp2_with fail
      go_ret
      refine ⟨?_, rfl⟩
      rw [HF.out]
      first | rfl | simp [h1, h2]
end Go.Proofs.YtdedfkljaeloiaaGreatDoor

/- Owners files on paper: what a text's rules are, words have no spaces, joined groups; changes of files. -/
namespace Go.Proofs.YtdedfkljaeloiaaGreatDoor
open Go.RowKit
set_option linter.unusedVariables false

/-- Whether all names of rules are so. -/
def NmR (Q : Pa → Prop) (R : List Ru) : Prop := ∀ r ∈ R, (r.1 = [] ∨ Q r.1) ∧ ∀ g ∈ r.2, ∀ x ∈ g, Q x
theorem modLast_all {α : Type} {P : α → Prop} {f : α → α} (hf : ∀ x, P x → P (f x)) : ∀ l : List α, (∀ x ∈ l, P x) → ∀ x ∈ modLast f l, P x
  | [], _, x, hx => by simp [modLast] at hx
  | [a], h, x, hx => by
    simp only [modLast, List.mem_singleton] at hx
    rw [hx]; exact hf _ (h a (by simp))
  | a :: b :: l, h, x, hx => by
    rw [modLast, List.mem_cons] at hx
    rcases hx with rfl | hx
    · exact h _ (by simp)
    · exact modLast_all hf (b :: l) (fun y hy => h y (List.mem_cons_of_mem _ hy)) x hx
theorem stepR_all {Q : Pa → Prop} {pl : Nat} {R : List Ru} {s : Pa} {x : Nat × List Ru} (h : NmR Q R) (hs : Q s) (hx : stepR pl R s = some x) : NmR Q x.2 := by
  unfold stepR at hx
  split at hx
  · cases hx
    intro r hr
    rcases List.mem_append.1 hr with hr | hr
    · exact h r hr
    · simp at hr; subst hr; exact ⟨.inl rfl, by simp⟩
  · split at hx
    · cases hx; exact h
    · split at hx
      · cases hx
        intro r hr
        rcases List.mem_append.1 hr with hr | hr
        · exact h r hr
        · simp at hr; subst hr; exact ⟨.inr hs, by simp⟩
      · split at hx
        · cases hx
          refine modLast_all (fun r hr => ⟨hr.1, fun g hg => ?_⟩) R h
          rcases List.mem_append.1 hg with hg | hg
          · exact hr.2 g hg
          · simp at hg; subst hg; simp
        · split at hx
          · cases hx
            refine modLast_all (fun r hr => ⟨hr.1, ?_⟩) R h
            refine modLast_all (fun g hg x hx => ?_) r.2 hr.2
            rcases List.mem_append.1 hx with hx | hx
            · exact hg x hx
            · simp at hx; subst hx; exact hs
          · split at hx
            · cases hx; exact h
            · cases hx
theorem runR_all {Q : Pa → Prop} : ∀ (ws : List (Pa × Nat)) (pl : Nat) (R : List Ru) (x : Nat × List Ru), NmR Q R → (∀ w ∈ ws, Q w.1) → runR ws pl R = some x → NmR Q x.2
  | [], pl, R, x, h, _, hx => by simp only [runR, Option.some.injEq] at hx; subst hx; exact h
  | w :: ws, pl, R, x, h, hw, hx => by
    rw [runR] at hx
    cases hs : stepR pl R w.1 with
    | none => rw [hs] at hx; cases hx
    | some y =>
      rw [hs] at hx
      exact runR_all ws y.1 y.2 x (stepR_all h (hw w (by simp)) hs) (fun v hv => hw v (List.mem_cons_of_mem _ hv)) hx
theorem runR_app : ∀ (xs ys : List (Pa × Nat)) (pl : Nat) (R : List Ru), runR (xs ++ ys) pl R = match runR xs pl R with | some x => runR ys x.1 x.2 | none => none
  | [], ys, pl, R => rfl
  | w :: xs, ys, pl, R => by
    rw [List.cons_append, runR, runR]
    cases stepR pl R w.1 with
    | none => rfl
    | some y => exact runR_app xs ys y.1 y.2
/-- A word: not empty, no spaces, not longer than n. -/
def WdOk (n : Nat) (x : Pa) : Prop := x ≠ [] ∧ (∀ c ∈ x, spB c = false) ∧ x.length ≤ n
theorem tkW_all {q : UInt8 → Bool} : ∀ (l : Pa), ∀ c ∈ l.takeWhile q, q c = true
  | [], c, h => by simp at h
  | x :: l, c, h => by
    rw [List.takeWhile_cons] at h
    split at h
    · rename_i hx
      rcases List.mem_cons.1 h with rfl | h
      · exact hx
      · exact tkW_all l c h
    · simp at h
theorem tkW_len {q : UInt8 → Bool} : ∀ (l : Pa), (l.takeWhile q).length ≤ l.length
  | [] => by simp
  | x :: l => by
    rw [List.takeWhile_cons]
    split
    · have := tkW_len (q := q) l; simp; omega
    · simp
theorem drW_len {q : UInt8 → Bool} : ∀ (l : Pa), (l.dropWhile q).length ≤ l.length
  | [] => by simp
  | x :: l => by
    rw [List.dropWhile_cons]
    split
    · have := drW_len (q := q) l; simp; omega
    · simp
theorem words_ok : ∀ (n : Nat) (s : Pa) (k : Nat), ∀ x ∈ wordsF n s k, WdOk s.length x.1
  | 0, _, _, x, hx => by simp [wordsF] at hx
  | n + 1, [], _, x, hx => by simp [wordsF] at hx
  | n + 1, c :: l, k, x, hx => by
    have up : ∀ {m m' : Nat} {y : Pa}, WdOk m y → m ≤ m' → WdOk m' y := fun h hm => ⟨h.1, h.2.1, Nat.le_trans h.2.2 hm⟩
    rw [wordsF] at hx
    split at hx
    · exact up (words_ok n l _ x hx) (by simp)
    · rename_i h1
      split at hx
      · exact up (words_ok n _ _ x hx) (drW_len _)
      · rcases List.mem_cons.1 hx with rfl | hx
        · refine ⟨?_, fun d hd => ?_, tkW_len _⟩
          · simp only
            rw [List.takeWhile_cons, if_pos (by simpa using h1)]
            simp
          · have := tkW_all _ d hd
            simpa using this
        · exact up (words_ok n _ _ x hx) (drW_len _)
/-- The rules of an owners file. -/
def parseS (s : Pa) : Option (List Ru) :=
  if s.length ≤ 65536 then match runR (wordsF (s.length + 1) s 0) 0 [] with
    | some x => if x.1 = 0 ∧ rulesB 100 8 20 x.2 = true then some x.2 else none
    | none => none
  else none
theorem parse_ok {s : Pa} {R : List Ru} (h : parseS s = some R) : NmR (WdOk s.length) R ∧ R.length ≤ 100 ∧ ∀ r ∈ R, ruleB 8 20 r = true := by
  unfold parseS at h
  split at h
  · cases hr : runR (wordsF (s.length + 1) s 0) 0 [] with
    | none => rw [hr] at h; cases h
    | some x =>
      rw [hr] at h
      simp only at h
      split at h
      · rename_i h1
        cases h
        refine ⟨runR_all _ 0 [] x (fun r hr => by simp at hr) (fun w hw => words_ok _ _ _ w hw) hr, ?_, ?_⟩
        · have := h1.2
          simp only [rulesB, Bool.and_eq_true, decide_eq_true_eq] at this
          exact this.1.1
        · have := h1.2
          simp only [rulesB, Bool.and_eq_true, List.all_eq_true] at this
          exact this.1.2
      · cases h
  · cases h
/-- strings.Join(g, " "). -/
def joinS : List Pa → Pa
  | [] => []
  | [x] => x
  | x :: y :: l => x ++ 32 :: joinS (y :: l)
def GdG (g : List Pa) : Prop := ∀ x ∈ g, x ≠ [] ∧ ∀ c ∈ x, spB c = false
theorem sp_cut : ∀ {x y a b : Pa}, (∀ c ∈ x, spB c = false) → (∀ c ∈ y, spB c = false) → x ++ 32 :: a = y ++ 32 :: b → x = y ∧ a = b
  | [], [], a, b, _, _, e => by simpa using e
  | [], d :: y, a, b, _, h2, e => by
    simp only [List.nil_append, List.cons_append, List.cons.injEq] at e
    have := h2 d (by simp)
    rw [← e.1] at this
    simp [spB] at this
  | c :: x, [], a, b, h1, _, e => by
    simp only [List.nil_append, List.cons_append, List.cons.injEq] at e
    have := h1 c (by simp)
    rw [e.1] at this
    simp [spB] at this
  | c :: x, d :: y, a, b, h1, h2, e => by
    simp only [List.cons_append, List.cons.injEq] at e
    obtain ⟨e1, e2⟩ := sp_cut (fun z hz => h1 z (List.mem_cons_of_mem _ hz)) (fun z hz => h2 z (List.mem_cons_of_mem _ hz)) e.2
    exact ⟨by rw [e.1, e1], e2⟩
theorem no_sp {x y a : Pa} (h : ∀ c ∈ x, spB c = false) (e : x = y ++ 32 :: a) : False := by
  have := h 32 (by rw [e]; simp)
  simp [spB] at this
theorem joinS_inj : ∀ {g g' : List Pa}, GdG g → GdG g' → joinS g = joinS g' → g = g'
  | [], [], _, _, _ => rfl
  | [], [y], _, h, e => absurd e.symm (h y (by simp)).1
  | [], y :: z :: l, _, h, e => by simp [joinS] at e
  | [x], [], h, _, e => absurd e (h x (by simp)).1
  | x :: z :: l, [], h, _, e => by simp [joinS] at e
  | [x], [y], _, _, e => by simp only [joinS] at e; rw [e]
  | [x], y :: z :: l, h, _, e => by
    simp only [joinS] at e
    exact (no_sp (h x (by simp)).2 e).elim
  | x :: z :: l, [y], _, h, e => by
    simp only [joinS] at e
    exact (no_sp (h y (by simp)).2 e.symm).elim
  | x :: z :: l, y :: u :: m, h1, h2, e => by
    simp only [joinS] at e
    obtain ⟨e1, e2⟩ := sp_cut (h1 x (by simp)).2 (h2 y (by simp)).2 e
    have := joinS_inj (g := z :: l) (g' := u :: m) (fun w hw => h1 w (List.mem_cons_of_mem _ hw)) (fun w hw => h2 w (List.mem_cons_of_mem _ hw)) e2
    rw [e1, this]
/-- A change of a file. -/
structure Fc where
  path : Pa
  ho : Bool
  hn : Bool
  old : Pa
  new : Pa
deriving DecidableEq
def mkFc (p : Pa) (o n : Option Pa) : Fc := ⟨p, o.isSome, n.isSome, o.getD [], n.getD []⟩
/-- The changes from a list of files to another one. -/
def dfS : Nat → List Fl → List Fl → List Fc
  | 0, _, _ => []
  | _ + 1, [], [] => []
  | n + 1, x :: l, [] => mkFc x.path (some x.data) none :: dfS n l []
  | n + 1, [], y :: m => mkFc y.path none (some y.data) :: dfS n [] m
  | n + 1, x :: l, y :: m =>
    if Op.bytesLess x.path y.path = true then mkFc x.path (some x.data) none :: dfS n l (y :: m)
    else if Op.bytesLess y.path x.path = true then mkFc y.path none (some y.data) :: dfS n (x :: l) m
    else if x.data = y.data then dfS n l m
    else mkFc x.path (some x.data) (some y.data) :: dfS n l m
def dataF : List Fl → Pa → Option Pa
  | [], _ => none
  | x :: l, p => if x.path = p then some x.data else dataF l p
theorem dataF_none {p : Pa} : ∀ {l : List Fl}, (∀ x ∈ l, x.path ≠ p) → dataF l p = none
  | [], _ => rfl
  | x :: l, h => by rw [dataF, if_neg (h x (by simp)), dataF_none (fun y hy => h y (List.mem_cons_of_mem _ hy))]
theorem ascF_ne {x : Fl} {l : List Fl} (h : AscF (x :: l)) : ∀ y ∈ l, y.path ≠ x.path := fun y hy e => by
  have := (List.pairwise_cons.1 h).1 y hy
  rw [e] at this
  exact ltS_irrefl _ this
theorem df_mem (p : Pa) : ∀ (n : Nat) (l m : List Fl), AscF l → AscF m → l.length + m.length ≤ n → dataF l p ≠ dataF m p → mkFc p (dataF l p) (dataF m p) ∈ dfS n l m
  | 0, l, m, _, _, hn, hd => by
    have e1 : l = [] := List.length_eq_zero_iff.1 (by omega)
    have e2 : m = [] := List.length_eq_zero_iff.1 (by omega)
    subst e1 e2
    exact absurd rfl hd
  | n + 1, [], [], _, _, _, hd => absurd rfl hd
  | n + 1, x :: l, [], hl, hm, hn, hd => by
    rw [dfS]
    by_cases e : x.path = p
    · have e1 : dataF (x :: l) p = some x.data := by rw [dataF, if_pos e]
      rw [e1, ← e]; exact List.mem_cons_self ..
    · have : dataF (x :: l) p = dataF l p := by rw [dataF, if_neg e]
      rw [this] at hd ⊢
      exact List.mem_cons_of_mem _ (df_mem p n l [] (List.pairwise_cons.1 hl).2 hm (by simp at hn ⊢; omega) hd)
  | n + 1, [], y :: m, hl, hm, hn, hd => by
    rw [dfS]
    by_cases e : y.path = p
    · rw [dataF, dataF, if_pos e, ← e]; exact List.mem_cons_self ..
    · have : dataF (y :: m) p = dataF m p := by rw [dataF, if_neg e]
      rw [this] at hd ⊢
      exact List.mem_cons_of_mem _ (df_mem p n [] m hl (List.pairwise_cons.1 hm).2 (by simp at hn ⊢; omega) hd)
  | n + 1, x :: l, y :: m, hl, hm, hn, hd => by
    have hl' := List.pairwise_cons.1 hl
    have hm' := List.pairwise_cons.1 hm
    simp only [List.length_cons] at hn
    rw [dfS]
    split
    · rename_i h1
      by_cases e : x.path = p
      · have e2 : dataF (y :: m) p = none := dataF_none (fun z hz e3 => by
          rw [← e] at e3
          rcases List.mem_cons.1 hz with rfl | hz
          · rw [e3] at h1; exact ltS_irrefl _ h1
          · have h4 := ltS_trans h1 (hm'.1 z hz)
            rw [e3] at h4; exact ltS_irrefl _ h4)
        have e1 : dataF (x :: l) p = some x.data := by rw [dataF, if_pos e]
        rw [e2, e1, ← e]; exact List.mem_cons_self ..
      · have : dataF (x :: l) p = dataF l p := by rw [dataF, if_neg e]
        rw [this] at hd ⊢
        exact List.mem_cons_of_mem _ (df_mem p n l (y :: m) hl'.2 hm (by simp; omega) hd)
    · rename_i h1
      split
      · rename_i h2
        by_cases e : y.path = p
        · have e2 : dataF (x :: l) p = none := dataF_none (fun z hz e3 => by
            rw [← e] at e3
            rcases List.mem_cons.1 hz with rfl | hz
            · rw [e3] at h2; exact ltS_irrefl _ h2
            · have h4 := ltS_trans h2 (hl'.1 z hz)
              rw [e3] at h4; exact ltS_irrefl _ h4)
          have e3 : dataF (y :: m) p = some y.data := by rw [dataF, if_pos e]
          rw [e2, e3, ← e]; exact List.mem_cons_self ..
        · have : dataF (y :: m) p = dataF m p := by rw [dataF, if_neg e]
          rw [this] at hd ⊢
          exact List.mem_cons_of_mem _ (df_mem p n (x :: l) m hl hm'.2 (by simp; omega) hd)
      · rename_i h2
        have exy : x.path = y.path := by
          rcases ltS_total x.path y.path with h | h | h
          · exact absurd h h1
          · exact h
          · exact absurd h h2
        by_cases e : x.path = p
        · have e1 : dataF (x :: l) p = some x.data := by rw [dataF, if_pos e]
          have e2 : dataF (y :: m) p = some y.data := by rw [dataF, if_pos (by rw [← exy]; exact e)]
          rw [e1, e2] at hd ⊢
          rw [if_neg (fun h => hd (by rw [h])), ← e]
          exact List.mem_cons_self ..
        · have e1 : dataF (x :: l) p = dataF l p := by rw [dataF, if_neg e]
          have e2 : dataF (y :: m) p = dataF m p := by rw [dataF, if_neg (fun h => e (by rw [exy]; exact h))]
          rw [e1, e2] at hd ⊢
          have := df_mem p n l m hl'.2 hm'.2 (by omega) hd
          split
          · exact this
          · exact List.mem_cons_of_mem _ this
end Go.Proofs.YtdedfkljaeloiaaGreatDoor
