/- tree.Check on paper; tree.blob. -/
import Derived.Test.YtceacjnhkcikgaaGreatDoorTtMp
import Derived.Test.YtceacjnhkcikgaaGreatDoorTtVk
import Derived.Test.YtceacjnhkcikgaaGreatDoorK3
namespace Go.Proofs.YtceacjnhkcikgaaGreatDoor
open Go.RowKit Go.Shelf
set_option linter.unusedVariables false

/-- A path that is not behind the one ahead of it. -/
def badFP : Option Pa → Pa → Bool
  | some q, p => !Op.bytesLess q p
  | none, _ => false
/-- The first error of a path or of the order. -/
def chkFGo (prev : Option Pa) : List Fl → Int
  | [] => 0
  | x :: r => if pathB x.path = false then 6 else if badFP prev x.path = true then 10 else chkFGo (some x.path) r
def prevFP (l : List Fl) : Nat → Option Pa
  | 0 => none
  | k + 1 => l[k]?.map (·.path)
/-- Whether a directory of a path is a file. -/
def dirAt (l : List Fl) (p : Pa) (i : Nat) : Bool := decide (p[i]? = some 47) && decide (p.take i ∈ l.map (·.path))
def dirB (l : List Fl) (p : Pa) : Bool := (List.range p.length).any (dirAt l p)
def checkF (l : List Fl) : Int := if chkFGo none l ≠ 0 then chkFGo none l else if l.any (fun x => dirB l x.path) = true then 7 else 0
theorem chkFGo_drop {l : List Fl} {k : Nat} (h : k < l.length) : chkFGo (prevFP l k) (l.drop k) = if pathB l[k].path = false then 6 else if badFP (prevFP l k) l[k].path = true then 10 else chkFGo (prevFP l (k + 1)) (l.drop (k + 1)) := by
  have e : prevFP l (k + 1) = some l[k].path := by rw [prevFP, List.getElem?_eq_getElem h]; rfl
  rw [List.drop_eq_getElem_cons h, chkFGo, e]
/-- The first k paths, as a set. -/
def pathsK (l : List Fl) (k : Nat) (s : Pa) : Option Value := if s ∈ (l.take k).map (·.path) then some (.bool true) else none
theorem pathsK_succ {l : List Fl} {k : Nat} (h : k < l.length) (s : Pa) : (if s = l[k].path then some (Value.bool true) else pathsK l k s) = pathsK l (k + 1) s := by
  unfold pathsK
  rw [List.take_succ_eq_append_getElem h, List.map_append]
  by_cases h1 : s = l[k].path
  · rw [if_pos h1, if_pos (by rw [h1]; simp)]
  · rw [if_neg h1]
    by_cases h2 : s ∈ (l.take k).map (·.path)
    · rw [if_pos h2, if_pos (List.mem_append_left _ h2)]
    · rw [if_neg h2, if_neg (by rw [List.mem_append]; rintro (h | h); exact h2 h; exact h1 (by simpa using h))]
theorem idx_str (s : List UInt8) (k : Nat) (hs : k < s.length) (W : World) : (Instr.index 9 (.string ⟨s.toArray⟩) (.int .i64 (k : Int))).run Tryz.prog W = .ok (.int .u8 ((s[k]).toNat : Int)) W := by
  obtain ⟨d, _, _, hd, h⟩ := idx ⟨s.toArray⟩ k (by rw [ba_len]; exact hs)
  rw [h W, hd]
  simp [hs]
set_option maxRecDepth 100000 in
theorem blob_any (D : Pa) (w : World) : Calls Tryz.prog 24 #[.string ⟨D.toArray⟩] w fun e w' => e = .returned ((blobO D).val none 0 none 0) ∧ Below w.heap.size w w' := by
  have hk := BK.new w #[.int .i64 1, .string ⟨D.toArray⟩, .slice none 0 0, .int .u64 0, .int .u64 0, .slice none 0 0, .string ⟨#[]⟩, .int .i64 0, .string ⟨#[]⟩] 64
  have HB : Hid (Below w.heap.size w (w.alloc (.cells #[.int .i64 1, .string ⟨D.toArray⟩, .slice none 0 0, .int .u64 0, .int .u64 0, .slice none 0 0, .string ⟨#[]⟩, .int .i64 0, .string ⟨#[]⟩] 64))) := Lib.hid ((Below.refl _ w).alloc (Nat.le_refl _) _)
  obtain ⟨r0, r1, r2, r3, r4, r5, r6, r7, r8⟩ := BK.c9 hk
  go_enter Tryz.func24, Tryz.ntmps24
  go_wp2_with fail
  refine bodyPost_ret (v := (blobO D).val none 0 none 0) (by simp [results, Tryz.results24, go_sem, blobO, Ob.val, r0, r1, r2, r3, r4, r5, r6, r7, r8]) rfl ?_
  exact ⟨rfl, HB.out⟩
end Go.Proofs.YtceacjnhkcikgaaGreatDoor
