/- pool.Add, pool.Check. -/
import Derived.Test.YtlfodnehgedpmaaPoPu
namespace Go.Proofs.Ytlfodnehgedpmaa
open Go.RowKit Go.Shelf
set_option linter.unusedVariables false

def addS (xs : List Itm) (x : Itm) : List Itm × Int := if chkI x ≠ 0 then ([], chkI x) else insS xs x
def prevD : Option (Int × Int) → Int × Int → Bool
  | none, _ => false
  | some q, d => decide (cmpD d q ≤ 0)
/-- The first error of items behind a digest. -/
def chkGo : Option (Int × Int) → List Itm → Int
  | _, [] => 0
  | p, x :: r => if chkI x ≠ 0 then chkI x else if prevD p x.d = true then 10 else chkGo (some x.d) r
def checkP (xs : List Itm) : Int := chkGo none xs
def prevP (xs : List Itm) : Nat → Option (Int × Int)
  | 0 => none
  | k + 1 => (xs[k]?).map (·.d)
def CR (xs : List Itm) (k : Nat) : Prop := checkP xs = chkGo (prevP xs k) (xs.drop k)
theorem CR.start (xs : List Itm) : CR xs 0 := rfl
theorem CR.step {xs : List Itm} {k : Nat} (h : CR xs k) (hk : k < xs.length) : checkP xs = if chkI xs[k] ≠ 0 then chkI xs[k] else if prevD (prevP xs k) xs[k].d = true then 10 else chkGo (prevP xs (k + 1)) (xs.drop (k + 1)) := by
  unfold CR at h
  have e : prevP xs (k + 1) = some xs[k].d := by rw [prevP, List.getElem?_eq_getElem hk]; rfl
  rw [h, List.drop_eq_getElem_cons hk, chkGo, e]
theorem CR.fin {xs : List Itm} {k : Nat} (h : CR xs k) (hk : xs.length ≤ k) : checkP xs = 0 := by
  unfold CR at h
  rw [h, List.drop_of_length_le hk]
  cases prevP xs k <;> rfl

end Go.Proofs.Ytlfodnehgedpmaa
