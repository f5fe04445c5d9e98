/- The reference's Put, Add, Keep, Union. -/
import Derived.Test.YtgdhkcocdmdoaaaGreatRpG
namespace Go.Proofs.YtgdhkcocdmdoaaaGreat
open Go.RowKit Go.Shelf
set_option linter.unusedVariables false

theorem keepS_take (xs : List Itm) (l : List (Int × Int)) (k : Nat) (h : k < xs.length) : keepS (xs.take (k + 1)) l = keepS (xs.take k) l ++ (if decide (xs[k].d ∈ l) = true then [xs[k]] else []) := by
  unfold keepS
  rw [List.take_succ_eq_append_getElem h, List.filter_append]
  congr 1
  by_cases hd : xs[k].d ∈ l
  · simp [hd]
  · simp [hd]
/-- A pool with the items of another one. -/
def runS : List Itm → List Itm → List Itm × Int
  | zs, [] => (zs, 0)
  | zs, y :: ys => if (insS zs y).2 ≠ 0 then ([], (insS zs y).2) else runS (insS zs y).1 ys
end Go.Proofs.YtgdhkcocdmdoaaaGreat
