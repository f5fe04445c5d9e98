/- The walk of the statement PoolCheck. -/
import Derived.Test.YtlfodnehgedpmaaGreatRpB
import Derived.Test.YtlfodnehgedpmaaGreatK5
namespace Go.Proofs.YtlfodnehgedpmaaGreat.poolCheck
open Go.RowKit Go.Shelf
set_option linter.unusedVariables false

set_option maxRecDepth 100000 in
set_option maxHeartbeats 2000000 in
theorem walk (a : Option Addr) (xs : List Itm) (c : Nat) (w : World) (hp : PoolCame w a xs c) :
    Calls Tryz.prog 5 #[.slice a xs.length c] w fun e w' => e = .returned (.bool true) ∧ Below w.heap.size w w' := by
  have hml := hp.cap
  unfold maxLen at hml
  have HG := Lib.hid (pgreat_any a xs c w hp.its (by omega) (fun x hx => by have := (hp.dat x hx).2; unfold maxLen at this; omega))
  have HA := Lib.hid (fun W => awake_any W)
  have HC := Lib.hid (fun (hg : pgreatS xs = false) W (hW : Below w.heap.size w W) => rpcheck_any a xs c W (hp.its.ahead hW) (by have := (pgreatS_false hg).1; omega) (fun x hx => by have := (pgreatS_false hg).2 x hx; omega))
  have HP := Lib.hid (fun (hg : pgreatS xs = false) W (hW : Below w.heap.size w W) => pcheck_any a xs c W ⟨hp.its.ahead hW, hp.cap.1, by have := (pgreatS_false hg).1; omega, fun x hx => by have := (pgreatS_false hg).2 x hx; omega⟩)
  clear hp
  generalize pgreatS xs = g at HG HC HP
  generalize checkP xs = ck at HC HP
  generalize xs.length = n at HG HC HP hml ⊢
  cases g with
  | true =>
    go_enter Tryz.func5, Tryz.ntmps5
    go_wp2_with fail
    (with_reducible refine (HG.out).mono ?_)
    rintro e u ⟨rfl, rfl⟩
    go_wp2_with fail
    (with_reducible refine (HA.out _).mono ?_)
    rintro e u ⟨rfl, hb⟩
    have HB := Lib.hid hb
    clear hb
    go_wp2_with fail
    go_ret
    exact ⟨rfl, HB.out⟩
  | false =>
    have HC2 := Lib.hid (HC.out rfl)
    have HP2 := Lib.hid (HP.out rfl)
    clear HC HP
    go_enter Tryz.func5, Tryz.ntmps5
    go_wp2_with fail
    (with_reducible refine (HG.out).mono ?_)
    rintro e u ⟨rfl, rfl⟩
    go_wp2_with fail
    (with_reducible refine (HP2.out _ (Below.refl _ _)).mono ?_)
    rintro e u ⟨rfl, hb⟩
    have HB := Lib.hid hb
    clear hb
    go_wp2_with fail
    (with_reducible refine (HC2.out _ HB.out).mono ?_)
    rintro e u2 ⟨rfl, hb⟩
    have HB2 := Lib.hid (HB.out.trans (hb.mono HB.out.size))
    clear hb
    go_wp2_with fail
    (with_reducible refine (HA.out _).mono ?_)
    rintro e u3 ⟨rfl, hb⟩
    have HB3 := Lib.hid (HB2.out.trans (hb.mono HB2.out.size))
    clear hb
    go_wp2_with fail
    go_ret
    exact ⟨rfl, HB3.out⟩

end Go.Proofs.YtlfodnehgedpmaaGreat.poolCheck
