/-
  No cell of these rows narrows 'for every input' (looked for: loops, veiled, ifaces, maps, wideKeys, modest, calm, conditions, laid).
  DERIVED. THE GIVEN ROWS OF THIS SEAT. 8 by the template 'for every input the law returns true; each argument reads behind the call as it read before'; 0 by the template 'total and deterministic' (their statements: YtgdhkcocdmdoaaaGreatTotals.lean).
  GIVEN WITH THE SEED: the statements are not yours to turn. If you find one false, say at which input.
  Laid BY PROGRAM, IN A SANDBOX (cutbox-rows.mjs): the forced cells as the released guide's own fill.sh prints them over the translation 9b2e97c67429b673… (all of the seat's roots in one cut). By AI agents, Wed Nov 11 2026. No macro, syntax, notation, axiom, sorry.
-/
import Derived.Test.YtgdhkcocdmdoaaaGreatChecked
import GoSem.Claim
import GoSem.ClaimJoined
import GoSem.ClaimMapViews
import Derived.JoinedTies
import Derived.KernelRfl
namespace Go.Proofs.YtgdhkcocdmdoaaaGreat
/- THE CELL 'sum', in the pinned program and in every row, IS THE sha256 OF THE DUMP (.gsa) THAT YtgdhkcocdmdoaaaGreatProg.lean LOADS. Nothing in Lean hashes anything: it is a label: what it is worth is what the hold of that sum in a sandbox is worth. -/
noncomputable def Tryz.pinned : Pinned := { name := "ytgdhkcocdmdoaaagreat", sum := "9b2e97c67429b67311275df796cfa0af6383d8e88076ddecb589bfe12406dca9", checked := Tryz.checked }
namespace Rows
def none {H : Type} : Left H := { results := [], args := [] }

/-- 'cordwoodlaw13.HistoryOrder': WHATEVER THE INPUT: true; the input reads as it did. -/
def historyOrderSpec : ChangeSpec := { name := "historyOrder", fn := fun _ => fun
  | [d1, d2] => { results := [.lit (.bool true)], args := [d1, d2] }
  | _ => none }
def historyOrderRow : OpenClaim := { program := "ytgdhkcocdmdoaaagreat", sum := "9b2e97c67429b67311275df796cfa0af6383d8e88076ddecb589bfe12406dca9", func := "cordwood/cordwoodlaw13.HistoryOrder", spec := "historyOrder", inPlace := ["internal/abi.NoEscape"], unfollowed := true, recurses := true, plainKeys := false, apart := false }
def HistoryOrderSaid : Prop := historyOrderRow.holds Tryz.pinned (OpenSpec.ofChange historyOrderSpec)

/-- ITS FALSE NEIGHBOUR: 'it returns false'. Refute it at one input. -/
def historyOrderWrong : ChangeSpec := { name := "historyOrder", fn := fun _ => fun
  | [d1, d2] => { results := [.lit (.bool false)], args := [d1, d2] }
  | _ => none }
def HistoryOrderWrongFalsely : Prop := historyOrderRow.holds Tryz.pinned (OpenSpec.ofChange historyOrderWrong)

/-- 'cordwoodlaw13.HistoryReaching': WHATEVER THE INPUT: true; the input reads as it did. -/
def historyReachingSpec : ChangeSpec := { name := "historyReaching", fn := fun _ => fun
  | [d1, d2, d3, d4] => { results := [.lit (.bool true)], args := [d1, d2, d3, d4] }
  | _ => none }
def historyReachingRow : OpenClaim := { program := "ytgdhkcocdmdoaaagreat", sum := "9b2e97c67429b67311275df796cfa0af6383d8e88076ddecb589bfe12406dca9", func := "cordwood/cordwoodlaw13.HistoryReaching", spec := "historyReaching", inPlace := ["internal/abi.NoEscape"], unfollowed := true, recurses := true, plainKeys := false, apart := false }
def HistoryReachingSaid : Prop := historyReachingRow.holds Tryz.pinned (OpenSpec.ofChange historyReachingSpec)

/-- ITS FALSE NEIGHBOUR: 'it returns false'. Refute it at one input. -/
def historyReachingWrong : ChangeSpec := { name := "historyReaching", fn := fun _ => fun
  | [d1, d2, d3, d4] => { results := [.lit (.bool false)], args := [d1, d2, d3, d4] }
  | _ => none }
def HistoryReachingWrongFalsely : Prop := historyReachingRow.holds Tryz.pinned (OpenSpec.ofChange historyReachingWrong)

/-- 'cordwoodlaw13.HistoryBases': WHATEVER THE INPUT: true; the input reads as it did. -/
def historyBasesSpec : ChangeSpec := { name := "historyBases", fn := fun _ => fun
  | [d1, d2, d3] => { results := [.lit (.bool true)], args := [d1, d2, d3] }
  | _ => none }
def historyBasesRow : OpenClaim := { program := "ytgdhkcocdmdoaaagreat", sum := "9b2e97c67429b67311275df796cfa0af6383d8e88076ddecb589bfe12406dca9", func := "cordwood/cordwoodlaw13.HistoryBases", spec := "historyBases", inPlace := ["internal/abi.NoEscape"], unfollowed := true, recurses := true, plainKeys := false, apart := false }
def HistoryBasesSaid : Prop := historyBasesRow.holds Tryz.pinned (OpenSpec.ofChange historyBasesSpec)

/-- ITS FALSE NEIGHBOUR: 'it returns false'. Refute it at one input. -/
def historyBasesWrong : ChangeSpec := { name := "historyBases", fn := fun _ => fun
  | [d1, d2, d3] => { results := [.lit (.bool false)], args := [d1, d2, d3] }
  | _ => none }
def HistoryBasesWrongFalsely : Prop := historyBasesRow.holds Tryz.pinned (OpenSpec.ofChange historyBasesWrong)

/-- 'cordwoodlaw13.HistoryGrowth': WHATEVER THE INPUT: true; the input reads as it did. -/
def historyGrowthSpec : ChangeSpec := { name := "historyGrowth", fn := fun _ => fun
  | [d1, d2, d3] => { results := [.lit (.bool true)], args := [d1, d2, d3] }
  | _ => none }
def historyGrowthRow : OpenClaim := { program := "ytgdhkcocdmdoaaagreat", sum := "9b2e97c67429b67311275df796cfa0af6383d8e88076ddecb589bfe12406dca9", func := "cordwood/cordwoodlaw13.HistoryGrowth", spec := "historyGrowth", inPlace := ["internal/abi.NoEscape"], unfollowed := true, recurses := true, plainKeys := false, apart := false }
def HistoryGrowthSaid : Prop := historyGrowthRow.holds Tryz.pinned (OpenSpec.ofChange historyGrowthSpec)

/-- ITS FALSE NEIGHBOUR: 'it returns false'. Refute it at one input. -/
def historyGrowthWrong : ChangeSpec := { name := "historyGrowth", fn := fun _ => fun
  | [d1, d2, d3] => { results := [.lit (.bool false)], args := [d1, d2, d3] }
  | _ => none }
def HistoryGrowthWrongFalsely : Prop := historyGrowthRow.holds Tryz.pinned (OpenSpec.ofChange historyGrowthWrong)

/-- 'cordwoodlaw13.HistoryBetween': WHATEVER THE INPUT: true; the input reads as it did. -/
def historyBetweenSpec : ChangeSpec := { name := "historyBetween", fn := fun _ => fun
  | [d1, d2, d3] => { results := [.lit (.bool true)], args := [d1, d2, d3] }
  | _ => none }
def historyBetweenRow : OpenClaim := { program := "ytgdhkcocdmdoaaagreat", sum := "9b2e97c67429b67311275df796cfa0af6383d8e88076ddecb589bfe12406dca9", func := "cordwood/cordwoodlaw13.HistoryBetween", spec := "historyBetween", inPlace := ["internal/abi.NoEscape"], unfollowed := true, recurses := true, plainKeys := false, apart := false }
def HistoryBetweenSaid : Prop := historyBetweenRow.holds Tryz.pinned (OpenSpec.ofChange historyBetweenSpec)

/-- ITS FALSE NEIGHBOUR: 'it returns false'. Refute it at one input. -/
def historyBetweenWrong : ChangeSpec := { name := "historyBetween", fn := fun _ => fun
  | [d1, d2, d3] => { results := [.lit (.bool false)], args := [d1, d2, d3] }
  | _ => none }
def HistoryBetweenWrongFalsely : Prop := historyBetweenRow.holds Tryz.pinned (OpenSpec.ofChange historyBetweenWrong)

/-- 'cordwoodlaw13.HistoryFirst': WHATEVER THE INPUT: true; the input reads as it did. -/
def historyFirstSpec : ChangeSpec := { name := "historyFirst", fn := fun _ => fun
  | [d1, d2] => { results := [.lit (.bool true)], args := [d1, d2] }
  | _ => none }
def historyFirstRow : OpenClaim := { program := "ytgdhkcocdmdoaaagreat", sum := "9b2e97c67429b67311275df796cfa0af6383d8e88076ddecb589bfe12406dca9", func := "cordwood/cordwoodlaw13.HistoryFirst", spec := "historyFirst", inPlace := ["internal/abi.NoEscape"], unfollowed := true, recurses := true, plainKeys := false, apart := false }
def HistoryFirstSaid : Prop := historyFirstRow.holds Tryz.pinned (OpenSpec.ofChange historyFirstSpec)

/-- ITS FALSE NEIGHBOUR: 'it returns false'. Refute it at one input. -/
def historyFirstWrong : ChangeSpec := { name := "historyFirst", fn := fun _ => fun
  | [d1, d2] => { results := [.lit (.bool false)], args := [d1, d2] }
  | _ => none }
def HistoryFirstWrongFalsely : Prop := historyFirstRow.holds Tryz.pinned (OpenSpec.ofChange historyFirstWrong)

/-- 'cordwoodlaw13.HistoryCompares': WHATEVER THE INPUT: true; the input reads as it did. -/
def historyComparesSpec : ChangeSpec := { name := "historyCompares", fn := fun _ => fun
  | [d1, d2, d3, d4, d5] => { results := [.lit (.bool true)], args := [d1, d2, d3, d4, d5] }
  | _ => none }
def historyComparesRow : OpenClaim := { program := "ytgdhkcocdmdoaaagreat", sum := "9b2e97c67429b67311275df796cfa0af6383d8e88076ddecb589bfe12406dca9", func := "cordwood/cordwoodlaw13.HistoryCompares", spec := "historyCompares", inPlace := ["internal/abi.NoEscape"], unfollowed := true, recurses := true, plainKeys := false, apart := false }
def HistoryComparesSaid : Prop := historyComparesRow.holds Tryz.pinned (OpenSpec.ofChange historyComparesSpec)

/-- ITS FALSE NEIGHBOUR: 'it returns false'. Refute it at one input. -/
def historyComparesWrong : ChangeSpec := { name := "historyCompares", fn := fun _ => fun
  | [d1, d2, d3, d4, d5] => { results := [.lit (.bool false)], args := [d1, d2, d3, d4, d5] }
  | _ => none }
def HistoryComparesWrongFalsely : Prop := historyComparesRow.holds Tryz.pinned (OpenSpec.ofChange historyComparesWrong)

/-- 'cordwoodlaw13.HistoryReads': WHATEVER THE INPUT: true; the input reads as it did. -/
def historyReadsSpec : ChangeSpec := { name := "historyReads", fn := fun _ => fun
  | [d1, d2, d3] => { results := [.lit (.bool true)], args := [d1, d2, d3] }
  | _ => none }
def historyReadsRow : OpenClaim := { program := "ytgdhkcocdmdoaaagreat", sum := "9b2e97c67429b67311275df796cfa0af6383d8e88076ddecb589bfe12406dca9", func := "cordwood/cordwoodlaw13.HistoryReads", spec := "historyReads", inPlace := ["internal/abi.NoEscape"], unfollowed := true, recurses := true, plainKeys := false, apart := false }
def HistoryReadsSaid : Prop := historyReadsRow.holds Tryz.pinned (OpenSpec.ofChange historyReadsSpec)

/-- ITS FALSE NEIGHBOUR: 'it returns false'. Refute it at one input. -/
def historyReadsWrong : ChangeSpec := { name := "historyReads", fn := fun _ => fun
  | [d1, d2, d3] => { results := [.lit (.bool false)], args := [d1, d2, d3] }
  | _ => none }
def HistoryReadsWrongFalsely : Prop := historyReadsRow.holds Tryz.pinned (OpenSpec.ofChange historyReadsWrong)

/- THE SECOND FORM. 'bulk': how many values and letters a reading holds, each counted each time it is reached (what is shared counts as often as it is met; a slice's spare places count too). A statement '..UptoSaid' is the law's where the arguments, and the package variables that the reading takes, are together of bulk at most 1048576: NARROWER than '..Said'. Prove '..Said' where nothing that the law and all that it calls make is longer than what came in: it says more and counts as full. Else prove '..UptoSaid'. A law counts once. -/
mutual
def uptoBulk {H : Type} : DataW H → Nat
  | .lit (.string bytes) => bytes.length + 1
  | .lit _ => 1
  | .nil => 1
  | .ptr d => uptoBulk d + 1
  | .slice elems spare => uptoBulkAll elems + uptoBulkAll spare + 1
  | .agg parts => uptoBulkAll parts + 1
  | .iface _ d => uptoBulk d + 1
  | .map entries => uptoBulkEntries entries + 1
  | .held _ => 1
def uptoBulkAll {H : Type} : List (DataW H) → Nat
  | [] => 0
  | d :: r => uptoBulk d + uptoBulkAll r
def uptoBulkEntries {H : Type} : List (Lit × DataW H) → Nat
  | [] => 0
  | x :: r => uptoBulkEntry x + uptoBulkEntries r
def uptoBulkEntry {H : Type} : Lit × DataW H → Nat
  | (.string bytes, d) => bytes.length + uptoBulk d + 1
  | (_, d) => uptoBulk d + 1
 end
def uptoSmall : (H : Type) → List (DataW H) → Bool := fun _ ds => decide (uptoBulkAll ds ≤ 1048576)
def OpenSpec.upto (s : _root_.Go.ChangeSpec) : _root_.Go.OpenSpec := { _root_.Go.OpenSpec.ofChange s with cond := some uptoSmall }

/-- 'cordwoodlaw13.HistoryOrder', WHERE WHAT IT READS IS OF BULK AT MOST 1048576: true; the input reads as it did. -/
def historyOrderUptoRow : OpenClaim := { program := "ytgdhkcocdmdoaaagreat", sum := "9b2e97c67429b67311275df796cfa0af6383d8e88076ddecb589bfe12406dca9", func := "cordwood/cordwoodlaw13.HistoryOrder", spec := "historyOrder", inPlace := ["internal/abi.NoEscape"], unfollowed := true, recurses := true, plainKeys := false, apart := false, narrowed := true }
def HistoryOrderUptoSaid : Prop := historyOrderUptoRow.holds Tryz.pinned (OpenSpec.upto historyOrderSpec)

/-- 'cordwoodlaw13.HistoryReaching', WHERE WHAT IT READS IS OF BULK AT MOST 1048576: true; the input reads as it did. -/
def historyReachingUptoRow : OpenClaim := { program := "ytgdhkcocdmdoaaagreat", sum := "9b2e97c67429b67311275df796cfa0af6383d8e88076ddecb589bfe12406dca9", func := "cordwood/cordwoodlaw13.HistoryReaching", spec := "historyReaching", inPlace := ["internal/abi.NoEscape"], unfollowed := true, recurses := true, plainKeys := false, apart := false, narrowed := true }
def HistoryReachingUptoSaid : Prop := historyReachingUptoRow.holds Tryz.pinned (OpenSpec.upto historyReachingSpec)

/-- 'cordwoodlaw13.HistoryBases', WHERE WHAT IT READS IS OF BULK AT MOST 1048576: true; the input reads as it did. -/
def historyBasesUptoRow : OpenClaim := { program := "ytgdhkcocdmdoaaagreat", sum := "9b2e97c67429b67311275df796cfa0af6383d8e88076ddecb589bfe12406dca9", func := "cordwood/cordwoodlaw13.HistoryBases", spec := "historyBases", inPlace := ["internal/abi.NoEscape"], unfollowed := true, recurses := true, plainKeys := false, apart := false, narrowed := true }
def HistoryBasesUptoSaid : Prop := historyBasesUptoRow.holds Tryz.pinned (OpenSpec.upto historyBasesSpec)

/-- 'cordwoodlaw13.HistoryGrowth', WHERE WHAT IT READS IS OF BULK AT MOST 1048576: true; the input reads as it did. -/
def historyGrowthUptoRow : OpenClaim := { program := "ytgdhkcocdmdoaaagreat", sum := "9b2e97c67429b67311275df796cfa0af6383d8e88076ddecb589bfe12406dca9", func := "cordwood/cordwoodlaw13.HistoryGrowth", spec := "historyGrowth", inPlace := ["internal/abi.NoEscape"], unfollowed := true, recurses := true, plainKeys := false, apart := false, narrowed := true }
def HistoryGrowthUptoSaid : Prop := historyGrowthUptoRow.holds Tryz.pinned (OpenSpec.upto historyGrowthSpec)

/-- 'cordwoodlaw13.HistoryBetween', WHERE WHAT IT READS IS OF BULK AT MOST 1048576: true; the input reads as it did. -/
def historyBetweenUptoRow : OpenClaim := { program := "ytgdhkcocdmdoaaagreat", sum := "9b2e97c67429b67311275df796cfa0af6383d8e88076ddecb589bfe12406dca9", func := "cordwood/cordwoodlaw13.HistoryBetween", spec := "historyBetween", inPlace := ["internal/abi.NoEscape"], unfollowed := true, recurses := true, plainKeys := false, apart := false, narrowed := true }
def HistoryBetweenUptoSaid : Prop := historyBetweenUptoRow.holds Tryz.pinned (OpenSpec.upto historyBetweenSpec)

/-- 'cordwoodlaw13.HistoryFirst', WHERE WHAT IT READS IS OF BULK AT MOST 1048576: true; the input reads as it did. -/
def historyFirstUptoRow : OpenClaim := { program := "ytgdhkcocdmdoaaagreat", sum := "9b2e97c67429b67311275df796cfa0af6383d8e88076ddecb589bfe12406dca9", func := "cordwood/cordwoodlaw13.HistoryFirst", spec := "historyFirst", inPlace := ["internal/abi.NoEscape"], unfollowed := true, recurses := true, plainKeys := false, apart := false, narrowed := true }
def HistoryFirstUptoSaid : Prop := historyFirstUptoRow.holds Tryz.pinned (OpenSpec.upto historyFirstSpec)

/-- 'cordwoodlaw13.HistoryCompares', WHERE WHAT IT READS IS OF BULK AT MOST 1048576: true; the input reads as it did. -/
def historyComparesUptoRow : OpenClaim := { program := "ytgdhkcocdmdoaaagreat", sum := "9b2e97c67429b67311275df796cfa0af6383d8e88076ddecb589bfe12406dca9", func := "cordwood/cordwoodlaw13.HistoryCompares", spec := "historyCompares", inPlace := ["internal/abi.NoEscape"], unfollowed := true, recurses := true, plainKeys := false, apart := false, narrowed := true }
def HistoryComparesUptoSaid : Prop := historyComparesUptoRow.holds Tryz.pinned (OpenSpec.upto historyComparesSpec)

/-- 'cordwoodlaw13.HistoryReads', WHERE WHAT IT READS IS OF BULK AT MOST 1048576: true; the input reads as it did. -/
def historyReadsUptoRow : OpenClaim := { program := "ytgdhkcocdmdoaaagreat", sum := "9b2e97c67429b67311275df796cfa0af6383d8e88076ddecb589bfe12406dca9", func := "cordwood/cordwoodlaw13.HistoryReads", spec := "historyReads", inPlace := ["internal/abi.NoEscape"], unfollowed := true, recurses := true, plainKeys := false, apart := false, narrowed := true }
def HistoryReadsUptoSaid : Prop := historyReadsUptoRow.holds Tryz.pinned (OpenSpec.upto historyReadsSpec)

end Rows
end Go.Proofs.YtgdhkcocdmdoaaaGreat
