/-
  No cell of these rows narrows 'for every input' (looked for: loops, veiled, ifaces, maps, wideKeys, modest, calm, conditions, laid).
  DERIVED. THE GIVEN ROWS OF THIS SEAT. 7 by the template 'for every input the law returns true; each argument reads behind the call as it read before'; 0 by the template 'total and deterministic' (their statements: YtlfodnehgedpmaaGreatTotals.lean).
  GIVEN WITH THE SEED: the statements are not yours to turn. If you find one false, say at which input.
  Laid BY PROGRAM, IN A SANDBOX (cutbox-rows.mjs): the forced cells as the released guide's own fill.sh prints them over the translation 603da24538caf343… (all of the seat's roots in one cut). By AI agents, Wed Nov 11 2026. No macro, syntax, notation, axiom, sorry.
-/
import Derived.Test.YtlfodnehgedpmaaGreatChecked
import GoSem.Claim
import GoSem.ClaimJoined
import GoSem.ClaimMapViews
import Derived.JoinedTies
import Derived.KernelRfl
namespace Go.Proofs.YtlfodnehgedpmaaGreat
/- THE CELL 'sum', in the pinned program and in every row, IS THE sha256 OF THE DUMP (.gsa) THAT YtlfodnehgedpmaaGreatProg.lean LOADS. Nothing in Lean hashes anything: it is a label: what it is worth is what the hold of that sum in a sandbox is worth. -/
noncomputable def Tryz.pinned : Pinned := { name := "ytlfodnehgedpmaagreat", sum := "603da24538caf3439d4a73eee5854b9a9a78d00a7aebf6930a5a81c31577cbd9", checked := Tryz.checked }
namespace Rows
def none {H : Type} : Left H := { results := [], args := [] }

/-- 'cordwoodlaw08.PoolTrust': WHATEVER THE INPUT: true; the input reads as it did. -/
def poolTrustSpec : ChangeSpec := { name := "poolTrust", fn := fun _ => fun
  | [d1, d2, d3] => { results := [.lit (.bool true)], args := [d1, d2, d3] }
  | _ => none }
def poolTrustRow : OpenClaim := { program := "ytlfodnehgedpmaagreat", sum := "603da24538caf3439d4a73eee5854b9a9a78d00a7aebf6930a5a81c31577cbd9", func := "cordwood/cordwoodlaw08.PoolTrust", spec := "poolTrust", inPlace := ["internal/abi.NoEscape"], unfollowed := true, recurses := true, plainKeys := false, apart := false }
def PoolTrustSaid : Prop := poolTrustRow.holds Tryz.pinned (OpenSpec.ofChange poolTrustSpec)

/-- ITS FALSE NEIGHBOUR: 'it returns false'. Refute it at one input. -/
def poolTrustWrong : ChangeSpec := { name := "poolTrust", fn := fun _ => fun
  | [d1, d2, d3] => { results := [.lit (.bool false)], args := [d1, d2, d3] }
  | _ => none }
def PoolTrustWrongFalsely : Prop := poolTrustRow.holds Tryz.pinned (OpenSpec.ofChange poolTrustWrong)

/-- 'cordwoodlaw08.PoolClosed': WHATEVER THE INPUT: true; the input reads as it did. -/
def poolClosedSpec : ChangeSpec := { name := "poolClosed", fn := fun _ => fun
  | [d1, d2] => { results := [.lit (.bool true)], args := [d1, d2] }
  | _ => none }
def poolClosedRow : OpenClaim := { program := "ytlfodnehgedpmaagreat", sum := "603da24538caf3439d4a73eee5854b9a9a78d00a7aebf6930a5a81c31577cbd9", func := "cordwood/cordwoodlaw08.PoolClosed", spec := "poolClosed", inPlace := ["internal/abi.NoEscape"], unfollowed := true, recurses := true, plainKeys := false, apart := false }
def PoolClosedSaid : Prop := poolClosedRow.holds Tryz.pinned (OpenSpec.ofChange poolClosedSpec)

/-- ITS FALSE NEIGHBOUR: 'it returns false'. Refute it at one input. -/
def poolClosedWrong : ChangeSpec := { name := "poolClosed", fn := fun _ => fun
  | [d1, d2] => { results := [.lit (.bool false)], args := [d1, d2] }
  | _ => none }
def PoolClosedWrongFalsely : Prop := poolClosedRow.holds Tryz.pinned (OpenSpec.ofChange poolClosedWrong)

/-- 'cordwoodlaw08.PoolCheck': WHATEVER THE INPUT: true; the input reads as it did. -/
def poolCheckSpec : ChangeSpec := { name := "poolCheck", fn := fun _ => fun
  | [d] => { results := [.lit (.bool true)], args := [d] }
  | _ => none }
def poolCheckRow : OpenClaim := { program := "ytlfodnehgedpmaagreat", sum := "603da24538caf3439d4a73eee5854b9a9a78d00a7aebf6930a5a81c31577cbd9", func := "cordwood/cordwoodlaw08.PoolCheck", spec := "poolCheck", inPlace := ["internal/abi.NoEscape"], unfollowed := true, recurses := true, plainKeys := false, apart := false }
def PoolCheckSaid : Prop := poolCheckRow.holds Tryz.pinned (OpenSpec.ofChange poolCheckSpec)

/-- ITS FALSE NEIGHBOUR: 'it returns false'. Refute it at one input. -/
def poolCheckWrong : ChangeSpec := { name := "poolCheck", fn := fun _ => fun
  | [d] => { results := [.lit (.bool false)], args := [d] }
  | _ => none }
def PoolCheckWrongFalsely : Prop := poolCheckRow.holds Tryz.pinned (OpenSpec.ofChange poolCheckWrong)

/-- 'cordwoodlaw08.PoolPut': WHATEVER THE INPUT: true; the input reads as it did. -/
def poolPutSpec : ChangeSpec := { name := "poolPut", fn := fun _ => fun
  | [d1, d2, d3, d4] => { results := [.lit (.bool true)], args := [d1, d2, d3, d4] }
  | _ => none }
def poolPutRow : OpenClaim := { program := "ytlfodnehgedpmaagreat", sum := "603da24538caf3439d4a73eee5854b9a9a78d00a7aebf6930a5a81c31577cbd9", func := "cordwood/cordwoodlaw08.PoolPut", spec := "poolPut", inPlace := ["internal/abi.NoEscape"], unfollowed := true, recurses := true, plainKeys := false, apart := false }
def PoolPutSaid : Prop := poolPutRow.holds Tryz.pinned (OpenSpec.ofChange poolPutSpec)

/-- ITS FALSE NEIGHBOUR: 'it returns false'. Refute it at one input. -/
def poolPutWrong : ChangeSpec := { name := "poolPut", fn := fun _ => fun
  | [d1, d2, d3, d4] => { results := [.lit (.bool false)], args := [d1, d2, d3, d4] }
  | _ => none }
def PoolPutWrongFalsely : Prop := poolPutRow.holds Tryz.pinned (OpenSpec.ofChange poolPutWrong)

/-- 'cordwoodlaw08.PoolContents': WHATEVER THE INPUT: true; the input reads as it did. -/
def poolContentsSpec : ChangeSpec := { name := "poolContents", fn := fun _ => fun
  | [d1, d2] => { results := [.lit (.bool true)], args := [d1, d2] }
  | _ => none }
def poolContentsRow : OpenClaim := { program := "ytlfodnehgedpmaagreat", sum := "603da24538caf3439d4a73eee5854b9a9a78d00a7aebf6930a5a81c31577cbd9", func := "cordwood/cordwoodlaw08.PoolContents", spec := "poolContents", inPlace := ["internal/abi.NoEscape"], unfollowed := true, recurses := true, plainKeys := false, apart := false }
def PoolContentsSaid : Prop := poolContentsRow.holds Tryz.pinned (OpenSpec.ofChange poolContentsSpec)

/-- ITS FALSE NEIGHBOUR: 'it returns false'. Refute it at one input. -/
def poolContentsWrong : ChangeSpec := { name := "poolContents", fn := fun _ => fun
  | [d1, d2] => { results := [.lit (.bool false)], args := [d1, d2] }
  | _ => none }
def PoolContentsWrongFalsely : Prop := poolContentsRow.holds Tryz.pinned (OpenSpec.ofChange poolContentsWrong)

/-- 'cordwoodlaw08.PoolReach': WHATEVER THE INPUT: true; the input reads as it did. -/
def poolReachSpec : ChangeSpec := { name := "poolReach", fn := fun _ => fun
  | [d1, d2, d3] => { results := [.lit (.bool true)], args := [d1, d2, d3] }
  | _ => none }
def poolReachRow : OpenClaim := { program := "ytlfodnehgedpmaagreat", sum := "603da24538caf3439d4a73eee5854b9a9a78d00a7aebf6930a5a81c31577cbd9", func := "cordwood/cordwoodlaw08.PoolReach", spec := "poolReach", inPlace := ["internal/abi.NoEscape"], unfollowed := true, recurses := true, plainKeys := false, apart := false }
def PoolReachSaid : Prop := poolReachRow.holds Tryz.pinned (OpenSpec.ofChange poolReachSpec)

/-- ITS FALSE NEIGHBOUR: 'it returns false'. Refute it at one input. -/
def poolReachWrong : ChangeSpec := { name := "poolReach", fn := fun _ => fun
  | [d1, d2, d3] => { results := [.lit (.bool false)], args := [d1, d2, d3] }
  | _ => none }
def PoolReachWrongFalsely : Prop := poolReachRow.holds Tryz.pinned (OpenSpec.ofChange poolReachWrong)

/-- 'cordwoodlaw08.PoolUnion': WHATEVER THE INPUT: true; the input reads as it did. -/
def poolUnionSpec : ChangeSpec := { name := "poolUnion", fn := fun _ => fun
  | [d1, d2, d3] => { results := [.lit (.bool true)], args := [d1, d2, d3] }
  | _ => none }
def poolUnionRow : OpenClaim := { program := "ytlfodnehgedpmaagreat", sum := "603da24538caf3439d4a73eee5854b9a9a78d00a7aebf6930a5a81c31577cbd9", func := "cordwood/cordwoodlaw08.PoolUnion", spec := "poolUnion", inPlace := ["internal/abi.NoEscape"], unfollowed := true, recurses := true, plainKeys := false, apart := false }
def PoolUnionSaid : Prop := poolUnionRow.holds Tryz.pinned (OpenSpec.ofChange poolUnionSpec)

/-- ITS FALSE NEIGHBOUR: 'it returns false'. Refute it at one input. -/
def poolUnionWrong : ChangeSpec := { name := "poolUnion", fn := fun _ => fun
  | [d1, d2, d3] => { results := [.lit (.bool false)], args := [d1, d2, d3] }
  | _ => none }
def PoolUnionWrongFalsely : Prop := poolUnionRow.holds Tryz.pinned (OpenSpec.ofChange poolUnionWrong)

/- THE SECOND FORM. 'bulk': how many values and letters a reading holds, each counted each time it is reached (what is shared counts as often as it is met; a slice's spare places count too). A statement '..UptoSaid' is the law's where the arguments, and the package variables that the reading takes, are together of bulk at most 1048576: NARROWER than '..Said'. Prove '..Said' where nothing that the law and all that it calls make is longer than what came in: it says more and counts as full. Else prove '..UptoSaid'. A law counts once. -/
mutual
def uptoBulk {H : Type} : DataW H → Nat
  | .lit (.string bytes) => bytes.length + 1
  | .lit _ => 1
  | .nil => 1
  | .ptr d => uptoBulk d + 1
  | .slice elems spare => uptoBulkAll elems + uptoBulkAll spare + 1
  | .agg parts => uptoBulkAll parts + 1
  | .iface _ d => uptoBulk d + 1
  | .map entries => uptoBulkEntries entries + 1
  | .held _ => 1
def uptoBulkAll {H : Type} : List (DataW H) → Nat
  | [] => 0
  | d :: r => uptoBulk d + uptoBulkAll r
def uptoBulkEntries {H : Type} : List (Lit × DataW H) → Nat
  | [] => 0
  | x :: r => uptoBulkEntry x + uptoBulkEntries r
def uptoBulkEntry {H : Type} : Lit × DataW H → Nat
  | (.string bytes, d) => bytes.length + uptoBulk d + 1
  | (_, d) => uptoBulk d + 1
 end
def uptoSmall : (H : Type) → List (DataW H) → Bool := fun _ ds => decide (uptoBulkAll ds ≤ 1048576)
def OpenSpec.upto (s : _root_.Go.ChangeSpec) : _root_.Go.OpenSpec := { _root_.Go.OpenSpec.ofChange s with cond := some uptoSmall }

/-- 'cordwoodlaw08.PoolTrust', WHERE WHAT IT READS IS OF BULK AT MOST 1048576: true; the input reads as it did. -/
def poolTrustUptoRow : OpenClaim := { program := "ytlfodnehgedpmaagreat", sum := "603da24538caf3439d4a73eee5854b9a9a78d00a7aebf6930a5a81c31577cbd9", func := "cordwood/cordwoodlaw08.PoolTrust", spec := "poolTrust", inPlace := ["internal/abi.NoEscape"], unfollowed := true, recurses := true, plainKeys := false, apart := false, narrowed := true }
def PoolTrustUptoSaid : Prop := poolTrustUptoRow.holds Tryz.pinned (OpenSpec.upto poolTrustSpec)

/-- 'cordwoodlaw08.PoolClosed', WHERE WHAT IT READS IS OF BULK AT MOST 1048576: true; the input reads as it did. -/
def poolClosedUptoRow : OpenClaim := { program := "ytlfodnehgedpmaagreat", sum := "603da24538caf3439d4a73eee5854b9a9a78d00a7aebf6930a5a81c31577cbd9", func := "cordwood/cordwoodlaw08.PoolClosed", spec := "poolClosed", inPlace := ["internal/abi.NoEscape"], unfollowed := true, recurses := true, plainKeys := false, apart := false, narrowed := true }
def PoolClosedUptoSaid : Prop := poolClosedUptoRow.holds Tryz.pinned (OpenSpec.upto poolClosedSpec)

/-- 'cordwoodlaw08.PoolCheck', WHERE WHAT IT READS IS OF BULK AT MOST 1048576: true; the input reads as it did. -/
def poolCheckUptoRow : OpenClaim := { program := "ytlfodnehgedpmaagreat", sum := "603da24538caf3439d4a73eee5854b9a9a78d00a7aebf6930a5a81c31577cbd9", func := "cordwood/cordwoodlaw08.PoolCheck", spec := "poolCheck", inPlace := ["internal/abi.NoEscape"], unfollowed := true, recurses := true, plainKeys := false, apart := false, narrowed := true }
def PoolCheckUptoSaid : Prop := poolCheckUptoRow.holds Tryz.pinned (OpenSpec.upto poolCheckSpec)

/-- 'cordwoodlaw08.PoolPut', WHERE WHAT IT READS IS OF BULK AT MOST 1048576: true; the input reads as it did. -/
def poolPutUptoRow : OpenClaim := { program := "ytlfodnehgedpmaagreat", sum := "603da24538caf3439d4a73eee5854b9a9a78d00a7aebf6930a5a81c31577cbd9", func := "cordwood/cordwoodlaw08.PoolPut", spec := "poolPut", inPlace := ["internal/abi.NoEscape"], unfollowed := true, recurses := true, plainKeys := false, apart := false, narrowed := true }
def PoolPutUptoSaid : Prop := poolPutUptoRow.holds Tryz.pinned (OpenSpec.upto poolPutSpec)

/-- 'cordwoodlaw08.PoolContents', WHERE WHAT IT READS IS OF BULK AT MOST 1048576: true; the input reads as it did. -/
def poolContentsUptoRow : OpenClaim := { program := "ytlfodnehgedpmaagreat", sum := "603da24538caf3439d4a73eee5854b9a9a78d00a7aebf6930a5a81c31577cbd9", func := "cordwood/cordwoodlaw08.PoolContents", spec := "poolContents", inPlace := ["internal/abi.NoEscape"], unfollowed := true, recurses := true, plainKeys := false, apart := false, narrowed := true }
def PoolContentsUptoSaid : Prop := poolContentsUptoRow.holds Tryz.pinned (OpenSpec.upto poolContentsSpec)

/-- 'cordwoodlaw08.PoolReach', WHERE WHAT IT READS IS OF BULK AT MOST 1048576: true; the input reads as it did. -/
def poolReachUptoRow : OpenClaim := { program := "ytlfodnehgedpmaagreat", sum := "603da24538caf3439d4a73eee5854b9a9a78d00a7aebf6930a5a81c31577cbd9", func := "cordwood/cordwoodlaw08.PoolReach", spec := "poolReach", inPlace := ["internal/abi.NoEscape"], unfollowed := true, recurses := true, plainKeys := false, apart := false, narrowed := true }
def PoolReachUptoSaid : Prop := poolReachUptoRow.holds Tryz.pinned (OpenSpec.upto poolReachSpec)

/-- 'cordwoodlaw08.PoolUnion', WHERE WHAT IT READS IS OF BULK AT MOST 1048576: true; the input reads as it did. -/
def poolUnionUptoRow : OpenClaim := { program := "ytlfodnehgedpmaagreat", sum := "603da24538caf3439d4a73eee5854b9a9a78d00a7aebf6930a5a81c31577cbd9", func := "cordwood/cordwoodlaw08.PoolUnion", spec := "poolUnion", inPlace := ["internal/abi.NoEscape"], unfollowed := true, recurses := true, plainKeys := false, apart := false, narrowed := true }
def PoolUnionUptoSaid : Prop := poolUnionUptoRow.holds Tryz.pinned (OpenSpec.upto poolUnionSpec)

end Rows
end Go.Proofs.YtlfodnehgedpmaaGreat
