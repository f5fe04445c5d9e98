/-
  No cell of these rows narrows 'for every input' (looked for: loops, veiled, ifaces, maps, wideKeys, modest, calm, conditions, laid).
  DERIVED. THE GIVEN ROWS OF THIS SEAT. 7 by the template 'for every input the law returns true; each argument reads behind the call as it read before'; 0 by the template 'total and deterministic' (their statements: YtijkieiihpiljaaGreatTotals.lean).
  GIVEN WITH THE SEED: the statements are not yours to turn. If you find one false, say at which input.
  Laid BY PROGRAM, IN A SANDBOX (cutbox-rows.mjs): the forced cells as the released guide's own fill.sh prints them over the translation de5b4d06906153c5… (all of the seat's roots in one cut). By AI agents, Wed Nov 11 2026. No macro, syntax, notation, axiom, sorry.
-/
import Derived.Test.YtijkieiihpiljaaGreatChecked
import GoSem.Claim
import GoSem.ClaimJoined
import GoSem.ClaimMapViews
import Derived.JoinedTies
import Derived.KernelRfl
namespace Go.Proofs.YtijkieiihpiljaaGreat
/- THE CELL 'sum', in the pinned program and in every row, IS THE sha256 OF THE DUMP (.gsa) THAT YtijkieiihpiljaaGreatProg.lean LOADS. Nothing in Lean hashes anything: it is a label: what it is worth is what the hold of that sum in a sandbox is worth. -/
noncomputable def Tryz.pinned : Pinned := { name := "ytijkieiihpiljaagreat", sum := "de5b4d06906153c5286edf6602652290f92be3a11b05cd61ec915081ceb3bb08", checked := Tryz.checked }
namespace Rows
def none {H : Type} : Left H := { results := [], args := [] }

/-- 'cordwoodlaw10.PackWrite': WHATEVER THE INPUT: true; the input reads as it did. -/
def packWriteSpec : ChangeSpec := { name := "packWrite", fn := fun _ => fun
  | [d1, d2, d3] => { results := [.lit (.bool true)], args := [d1, d2, d3] }
  | _ => none }
def packWriteRow : OpenClaim := { program := "ytijkieiihpiljaagreat", sum := "de5b4d06906153c5286edf6602652290f92be3a11b05cd61ec915081ceb3bb08", func := "cordwood/cordwoodlaw10.PackWrite", spec := "packWrite", inPlace := ["internal/abi.NoEscape"], unfollowed := true, recurses := true, plainKeys := false, apart := false }
def PackWriteSaid : Prop := packWriteRow.holds Tryz.pinned (OpenSpec.ofChange packWriteSpec)

/-- ITS FALSE NEIGHBOUR: 'it returns false'. Refute it at one input. -/
def packWriteWrong : ChangeSpec := { name := "packWrite", fn := fun _ => fun
  | [d1, d2, d3] => { results := [.lit (.bool false)], args := [d1, d2, d3] }
  | _ => none }
def PackWriteWrongFalsely : Prop := packWriteRow.holds Tryz.pinned (OpenSpec.ofChange packWriteWrong)

/-- 'cordwoodlaw10.PackSeal': WHATEVER THE INPUT: true; the input reads as it did. -/
def packSealSpec : ChangeSpec := { name := "packSeal", fn := fun _ => fun
  | [d1, d2, d3] => { results := [.lit (.bool true)], args := [d1, d2, d3] }
  | _ => none }
def packSealRow : OpenClaim := { program := "ytijkieiihpiljaagreat", sum := "de5b4d06906153c5286edf6602652290f92be3a11b05cd61ec915081ceb3bb08", func := "cordwood/cordwoodlaw10.PackSeal", spec := "packSeal", inPlace := ["internal/abi.NoEscape"], unfollowed := true, recurses := true, plainKeys := false, apart := false }
def PackSealSaid : Prop := packSealRow.holds Tryz.pinned (OpenSpec.ofChange packSealSpec)

/-- ITS FALSE NEIGHBOUR: 'it returns false'. Refute it at one input. -/
def packSealWrong : ChangeSpec := { name := "packSeal", fn := fun _ => fun
  | [d1, d2, d3] => { results := [.lit (.bool false)], args := [d1, d2, d3] }
  | _ => none }
def PackSealWrongFalsely : Prop := packSealRow.holds Tryz.pinned (OpenSpec.ofChange packSealWrong)

/-- 'cordwoodlaw10.PackSize': WHATEVER THE INPUT: true; the input reads as it did. -/
def packSizeSpec : ChangeSpec := { name := "packSize", fn := fun _ => fun
  | [d1, d2, d3] => { results := [.lit (.bool true)], args := [d1, d2, d3] }
  | _ => none }
def packSizeRow : OpenClaim := { program := "ytijkieiihpiljaagreat", sum := "de5b4d06906153c5286edf6602652290f92be3a11b05cd61ec915081ceb3bb08", func := "cordwood/cordwoodlaw10.PackSize", spec := "packSize", inPlace := ["internal/abi.NoEscape"], unfollowed := true, recurses := true, plainKeys := false, apart := false }
def PackSizeSaid : Prop := packSizeRow.holds Tryz.pinned (OpenSpec.ofChange packSizeSpec)

/-- ITS FALSE NEIGHBOUR: 'it returns false'. Refute it at one input. -/
def packSizeWrong : ChangeSpec := { name := "packSize", fn := fun _ => fun
  | [d1, d2, d3] => { results := [.lit (.bool false)], args := [d1, d2, d3] }
  | _ => none }
def PackSizeWrongFalsely : Prop := packSizeRow.holds Tryz.pinned (OpenSpec.ofChange packSizeWrong)

/-- 'cordwoodlaw10.PackRead': WHATEVER THE INPUT: true; the input reads as it did. -/
def packReadSpec : ChangeSpec := { name := "packRead", fn := fun _ => fun
  | [d] => { results := [.lit (.bool true)], args := [d] }
  | _ => none }
def packReadRow : OpenClaim := { program := "ytijkieiihpiljaagreat", sum := "de5b4d06906153c5286edf6602652290f92be3a11b05cd61ec915081ceb3bb08", func := "cordwood/cordwoodlaw10.PackRead", spec := "packRead", inPlace := ["internal/abi.NoEscape"], unfollowed := true, recurses := true, plainKeys := false, apart := false }
def PackReadSaid : Prop := packReadRow.holds Tryz.pinned (OpenSpec.ofChange packReadSpec)

/-- ITS FALSE NEIGHBOUR: 'it returns false'. Refute it at one input. -/
def packReadWrong : ChangeSpec := { name := "packRead", fn := fun _ => fun
  | [d] => { results := [.lit (.bool false)], args := [d] }
  | _ => none }
def PackReadWrongFalsely : Prop := packReadRow.holds Tryz.pinned (OpenSpec.ofChange packReadWrong)

/-- 'cordwoodlaw10.PackRoundTrip': WHATEVER THE INPUT: true; the input reads as it did. -/
def packRoundTripSpec : ChangeSpec := { name := "packRoundTrip", fn := fun _ => fun
  | [d1, d2, d3] => { results := [.lit (.bool true)], args := [d1, d2, d3] }
  | _ => none }
def packRoundTripRow : OpenClaim := { program := "ytijkieiihpiljaagreat", sum := "de5b4d06906153c5286edf6602652290f92be3a11b05cd61ec915081ceb3bb08", func := "cordwood/cordwoodlaw10.PackRoundTrip", spec := "packRoundTrip", inPlace := ["internal/abi.NoEscape"], unfollowed := true, recurses := true, plainKeys := false, apart := false }
def PackRoundTripSaid : Prop := packRoundTripRow.holds Tryz.pinned (OpenSpec.ofChange packRoundTripSpec)

/-- ITS FALSE NEIGHBOUR: 'it returns false'. Refute it at one input. -/
def packRoundTripWrong : ChangeSpec := { name := "packRoundTrip", fn := fun _ => fun
  | [d1, d2, d3] => { results := [.lit (.bool false)], args := [d1, d2, d3] }
  | _ => none }
def PackRoundTripWrongFalsely : Prop := packRoundTripRow.holds Tryz.pinned (OpenSpec.ofChange packRoundTripWrong)

/-- 'cordwoodlaw10.PackFind': WHATEVER THE INPUT: true; the input reads as it did. -/
def packFindSpec : ChangeSpec := { name := "packFind", fn := fun _ => fun
  | [d1, d2, d3] => { results := [.lit (.bool true)], args := [d1, d2, d3] }
  | _ => none }
def packFindRow : OpenClaim := { program := "ytijkieiihpiljaagreat", sum := "de5b4d06906153c5286edf6602652290f92be3a11b05cd61ec915081ceb3bb08", func := "cordwood/cordwoodlaw10.PackFind", spec := "packFind", inPlace := ["internal/abi.NoEscape"], unfollowed := true, recurses := true, plainKeys := false, apart := false }
def PackFindSaid : Prop := packFindRow.holds Tryz.pinned (OpenSpec.ofChange packFindSpec)

/-- ITS FALSE NEIGHBOUR: 'it returns false'. Refute it at one input. -/
def packFindWrong : ChangeSpec := { name := "packFind", fn := fun _ => fun
  | [d1, d2, d3] => { results := [.lit (.bool false)], args := [d1, d2, d3] }
  | _ => none }
def PackFindWrongFalsely : Prop := packFindRow.holds Tryz.pinned (OpenSpec.ofChange packFindWrong)

/-- 'cordwoodlaw10.PackTrust': WHATEVER THE INPUT: true; the input reads as it did. -/
def packTrustSpec : ChangeSpec := { name := "packTrust", fn := fun _ => fun
  | [d] => { results := [.lit (.bool true)], args := [d] }
  | _ => none }
def packTrustRow : OpenClaim := { program := "ytijkieiihpiljaagreat", sum := "de5b4d06906153c5286edf6602652290f92be3a11b05cd61ec915081ceb3bb08", func := "cordwood/cordwoodlaw10.PackTrust", spec := "packTrust", inPlace := ["internal/abi.NoEscape"], unfollowed := true, recurses := true, plainKeys := false, apart := false }
def PackTrustSaid : Prop := packTrustRow.holds Tryz.pinned (OpenSpec.ofChange packTrustSpec)

/-- ITS FALSE NEIGHBOUR: 'it returns false'. Refute it at one input. -/
def packTrustWrong : ChangeSpec := { name := "packTrust", fn := fun _ => fun
  | [d] => { results := [.lit (.bool false)], args := [d] }
  | _ => none }
def PackTrustWrongFalsely : Prop := packTrustRow.holds Tryz.pinned (OpenSpec.ofChange packTrustWrong)

/- THE SECOND FORM. 'bulk': how many values and letters a reading holds, each counted each time it is reached (what is shared counts as often as it is met; a slice's spare places count too). A statement '..UptoSaid' is the law's where the arguments, and the package variables that the reading takes, are together of bulk at most 1048576: NARROWER than '..Said'. Prove '..Said' where nothing that the law and all that it calls make is longer than what came in: it says more and counts as full. Else prove '..UptoSaid'. A law counts once. -/
mutual
def uptoBulk {H : Type} : DataW H → Nat
  | .lit (.string bytes) => bytes.length + 1
  | .lit _ => 1
  | .nil => 1
  | .ptr d => uptoBulk d + 1
  | .slice elems spare => uptoBulkAll elems + uptoBulkAll spare + 1
  | .agg parts => uptoBulkAll parts + 1
  | .iface _ d => uptoBulk d + 1
  | .map entries => uptoBulkEntries entries + 1
  | .held _ => 1
def uptoBulkAll {H : Type} : List (DataW H) → Nat
  | [] => 0
  | d :: r => uptoBulk d + uptoBulkAll r
def uptoBulkEntries {H : Type} : List (Lit × DataW H) → Nat
  | [] => 0
  | x :: r => uptoBulkEntry x + uptoBulkEntries r
def uptoBulkEntry {H : Type} : Lit × DataW H → Nat
  | (.string bytes, d) => bytes.length + uptoBulk d + 1
  | (_, d) => uptoBulk d + 1
 end
def uptoSmall : (H : Type) → List (DataW H) → Bool := fun _ ds => decide (uptoBulkAll ds ≤ 1048576)
def OpenSpec.upto (s : _root_.Go.ChangeSpec) : _root_.Go.OpenSpec := { _root_.Go.OpenSpec.ofChange s with cond := some uptoSmall }

/-- 'cordwoodlaw10.PackWrite', WHERE WHAT IT READS IS OF BULK AT MOST 1048576: true; the input reads as it did. -/
def packWriteUptoRow : OpenClaim := { program := "ytijkieiihpiljaagreat", sum := "de5b4d06906153c5286edf6602652290f92be3a11b05cd61ec915081ceb3bb08", func := "cordwood/cordwoodlaw10.PackWrite", spec := "packWrite", inPlace := ["internal/abi.NoEscape"], unfollowed := true, recurses := true, plainKeys := false, apart := false, narrowed := true }
def PackWriteUptoSaid : Prop := packWriteUptoRow.holds Tryz.pinned (OpenSpec.upto packWriteSpec)

/-- 'cordwoodlaw10.PackSeal', WHERE WHAT IT READS IS OF BULK AT MOST 1048576: true; the input reads as it did. -/
def packSealUptoRow : OpenClaim := { program := "ytijkieiihpiljaagreat", sum := "de5b4d06906153c5286edf6602652290f92be3a11b05cd61ec915081ceb3bb08", func := "cordwood/cordwoodlaw10.PackSeal", spec := "packSeal", inPlace := ["internal/abi.NoEscape"], unfollowed := true, recurses := true, plainKeys := false, apart := false, narrowed := true }
def PackSealUptoSaid : Prop := packSealUptoRow.holds Tryz.pinned (OpenSpec.upto packSealSpec)

/-- 'cordwoodlaw10.PackSize', WHERE WHAT IT READS IS OF BULK AT MOST 1048576: true; the input reads as it did. -/
def packSizeUptoRow : OpenClaim := { program := "ytijkieiihpiljaagreat", sum := "de5b4d06906153c5286edf6602652290f92be3a11b05cd61ec915081ceb3bb08", func := "cordwood/cordwoodlaw10.PackSize", spec := "packSize", inPlace := ["internal/abi.NoEscape"], unfollowed := true, recurses := true, plainKeys := false, apart := false, narrowed := true }
def PackSizeUptoSaid : Prop := packSizeUptoRow.holds Tryz.pinned (OpenSpec.upto packSizeSpec)

/-- 'cordwoodlaw10.PackRead', WHERE WHAT IT READS IS OF BULK AT MOST 1048576: true; the input reads as it did. -/
def packReadUptoRow : OpenClaim := { program := "ytijkieiihpiljaagreat", sum := "de5b4d06906153c5286edf6602652290f92be3a11b05cd61ec915081ceb3bb08", func := "cordwood/cordwoodlaw10.PackRead", spec := "packRead", inPlace := ["internal/abi.NoEscape"], unfollowed := true, recurses := true, plainKeys := false, apart := false, narrowed := true }
def PackReadUptoSaid : Prop := packReadUptoRow.holds Tryz.pinned (OpenSpec.upto packReadSpec)

/-- 'cordwoodlaw10.PackRoundTrip', WHERE WHAT IT READS IS OF BULK AT MOST 1048576: true; the input reads as it did. -/
def packRoundTripUptoRow : OpenClaim := { program := "ytijkieiihpiljaagreat", sum := "de5b4d06906153c5286edf6602652290f92be3a11b05cd61ec915081ceb3bb08", func := "cordwood/cordwoodlaw10.PackRoundTrip", spec := "packRoundTrip", inPlace := ["internal/abi.NoEscape"], unfollowed := true, recurses := true, plainKeys := false, apart := false, narrowed := true }
def PackRoundTripUptoSaid : Prop := packRoundTripUptoRow.holds Tryz.pinned (OpenSpec.upto packRoundTripSpec)

/-- 'cordwoodlaw10.PackFind', WHERE WHAT IT READS IS OF BULK AT MOST 1048576: true; the input reads as it did. -/
def packFindUptoRow : OpenClaim := { program := "ytijkieiihpiljaagreat", sum := "de5b4d06906153c5286edf6602652290f92be3a11b05cd61ec915081ceb3bb08", func := "cordwood/cordwoodlaw10.PackFind", spec := "packFind", inPlace := ["internal/abi.NoEscape"], unfollowed := true, recurses := true, plainKeys := false, apart := false, narrowed := true }
def PackFindUptoSaid : Prop := packFindUptoRow.holds Tryz.pinned (OpenSpec.upto packFindSpec)

/-- 'cordwoodlaw10.PackTrust', WHERE WHAT IT READS IS OF BULK AT MOST 1048576: true; the input reads as it did. -/
def packTrustUptoRow : OpenClaim := { program := "ytijkieiihpiljaagreat", sum := "de5b4d06906153c5286edf6602652290f92be3a11b05cd61ec915081ceb3bb08", func := "cordwood/cordwoodlaw10.PackTrust", spec := "packTrust", inPlace := ["internal/abi.NoEscape"], unfollowed := true, recurses := true, plainKeys := false, apart := false, narrowed := true }
def PackTrustUptoSaid : Prop := packTrustUptoRow.holds Tryz.pinned (OpenSpec.upto packTrustSpec)

end Rows
end Go.Proofs.YtijkieiihpiljaaGreat
