/-
  No cell of these rows narrows 'for every input' (looked for: loops, veiled, ifaces, maps, wideKeys, modest, calm, conditions, laid).
  DERIVED. THE GIVEN ROWS OF THIS SEAT. 7 by the template 'for every input the law returns true; each argument reads behind the call as it read before'; 0 by the template 'total and deterministic' (their statements: YtkedhdcnakhbgaaGreatTotals.lean).
  GIVEN WITH THE SEED: the statements are not yours to turn. If you find one false, say at which input.
  Laid BY PROGRAM, IN A SANDBOX (cutbox-rows.mjs): the forced cells as the released guide's own fill.sh prints them over the translation 0dbfff5a4e1c3389… (all of the seat's roots in one cut). By AI agents, Wed Nov 11 2026. No macro, syntax, notation, axiom, sorry.
-/
import Derived.Test.YtkedhdcnakhbgaaGreatChecked
import GoSem.Claim
import GoSem.ClaimJoined
import GoSem.ClaimMapViews
import Derived.JoinedTies
import Derived.KernelRfl
namespace Go.Proofs.YtkedhdcnakhbgaaGreat
/- THE CELL 'sum', in the pinned program and in every row, IS THE sha256 OF THE DUMP (.gsa) THAT YtkedhdcnakhbgaaGreatProg.lean LOADS. Nothing in Lean hashes anything: it is a label: what it is worth is what the hold of that sum in a sandbox is worth. -/
noncomputable def Tryz.pinned : Pinned := { name := "ytkedhdcnakhbgaagreat", sum := "0dbfff5a4e1c3389c882b1775f67af7a8bf8e37f4d93ea755259cc55fd028de1", checked := Tryz.checked }
namespace Rows
def none {H : Type} : Left H := { results := [], args := [] }

/-- 'cordwoodlaw17.TransferBegin': WHATEVER THE INPUT: true; the input reads as it did. -/
def transferBeginSpec : ChangeSpec := { name := "transferBegin", fn := fun _ => fun
  | [d] => { results := [.lit (.bool true)], args := [d] }
  | _ => none }
def transferBeginRow : OpenClaim := { program := "ytkedhdcnakhbgaagreat", sum := "0dbfff5a4e1c3389c882b1775f67af7a8bf8e37f4d93ea755259cc55fd028de1", func := "cordwood/cordwoodlaw17.TransferBegin", spec := "transferBegin", inPlace := ["internal/abi.NoEscape"], unfollowed := true, recurses := true, plainKeys := false, apart := false }
def TransferBeginSaid : Prop := transferBeginRow.holds Tryz.pinned (OpenSpec.ofChange transferBeginSpec)

/-- ITS FALSE NEIGHBOUR: 'it returns false'. Refute it at one input. -/
def transferBeginWrong : ChangeSpec := { name := "transferBegin", fn := fun _ => fun
  | [d] => { results := [.lit (.bool false)], args := [d] }
  | _ => none }
def TransferBeginWrongFalsely : Prop := transferBeginRow.holds Tryz.pinned (OpenSpec.ofChange transferBeginWrong)

/-- 'cordwoodlaw17.TransferServe': WHATEVER THE INPUT: true; the input reads as it did. -/
def transferServeSpec : ChangeSpec := { name := "transferServe", fn := fun _ => fun
  | [d1, d2, d3] => { results := [.lit (.bool true)], args := [d1, d2, d3] }
  | _ => none }
def transferServeRow : OpenClaim := { program := "ytkedhdcnakhbgaagreat", sum := "0dbfff5a4e1c3389c882b1775f67af7a8bf8e37f4d93ea755259cc55fd028de1", func := "cordwood/cordwoodlaw17.TransferServe", spec := "transferServe", inPlace := ["internal/abi.NoEscape"], unfollowed := true, recurses := true, plainKeys := false, apart := false }
def TransferServeSaid : Prop := transferServeRow.holds Tryz.pinned (OpenSpec.ofChange transferServeSpec)

/-- ITS FALSE NEIGHBOUR: 'it returns false'. Refute it at one input. -/
def transferServeWrong : ChangeSpec := { name := "transferServe", fn := fun _ => fun
  | [d1, d2, d3] => { results := [.lit (.bool false)], args := [d1, d2, d3] }
  | _ => none }
def TransferServeWrongFalsely : Prop := transferServeRow.holds Tryz.pinned (OpenSpec.ofChange transferServeWrong)

/-- 'cordwoodlaw17.TransferReceive': WHATEVER THE INPUT: true; the input reads as it did. -/
def transferReceiveSpec : ChangeSpec := { name := "transferReceive", fn := fun _ => fun
  | [d] => { results := [.lit (.bool true)], args := [d] }
  | _ => none }
def transferReceiveRow : OpenClaim := { program := "ytkedhdcnakhbgaagreat", sum := "0dbfff5a4e1c3389c882b1775f67af7a8bf8e37f4d93ea755259cc55fd028de1", func := "cordwood/cordwoodlaw17.TransferReceive", spec := "transferReceive", inPlace := ["internal/abi.NoEscape"], unfollowed := true, recurses := true, plainKeys := false, apart := false }
def TransferReceiveSaid : Prop := transferReceiveRow.holds Tryz.pinned (OpenSpec.ofChange transferReceiveSpec)

/-- ITS FALSE NEIGHBOUR: 'it returns false'. Refute it at one input. -/
def transferReceiveWrong : ChangeSpec := { name := "transferReceive", fn := fun _ => fun
  | [d] => { results := [.lit (.bool false)], args := [d] }
  | _ => none }
def TransferReceiveWrongFalsely : Prop := transferReceiveRow.holds Tryz.pinned (OpenSpec.ofChange transferReceiveWrong)

/-- 'cordwoodlaw17.TransferTrust': WHATEVER THE INPUT: true; the input reads as it did. -/
def transferTrustSpec : ChangeSpec := { name := "transferTrust", fn := fun _ => fun
  | [d] => { results := [.lit (.bool true)], args := [d] }
  | _ => none }
def transferTrustRow : OpenClaim := { program := "ytkedhdcnakhbgaagreat", sum := "0dbfff5a4e1c3389c882b1775f67af7a8bf8e37f4d93ea755259cc55fd028de1", func := "cordwood/cordwoodlaw17.TransferTrust", spec := "transferTrust", inPlace := ["internal/abi.NoEscape"], unfollowed := true, recurses := true, plainKeys := false, apart := false }
def TransferTrustSaid : Prop := transferTrustRow.holds Tryz.pinned (OpenSpec.ofChange transferTrustSpec)

/-- ITS FALSE NEIGHBOUR: 'it returns false'. Refute it at one input. -/
def transferTrustWrong : ChangeSpec := { name := "transferTrust", fn := fun _ => fun
  | [d] => { results := [.lit (.bool false)], args := [d] }
  | _ => none }
def TransferTrustWrongFalsely : Prop := transferTrustRow.holds Tryz.pinned (OpenSpec.ofChange transferTrustWrong)

/-- 'cordwoodlaw17.TransferHonest': WHATEVER THE INPUT: true; the input reads as it did. -/
def transferHonestSpec : ChangeSpec := { name := "transferHonest", fn := fun _ => fun
  | [d1, d2] => { results := [.lit (.bool true)], args := [d1, d2] }
  | _ => none }
def transferHonestRow : OpenClaim := { program := "ytkedhdcnakhbgaagreat", sum := "0dbfff5a4e1c3389c882b1775f67af7a8bf8e37f4d93ea755259cc55fd028de1", func := "cordwood/cordwoodlaw17.TransferHonest", spec := "transferHonest", inPlace := ["internal/abi.NoEscape"], unfollowed := true, recurses := true, plainKeys := false, apart := false }
def TransferHonestSaid : Prop := transferHonestRow.holds Tryz.pinned (OpenSpec.ofChange transferHonestSpec)

/-- ITS FALSE NEIGHBOUR: 'it returns false'. Refute it at one input. -/
def transferHonestWrong : ChangeSpec := { name := "transferHonest", fn := fun _ => fun
  | [d1, d2] => { results := [.lit (.bool false)], args := [d1, d2] }
  | _ => none }
def TransferHonestWrongFalsely : Prop := transferHonestRow.holds Tryz.pinned (OpenSpec.ofChange transferHonestWrong)

/-- 'cordwoodlaw17.TransferGaps': WHATEVER THE INPUT: true; the input reads as it did. -/
def transferGapsSpec : ChangeSpec := { name := "transferGaps", fn := fun _ => fun
  | [d] => { results := [.lit (.bool true)], args := [d] }
  | _ => none }
def transferGapsRow : OpenClaim := { program := "ytkedhdcnakhbgaagreat", sum := "0dbfff5a4e1c3389c882b1775f67af7a8bf8e37f4d93ea755259cc55fd028de1", func := "cordwood/cordwoodlaw17.TransferGaps", spec := "transferGaps", inPlace := ["internal/abi.NoEscape"], unfollowed := true, recurses := true, plainKeys := false, apart := false }
def TransferGapsSaid : Prop := transferGapsRow.holds Tryz.pinned (OpenSpec.ofChange transferGapsSpec)

/-- ITS FALSE NEIGHBOUR: 'it returns false'. Refute it at one input. -/
def transferGapsWrong : ChangeSpec := { name := "transferGaps", fn := fun _ => fun
  | [d] => { results := [.lit (.bool false)], args := [d] }
  | _ => none }
def TransferGapsWrongFalsely : Prop := transferGapsRow.holds Tryz.pinned (OpenSpec.ofChange transferGapsWrong)

/-- 'cordwoodlaw17.TransferReplies': WHATEVER THE INPUT: true; the input reads as it did. -/
def transferRepliesSpec : ChangeSpec := { name := "transferReplies", fn := fun _ => fun
  | [d1, d2] => { results := [.lit (.bool true)], args := [d1, d2] }
  | _ => none }
def transferRepliesRow : OpenClaim := { program := "ytkedhdcnakhbgaagreat", sum := "0dbfff5a4e1c3389c882b1775f67af7a8bf8e37f4d93ea755259cc55fd028de1", func := "cordwood/cordwoodlaw17.TransferReplies", spec := "transferReplies", inPlace := ["internal/abi.NoEscape"], unfollowed := true, recurses := true, plainKeys := false, apart := false }
def TransferRepliesSaid : Prop := transferRepliesRow.holds Tryz.pinned (OpenSpec.ofChange transferRepliesSpec)

/-- ITS FALSE NEIGHBOUR: 'it returns false'. Refute it at one input. -/
def transferRepliesWrong : ChangeSpec := { name := "transferReplies", fn := fun _ => fun
  | [d1, d2] => { results := [.lit (.bool false)], args := [d1, d2] }
  | _ => none }
def TransferRepliesWrongFalsely : Prop := transferRepliesRow.holds Tryz.pinned (OpenSpec.ofChange transferRepliesWrong)

/- THE SECOND FORM. 'bulk': how many values and letters a reading holds, each counted each time it is reached (what is shared counts as often as it is met; a slice's spare places count too). A statement '..UptoSaid' is the law's where the arguments, and the package variables that the reading takes, are together of bulk at most 1048576: NARROWER than '..Said'. Prove '..Said' where nothing that the law and all that it calls make is longer than what came in: it says more and counts as full. Else prove '..UptoSaid'. A law counts once. -/
mutual
def uptoBulk {H : Type} : DataW H → Nat
  | .lit (.string bytes) => bytes.length + 1
  | .lit _ => 1
  | .nil => 1
  | .ptr d => uptoBulk d + 1
  | .slice elems spare => uptoBulkAll elems + uptoBulkAll spare + 1
  | .agg parts => uptoBulkAll parts + 1
  | .iface _ d => uptoBulk d + 1
  | .map entries => uptoBulkEntries entries + 1
  | .held _ => 1
def uptoBulkAll {H : Type} : List (DataW H) → Nat
  | [] => 0
  | d :: r => uptoBulk d + uptoBulkAll r
def uptoBulkEntries {H : Type} : List (Lit × DataW H) → Nat
  | [] => 0
  | x :: r => uptoBulkEntry x + uptoBulkEntries r
def uptoBulkEntry {H : Type} : Lit × DataW H → Nat
  | (.string bytes, d) => bytes.length + uptoBulk d + 1
  | (_, d) => uptoBulk d + 1
 end
def uptoSmall : (H : Type) → List (DataW H) → Bool := fun _ ds => decide (uptoBulkAll ds ≤ 1048576)
def OpenSpec.upto (s : _root_.Go.ChangeSpec) : _root_.Go.OpenSpec := { _root_.Go.OpenSpec.ofChange s with cond := some uptoSmall }

/-- 'cordwoodlaw17.TransferBegin', WHERE WHAT IT READS IS OF BULK AT MOST 1048576: true; the input reads as it did. -/
def transferBeginUptoRow : OpenClaim := { program := "ytkedhdcnakhbgaagreat", sum := "0dbfff5a4e1c3389c882b1775f67af7a8bf8e37f4d93ea755259cc55fd028de1", func := "cordwood/cordwoodlaw17.TransferBegin", spec := "transferBegin", inPlace := ["internal/abi.NoEscape"], unfollowed := true, recurses := true, plainKeys := false, apart := false, narrowed := true }
def TransferBeginUptoSaid : Prop := transferBeginUptoRow.holds Tryz.pinned (OpenSpec.upto transferBeginSpec)

/-- 'cordwoodlaw17.TransferServe', WHERE WHAT IT READS IS OF BULK AT MOST 1048576: true; the input reads as it did. -/
def transferServeUptoRow : OpenClaim := { program := "ytkedhdcnakhbgaagreat", sum := "0dbfff5a4e1c3389c882b1775f67af7a8bf8e37f4d93ea755259cc55fd028de1", func := "cordwood/cordwoodlaw17.TransferServe", spec := "transferServe", inPlace := ["internal/abi.NoEscape"], unfollowed := true, recurses := true, plainKeys := false, apart := false, narrowed := true }
def TransferServeUptoSaid : Prop := transferServeUptoRow.holds Tryz.pinned (OpenSpec.upto transferServeSpec)

/-- 'cordwoodlaw17.TransferReceive', WHERE WHAT IT READS IS OF BULK AT MOST 1048576: true; the input reads as it did. -/
def transferReceiveUptoRow : OpenClaim := { program := "ytkedhdcnakhbgaagreat", sum := "0dbfff5a4e1c3389c882b1775f67af7a8bf8e37f4d93ea755259cc55fd028de1", func := "cordwood/cordwoodlaw17.TransferReceive", spec := "transferReceive", inPlace := ["internal/abi.NoEscape"], unfollowed := true, recurses := true, plainKeys := false, apart := false, narrowed := true }
def TransferReceiveUptoSaid : Prop := transferReceiveUptoRow.holds Tryz.pinned (OpenSpec.upto transferReceiveSpec)

/-- 'cordwoodlaw17.TransferTrust', WHERE WHAT IT READS IS OF BULK AT MOST 1048576: true; the input reads as it did. -/
def transferTrustUptoRow : OpenClaim := { program := "ytkedhdcnakhbgaagreat", sum := "0dbfff5a4e1c3389c882b1775f67af7a8bf8e37f4d93ea755259cc55fd028de1", func := "cordwood/cordwoodlaw17.TransferTrust", spec := "transferTrust", inPlace := ["internal/abi.NoEscape"], unfollowed := true, recurses := true, plainKeys := false, apart := false, narrowed := true }
def TransferTrustUptoSaid : Prop := transferTrustUptoRow.holds Tryz.pinned (OpenSpec.upto transferTrustSpec)

/-- 'cordwoodlaw17.TransferHonest', WHERE WHAT IT READS IS OF BULK AT MOST 1048576: true; the input reads as it did. -/
def transferHonestUptoRow : OpenClaim := { program := "ytkedhdcnakhbgaagreat", sum := "0dbfff5a4e1c3389c882b1775f67af7a8bf8e37f4d93ea755259cc55fd028de1", func := "cordwood/cordwoodlaw17.TransferHonest", spec := "transferHonest", inPlace := ["internal/abi.NoEscape"], unfollowed := true, recurses := true, plainKeys := false, apart := false, narrowed := true }
def TransferHonestUptoSaid : Prop := transferHonestUptoRow.holds Tryz.pinned (OpenSpec.upto transferHonestSpec)

/-- 'cordwoodlaw17.TransferGaps', WHERE WHAT IT READS IS OF BULK AT MOST 1048576: true; the input reads as it did. -/
def transferGapsUptoRow : OpenClaim := { program := "ytkedhdcnakhbgaagreat", sum := "0dbfff5a4e1c3389c882b1775f67af7a8bf8e37f4d93ea755259cc55fd028de1", func := "cordwood/cordwoodlaw17.TransferGaps", spec := "transferGaps", inPlace := ["internal/abi.NoEscape"], unfollowed := true, recurses := true, plainKeys := false, apart := false, narrowed := true }
def TransferGapsUptoSaid : Prop := transferGapsUptoRow.holds Tryz.pinned (OpenSpec.upto transferGapsSpec)

/-- 'cordwoodlaw17.TransferReplies', WHERE WHAT IT READS IS OF BULK AT MOST 1048576: true; the input reads as it did. -/
def transferRepliesUptoRow : OpenClaim := { program := "ytkedhdcnakhbgaagreat", sum := "0dbfff5a4e1c3389c882b1775f67af7a8bf8e37f4d93ea755259cc55fd028de1", func := "cordwood/cordwoodlaw17.TransferReplies", spec := "transferReplies", inPlace := ["internal/abi.NoEscape"], unfollowed := true, recurses := true, plainKeys := false, apart := false, narrowed := true }
def TransferRepliesUptoSaid : Prop := transferRepliesUptoRow.holds Tryz.pinned (OpenSpec.upto transferRepliesSpec)

end Rows
end Go.Proofs.YtkedhdcnakhbgaaGreat
