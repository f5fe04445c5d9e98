/-
  No cell of these rows narrows 'for every input' (looked for: loops, veiled, ifaces, maps, wideKeys, modest, calm, conditions, laid).
  DERIVED. THE GIVEN ROWS OF THIS SEAT. 8 by the template 'for every input the law returns true; each argument reads behind the call as it read before'; 0 by the template 'total and deterministic' (their statements: YtlijaacjfnjmjaaTotals.lean).
  GIVEN WITH THE SEED: the statements are not yours to turn. If you find one false, say at which input.
  Laid BY PROGRAM, IN A SANDBOX (cutbox-rows.mjs): the forced cells as the released guide's own fill.sh prints them over the translation 792757a46a6010fd… (all of the seat's roots in one cut). By AI agents, Wed Nov 11 2026. No macro, syntax, notation, axiom, sorry.
-/
import Derived.Test.YtlijaacjfnjmjaaChecked
import GoSem.Claim
import GoSem.ClaimJoined
import GoSem.ClaimMapViews
import Derived.JoinedTies
import Derived.KernelRfl
namespace Go.Proofs.Ytlijaacjfnjmjaa
/- THE CELL 'sum', in the pinned program and in every row, IS THE sha256 OF THE DUMP (.gsa) THAT YtlijaacjfnjmjaaProg.lean LOADS. Nothing in Lean hashes anything: it is a label: what it is worth is what the hold of that sum in a sandbox is worth. -/
noncomputable def Try.pinned : Pinned := { name := "ytlijaacjfnjmjaa", sum := "792757a46a6010fdc8e48fc2357b80d2988424f4762234ef8e0cd1f5e09a3f08", checked := Try.checked }
namespace Rows
def none {H : Type} : Left H := { results := [], args := [] }

/-- 'cordwoodlaw16.WireSplit': WHATEVER THE INPUT: true; the input reads as it did. -/
def wireSplitSpec : ChangeSpec := { name := "wireSplit", fn := fun _ => fun
  | [d1, d2, d3] => { results := [.lit (.bool true)], args := [d1, d2, d3] }
  | _ => none }
def wireSplitRow : OpenClaim := { program := "ytlijaacjfnjmjaa", sum := "792757a46a6010fdc8e48fc2357b80d2988424f4762234ef8e0cd1f5e09a3f08", func := "cordwood/cordwoodlaw16.WireSplit", spec := "wireSplit", apart := false }
def WireSplitSaid : Prop := wireSplitRow.holds Try.pinned (OpenSpec.ofChange wireSplitSpec)

/-- ITS FALSE NEIGHBOUR: 'it returns false'. Refute it at one input. -/
def wireSplitWrong : ChangeSpec := { name := "wireSplit", fn := fun _ => fun
  | [d1, d2, d3] => { results := [.lit (.bool false)], args := [d1, d2, d3] }
  | _ => none }
def WireSplitWrongFalsely : Prop := wireSplitRow.holds Try.pinned (OpenSpec.ofChange wireSplitWrong)

/-- 'cordwoodlaw16.WireConsistent': WHATEVER THE INPUT: true; the input reads as it did. -/
def wireConsistentSpec : ChangeSpec := { name := "wireConsistent", fn := fun _ => fun
  | [d1, d2] => { results := [.lit (.bool true)], args := [d1, d2] }
  | _ => none }
def wireConsistentRow : OpenClaim := { program := "ytlijaacjfnjmjaa", sum := "792757a46a6010fdc8e48fc2357b80d2988424f4762234ef8e0cd1f5e09a3f08", func := "cordwood/cordwoodlaw16.WireConsistent", spec := "wireConsistent", unfollowed := true, recurses := true, apart := false }
def WireConsistentSaid : Prop := wireConsistentRow.holds Try.pinned (OpenSpec.ofChange wireConsistentSpec)

/-- ITS FALSE NEIGHBOUR: 'it returns false'. Refute it at one input. -/
def wireConsistentWrong : ChangeSpec := { name := "wireConsistent", fn := fun _ => fun
  | [d1, d2] => { results := [.lit (.bool false)], args := [d1, d2] }
  | _ => none }
def WireConsistentWrongFalsely : Prop := wireConsistentRow.holds Try.pinned (OpenSpec.ofChange wireConsistentWrong)

/-- 'cordwoodlaw16.WireGather': WHATEVER THE INPUT: true; the input reads as it did. -/
def wireGatherSpec : ChangeSpec := { name := "wireGather", fn := fun _ => fun
  | [d1, d2] => { results := [.lit (.bool true)], args := [d1, d2] }
  | _ => none }
def wireGatherRow : OpenClaim := { program := "ytlijaacjfnjmjaa", sum := "792757a46a6010fdc8e48fc2357b80d2988424f4762234ef8e0cd1f5e09a3f08", func := "cordwood/cordwoodlaw16.WireGather", spec := "wireGather", recurses := true, apart := false }
def WireGatherSaid : Prop := wireGatherRow.holds Try.pinned (OpenSpec.ofChange wireGatherSpec)

/-- ITS FALSE NEIGHBOUR: 'it returns false'. Refute it at one input. -/
def wireGatherWrong : ChangeSpec := { name := "wireGather", fn := fun _ => fun
  | [d1, d2] => { results := [.lit (.bool false)], args := [d1, d2] }
  | _ => none }
def WireGatherWrongFalsely : Prop := wireGatherRow.holds Try.pinned (OpenSpec.ofChange wireGatherWrong)

/-- 'cordwoodlaw16.WireParts': WHATEVER THE INPUT: true; the input reads as it did. -/
def wirePartsSpec : ChangeSpec := { name := "wireParts", fn := fun _ => fun
  | [d1, d2, d3, d4] => { results := [.lit (.bool true)], args := [d1, d2, d3, d4] }
  | _ => none }
def wirePartsRow : OpenClaim := { program := "ytlijaacjfnjmjaa", sum := "792757a46a6010fdc8e48fc2357b80d2988424f4762234ef8e0cd1f5e09a3f08", func := "cordwood/cordwoodlaw16.WireParts", spec := "wireParts", apart := false }
def WirePartsSaid : Prop := wirePartsRow.holds Try.pinned (OpenSpec.ofChange wirePartsSpec)

/-- ITS FALSE NEIGHBOUR: 'it returns false'. Refute it at one input. -/
def wirePartsWrong : ChangeSpec := { name := "wireParts", fn := fun _ => fun
  | [d1, d2, d3, d4] => { results := [.lit (.bool false)], args := [d1, d2, d3, d4] }
  | _ => none }
def WirePartsWrongFalsely : Prop := wirePartsRow.holds Try.pinned (OpenSpec.ofChange wirePartsWrong)

/-- 'cordwoodlaw16.WireGaps': WHATEVER THE INPUT: true; the input reads as it did. -/
def wireGapsSpec : ChangeSpec := { name := "wireGaps", fn := fun _ => fun
  | [d1, d2] => { results := [.lit (.bool true)], args := [d1, d2] }
  | _ => none }
def wireGapsRow : OpenClaim := { program := "ytlijaacjfnjmjaa", sum := "792757a46a6010fdc8e48fc2357b80d2988424f4762234ef8e0cd1f5e09a3f08", func := "cordwood/cordwoodlaw16.WireGaps", spec := "wireGaps", apart := false }
def WireGapsSaid : Prop := wireGapsRow.holds Try.pinned (OpenSpec.ofChange wireGapsSpec)

/-- ITS FALSE NEIGHBOUR: 'it returns false'. Refute it at one input. -/
def wireGapsWrong : ChangeSpec := { name := "wireGaps", fn := fun _ => fun
  | [d1, d2] => { results := [.lit (.bool false)], args := [d1, d2] }
  | _ => none }
def WireGapsWrongFalsely : Prop := wireGapsRow.holds Try.pinned (OpenSpec.ofChange wireGapsWrong)

/-- 'cordwoodlaw16.WireTorn': WHATEVER THE INPUT: true; the input reads as it did. -/
def wireTornSpec : ChangeSpec := { name := "wireTorn", fn := fun _ => fun
  | [d1, d2] => { results := [.lit (.bool true)], args := [d1, d2] }
  | _ => none }
def wireTornRow : OpenClaim := { program := "ytlijaacjfnjmjaa", sum := "792757a46a6010fdc8e48fc2357b80d2988424f4762234ef8e0cd1f5e09a3f08", func := "cordwood/cordwoodlaw16.WireTorn", spec := "wireTorn", unfollowed := true, recurses := true, apart := false }
def WireTornSaid : Prop := wireTornRow.holds Try.pinned (OpenSpec.ofChange wireTornSpec)

/-- ITS FALSE NEIGHBOUR: 'it returns false'. Refute it at one input. -/
def wireTornWrong : ChangeSpec := { name := "wireTorn", fn := fun _ => fun
  | [d1, d2] => { results := [.lit (.bool false)], args := [d1, d2] }
  | _ => none }
def WireTornWrongFalsely : Prop := wireTornRow.holds Try.pinned (OpenSpec.ofChange wireTornWrong)

/-- 'cordwoodlaw16.WireCodec': WHATEVER THE INPUT: true; the input reads as it did. -/
def wireCodecSpec : ChangeSpec := { name := "wireCodec", fn := fun _ => fun
  | [d1, d2] => { results := [.lit (.bool true)], args := [d1, d2] }
  | _ => none }
def wireCodecRow : OpenClaim := { program := "ytlijaacjfnjmjaa", sum := "792757a46a6010fdc8e48fc2357b80d2988424f4762234ef8e0cd1f5e09a3f08", func := "cordwood/cordwoodlaw16.WireCodec", spec := "wireCodec", inPlace := ["internal/abi.NoEscape"], unfollowed := true, recurses := true, apart := false }
def WireCodecSaid : Prop := wireCodecRow.holds Try.pinned (OpenSpec.ofChange wireCodecSpec)

/-- ITS FALSE NEIGHBOUR: 'it returns false'. Refute it at one input. -/
def wireCodecWrong : ChangeSpec := { name := "wireCodec", fn := fun _ => fun
  | [d1, d2] => { results := [.lit (.bool false)], args := [d1, d2] }
  | _ => none }
def WireCodecWrongFalsely : Prop := wireCodecRow.holds Try.pinned (OpenSpec.ofChange wireCodecWrong)

/-- 'cordwoodlaw16.WireStream': WHATEVER THE INPUT: true; the input reads as it did. -/
def wireStreamSpec : ChangeSpec := { name := "wireStream", fn := fun _ => fun
  | [d] => { results := [.lit (.bool true)], args := [d] }
  | _ => none }
def wireStreamRow : OpenClaim := { program := "ytlijaacjfnjmjaa", sum := "792757a46a6010fdc8e48fc2357b80d2988424f4762234ef8e0cd1f5e09a3f08", func := "cordwood/cordwoodlaw16.WireStream", spec := "wireStream", inPlace := ["internal/abi.NoEscape"], unfollowed := true, recurses := true, apart := false }
def WireStreamSaid : Prop := wireStreamRow.holds Try.pinned (OpenSpec.ofChange wireStreamSpec)

/-- ITS FALSE NEIGHBOUR: 'it returns false'. Refute it at one input. -/
def wireStreamWrong : ChangeSpec := { name := "wireStream", fn := fun _ => fun
  | [d] => { results := [.lit (.bool false)], args := [d] }
  | _ => none }
def WireStreamWrongFalsely : Prop := wireStreamRow.holds Try.pinned (OpenSpec.ofChange wireStreamWrong)

/- THE SECOND FORM. 'bulk': how many values and letters a reading holds, each counted each time it is reached (what is shared counts as often as it is met; a slice's spare places count too). A statement '..UptoSaid' is the law's where the arguments, and the package variables that the reading takes, are together of bulk at most 1048576: NARROWER than '..Said'. Prove '..Said' where nothing that the law and all that it calls make is longer than what came in: it says more and counts as full. Else prove '..UptoSaid'. A law counts once. -/
mutual
def uptoBulk {H : Type} : DataW H → Nat
  | .lit (.string bytes) => bytes.length + 1
  | .lit _ => 1
  | .nil => 1
  | .ptr d => uptoBulk d + 1
  | .slice elems spare => uptoBulkAll elems + uptoBulkAll spare + 1
  | .agg parts => uptoBulkAll parts + 1
  | .iface _ d => uptoBulk d + 1
  | .map entries => uptoBulkEntries entries + 1
  | .held _ => 1
def uptoBulkAll {H : Type} : List (DataW H) → Nat
  | [] => 0
  | d :: r => uptoBulk d + uptoBulkAll r
def uptoBulkEntries {H : Type} : List (Lit × DataW H) → Nat
  | [] => 0
  | x :: r => uptoBulkEntry x + uptoBulkEntries r
def uptoBulkEntry {H : Type} : Lit × DataW H → Nat
  | (.string bytes, d) => bytes.length + uptoBulk d + 1
  | (_, d) => uptoBulk d + 1
 end
def uptoSmall : (H : Type) → List (DataW H) → Bool := fun _ ds => decide (uptoBulkAll ds ≤ 1048576)
def OpenSpec.upto (s : _root_.Go.ChangeSpec) : _root_.Go.OpenSpec := { _root_.Go.OpenSpec.ofChange s with cond := some uptoSmall }

/-- 'cordwoodlaw16.WireSplit', WHERE WHAT IT READS IS OF BULK AT MOST 1048576: true; the input reads as it did. -/
def wireSplitUptoRow : OpenClaim := { program := "ytlijaacjfnjmjaa", sum := "792757a46a6010fdc8e48fc2357b80d2988424f4762234ef8e0cd1f5e09a3f08", func := "cordwood/cordwoodlaw16.WireSplit", spec := "wireSplit", apart := false, narrowed := true }
def WireSplitUptoSaid : Prop := wireSplitUptoRow.holds Try.pinned (OpenSpec.upto wireSplitSpec)

/-- 'cordwoodlaw16.WireConsistent', WHERE WHAT IT READS IS OF BULK AT MOST 1048576: true; the input reads as it did. -/
def wireConsistentUptoRow : OpenClaim := { program := "ytlijaacjfnjmjaa", sum := "792757a46a6010fdc8e48fc2357b80d2988424f4762234ef8e0cd1f5e09a3f08", func := "cordwood/cordwoodlaw16.WireConsistent", spec := "wireConsistent", unfollowed := true, recurses := true, apart := false, narrowed := true }
def WireConsistentUptoSaid : Prop := wireConsistentUptoRow.holds Try.pinned (OpenSpec.upto wireConsistentSpec)

/-- 'cordwoodlaw16.WireGather', WHERE WHAT IT READS IS OF BULK AT MOST 1048576: true; the input reads as it did. -/
def wireGatherUptoRow : OpenClaim := { program := "ytlijaacjfnjmjaa", sum := "792757a46a6010fdc8e48fc2357b80d2988424f4762234ef8e0cd1f5e09a3f08", func := "cordwood/cordwoodlaw16.WireGather", spec := "wireGather", recurses := true, apart := false, narrowed := true }
def WireGatherUptoSaid : Prop := wireGatherUptoRow.holds Try.pinned (OpenSpec.upto wireGatherSpec)

/-- 'cordwoodlaw16.WireParts', WHERE WHAT IT READS IS OF BULK AT MOST 1048576: true; the input reads as it did. -/
def wirePartsUptoRow : OpenClaim := { program := "ytlijaacjfnjmjaa", sum := "792757a46a6010fdc8e48fc2357b80d2988424f4762234ef8e0cd1f5e09a3f08", func := "cordwood/cordwoodlaw16.WireParts", spec := "wireParts", apart := false, narrowed := true }
def WirePartsUptoSaid : Prop := wirePartsUptoRow.holds Try.pinned (OpenSpec.upto wirePartsSpec)

/-- 'cordwoodlaw16.WireGaps', WHERE WHAT IT READS IS OF BULK AT MOST 1048576: true; the input reads as it did. -/
def wireGapsUptoRow : OpenClaim := { program := "ytlijaacjfnjmjaa", sum := "792757a46a6010fdc8e48fc2357b80d2988424f4762234ef8e0cd1f5e09a3f08", func := "cordwood/cordwoodlaw16.WireGaps", spec := "wireGaps", apart := false, narrowed := true }
def WireGapsUptoSaid : Prop := wireGapsUptoRow.holds Try.pinned (OpenSpec.upto wireGapsSpec)

/-- 'cordwoodlaw16.WireTorn', WHERE WHAT IT READS IS OF BULK AT MOST 1048576: true; the input reads as it did. -/
def wireTornUptoRow : OpenClaim := { program := "ytlijaacjfnjmjaa", sum := "792757a46a6010fdc8e48fc2357b80d2988424f4762234ef8e0cd1f5e09a3f08", func := "cordwood/cordwoodlaw16.WireTorn", spec := "wireTorn", unfollowed := true, recurses := true, apart := false, narrowed := true }
def WireTornUptoSaid : Prop := wireTornUptoRow.holds Try.pinned (OpenSpec.upto wireTornSpec)

/-- 'cordwoodlaw16.WireCodec', WHERE WHAT IT READS IS OF BULK AT MOST 1048576: true; the input reads as it did. -/
def wireCodecUptoRow : OpenClaim := { program := "ytlijaacjfnjmjaa", sum := "792757a46a6010fdc8e48fc2357b80d2988424f4762234ef8e0cd1f5e09a3f08", func := "cordwood/cordwoodlaw16.WireCodec", spec := "wireCodec", inPlace := ["internal/abi.NoEscape"], unfollowed := true, recurses := true, apart := false, narrowed := true }
def WireCodecUptoSaid : Prop := wireCodecUptoRow.holds Try.pinned (OpenSpec.upto wireCodecSpec)

/-- 'cordwoodlaw16.WireStream', WHERE WHAT IT READS IS OF BULK AT MOST 1048576: true; the input reads as it did. -/
def wireStreamUptoRow : OpenClaim := { program := "ytlijaacjfnjmjaa", sum := "792757a46a6010fdc8e48fc2357b80d2988424f4762234ef8e0cd1f5e09a3f08", func := "cordwood/cordwoodlaw16.WireStream", spec := "wireStream", inPlace := ["internal/abi.NoEscape"], unfollowed := true, recurses := true, apart := false, narrowed := true }
def WireStreamUptoSaid : Prop := wireStreamUptoRow.holds Try.pinned (OpenSpec.upto wireStreamSpec)

end Rows
end Go.Proofs.Ytlijaacjfnjmjaa
