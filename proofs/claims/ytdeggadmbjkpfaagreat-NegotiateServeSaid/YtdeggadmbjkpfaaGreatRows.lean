/-
  No cell of these rows narrows 'for every input' (looked for: loops, veiled, ifaces, maps, wideKeys, modest, calm, conditions, laid).
  DERIVED. THE GIVEN ROWS OF THIS SEAT. 7 by the template 'for every input the law returns true; each argument reads behind the call as it read before'; 0 by the template 'total and deterministic' (their statements: YtdeggadmbjkpfaaGreatTotals.lean).
  GIVEN WITH THE SEED: the statements are not yours to turn. If you find one false, say at which input.
  Laid BY PROGRAM, IN A SANDBOX (cutbox-rows.mjs): the forced cells as the released guide's own fill.sh prints them over the translation e6f195e7599a6392… (all of the seat's roots in one cut). By AI agents, Wed Nov 11 2026. No macro, syntax, notation, axiom, sorry.
-/
import Derived.Test.YtdeggadmbjkpfaaGreatChecked
import GoSem.Claim
import GoSem.ClaimJoined
import GoSem.ClaimMapViews
import Derived.JoinedTies
import Derived.KernelRfl
namespace Go.Proofs.YtdeggadmbjkpfaaGreat
/- THE CELL 'sum', in the pinned program and in every row, IS THE sha256 OF THE DUMP (.gsa) THAT YtdeggadmbjkpfaaGreatProg.lean LOADS. Nothing in Lean hashes anything: it is a label: what it is worth is what the hold of that sum in a sandbox is worth. -/
noncomputable def Tryz.pinned : Pinned := { name := "ytdeggadmbjkpfaagreat", sum := "e6f195e7599a639261c8c66e508d0e441569ff6343361c897be3694fdd3871de", checked := Tryz.checked }
namespace Rows
def none {H : Type} : Left H := { results := [], args := [] }

/-- 'cordwoodlaw15.NegotiateAsk': WHATEVER THE INPUT: true; the input reads as it did. -/
def negotiateAskSpec : ChangeSpec := { name := "negotiateAsk", fn := fun _ => fun
  | [d1, d2, d3, d4, d5] => { results := [.lit (.bool true)], args := [d1, d2, d3, d4, d5] }
  | _ => none }
def negotiateAskRow : OpenClaim := { program := "ytdeggadmbjkpfaagreat", sum := "e6f195e7599a639261c8c66e508d0e441569ff6343361c897be3694fdd3871de", func := "cordwood/cordwoodlaw15.NegotiateAsk", spec := "negotiateAsk", inPlace := ["internal/abi.NoEscape"], unfollowed := true, recurses := true, plainKeys := false, apart := false }
def NegotiateAskSaid : Prop := negotiateAskRow.holds Tryz.pinned (OpenSpec.ofChange negotiateAskSpec)

/-- ITS FALSE NEIGHBOUR: 'it returns false'. Refute it at one input. -/
def negotiateAskWrong : ChangeSpec := { name := "negotiateAsk", fn := fun _ => fun
  | [d1, d2, d3, d4, d5] => { results := [.lit (.bool false)], args := [d1, d2, d3, d4, d5] }
  | _ => none }
def NegotiateAskWrongFalsely : Prop := negotiateAskRow.holds Tryz.pinned (OpenSpec.ofChange negotiateAskWrong)

/-- 'cordwoodlaw15.NegotiateLearn': WHATEVER THE INPUT: true; the input reads as it did. -/
def negotiateLearnSpec : ChangeSpec := { name := "negotiateLearn", fn := fun _ => fun
  | [d1, d2, d3] => { results := [.lit (.bool true)], args := [d1, d2, d3] }
  | _ => none }
def negotiateLearnRow : OpenClaim := { program := "ytdeggadmbjkpfaagreat", sum := "e6f195e7599a639261c8c66e508d0e441569ff6343361c897be3694fdd3871de", func := "cordwood/cordwoodlaw15.NegotiateLearn", spec := "negotiateLearn", inPlace := ["internal/abi.NoEscape"], unfollowed := true, recurses := true, plainKeys := false, apart := false }
def NegotiateLearnSaid : Prop := negotiateLearnRow.holds Tryz.pinned (OpenSpec.ofChange negotiateLearnSpec)

/-- ITS FALSE NEIGHBOUR: 'it returns false'. Refute it at one input. -/
def negotiateLearnWrong : ChangeSpec := { name := "negotiateLearn", fn := fun _ => fun
  | [d1, d2, d3] => { results := [.lit (.bool false)], args := [d1, d2, d3] }
  | _ => none }
def NegotiateLearnWrongFalsely : Prop := negotiateLearnRow.holds Tryz.pinned (OpenSpec.ofChange negotiateLearnWrong)

/-- 'cordwoodlaw15.NegotiateServe': WHATEVER THE INPUT: true; the input reads as it did. -/
def negotiateServeSpec : ChangeSpec := { name := "negotiateServe", fn := fun _ => fun
  | [d1, d2, d3] => { results := [.lit (.bool true)], args := [d1, d2, d3] }
  | _ => none }
def negotiateServeRow : OpenClaim := { program := "ytdeggadmbjkpfaagreat", sum := "e6f195e7599a639261c8c66e508d0e441569ff6343361c897be3694fdd3871de", func := "cordwood/cordwoodlaw15.NegotiateServe", spec := "negotiateServe", inPlace := ["internal/abi.NoEscape"], unfollowed := true, recurses := true, plainKeys := false, apart := false }
def NegotiateServeSaid : Prop := negotiateServeRow.holds Tryz.pinned (OpenSpec.ofChange negotiateServeSpec)

/-- ITS FALSE NEIGHBOUR: 'it returns false'. Refute it at one input. -/
def negotiateServeWrong : ChangeSpec := { name := "negotiateServe", fn := fun _ => fun
  | [d1, d2, d3] => { results := [.lit (.bool false)], args := [d1, d2, d3] }
  | _ => none }
def NegotiateServeWrongFalsely : Prop := negotiateServeRow.holds Tryz.pinned (OpenSpec.ofChange negotiateServeWrong)

/-- 'cordwoodlaw15.NegotiateFinds': WHATEVER THE INPUT: true; the input reads as it did. -/
def negotiateFindsSpec : ChangeSpec := { name := "negotiateFinds", fn := fun _ => fun
  | [d] => { results := [.lit (.bool true)], args := [d] }
  | _ => none }
def negotiateFindsRow : OpenClaim := { program := "ytdeggadmbjkpfaagreat", sum := "e6f195e7599a639261c8c66e508d0e441569ff6343361c897be3694fdd3871de", func := "cordwood/cordwoodlaw15.NegotiateFinds", spec := "negotiateFinds", inPlace := ["internal/abi.NoEscape"], unfollowed := true, recurses := true, plainKeys := false, apart := false }
def NegotiateFindsSaid : Prop := negotiateFindsRow.holds Tryz.pinned (OpenSpec.ofChange negotiateFindsSpec)

/-- ITS FALSE NEIGHBOUR: 'it returns false'. Refute it at one input. -/
def negotiateFindsWrong : ChangeSpec := { name := "negotiateFinds", fn := fun _ => fun
  | [d] => { results := [.lit (.bool false)], args := [d] }
  | _ => none }
def NegotiateFindsWrongFalsely : Prop := negotiateFindsRow.holds Tryz.pinned (OpenSpec.ofChange negotiateFindsWrong)

/-- 'cordwoodlaw15.NegotiateOnce': WHATEVER THE INPUT: true; the input reads as it did. -/
def negotiateOnceSpec : ChangeSpec := { name := "negotiateOnce", fn := fun _ => fun
  | [d] => { results := [.lit (.bool true)], args := [d] }
  | _ => none }
def negotiateOnceRow : OpenClaim := { program := "ytdeggadmbjkpfaagreat", sum := "e6f195e7599a639261c8c66e508d0e441569ff6343361c897be3694fdd3871de", func := "cordwood/cordwoodlaw15.NegotiateOnce", spec := "negotiateOnce", inPlace := ["internal/abi.NoEscape"], unfollowed := true, recurses := true, plainKeys := false, apart := false }
def NegotiateOnceSaid : Prop := negotiateOnceRow.holds Tryz.pinned (OpenSpec.ofChange negotiateOnceSpec)

/-- ITS FALSE NEIGHBOUR: 'it returns false'. Refute it at one input. -/
def negotiateOnceWrong : ChangeSpec := { name := "negotiateOnce", fn := fun _ => fun
  | [d] => { results := [.lit (.bool false)], args := [d] }
  | _ => none }
def NegotiateOnceWrongFalsely : Prop := negotiateOnceRow.holds Tryz.pinned (OpenSpec.ofChange negotiateOnceWrong)

/-- 'cordwoodlaw15.NegotiateSkips': WHATEVER THE INPUT: true; the input reads as it did. -/
def negotiateSkipsSpec : ChangeSpec := { name := "negotiateSkips", fn := fun _ => fun
  | [d] => { results := [.lit (.bool true)], args := [d] }
  | _ => none }
def negotiateSkipsRow : OpenClaim := { program := "ytdeggadmbjkpfaagreat", sum := "e6f195e7599a639261c8c66e508d0e441569ff6343361c897be3694fdd3871de", func := "cordwood/cordwoodlaw15.NegotiateSkips", spec := "negotiateSkips", inPlace := ["internal/abi.NoEscape"], unfollowed := true, recurses := true, plainKeys := false, apart := false }
def NegotiateSkipsSaid : Prop := negotiateSkipsRow.holds Tryz.pinned (OpenSpec.ofChange negotiateSkipsSpec)

/-- ITS FALSE NEIGHBOUR: 'it returns false'. Refute it at one input. -/
def negotiateSkipsWrong : ChangeSpec := { name := "negotiateSkips", fn := fun _ => fun
  | [d] => { results := [.lit (.bool false)], args := [d] }
  | _ => none }
def NegotiateSkipsWrongFalsely : Prop := negotiateSkipsRow.holds Tryz.pinned (OpenSpec.ofChange negotiateSkipsWrong)

/-- 'cordwoodlaw15.NegotiateEnough': WHATEVER THE INPUT: true; the input reads as it did. -/
def negotiateEnoughSpec : ChangeSpec := { name := "negotiateEnough", fn := fun _ => fun
  | [d] => { results := [.lit (.bool true)], args := [d] }
  | _ => none }
def negotiateEnoughRow : OpenClaim := { program := "ytdeggadmbjkpfaagreat", sum := "e6f195e7599a639261c8c66e508d0e441569ff6343361c897be3694fdd3871de", func := "cordwood/cordwoodlaw15.NegotiateEnough", spec := "negotiateEnough", inPlace := ["internal/abi.NoEscape"], unfollowed := true, recurses := true, plainKeys := false, apart := false }
def NegotiateEnoughSaid : Prop := negotiateEnoughRow.holds Tryz.pinned (OpenSpec.ofChange negotiateEnoughSpec)

/-- ITS FALSE NEIGHBOUR: 'it returns false'. Refute it at one input. -/
def negotiateEnoughWrong : ChangeSpec := { name := "negotiateEnough", fn := fun _ => fun
  | [d] => { results := [.lit (.bool false)], args := [d] }
  | _ => none }
def NegotiateEnoughWrongFalsely : Prop := negotiateEnoughRow.holds Tryz.pinned (OpenSpec.ofChange negotiateEnoughWrong)

/- THE SECOND FORM. 'bulk': how many values and letters a reading holds, each counted each time it is reached (what is shared counts as often as it is met; a slice's spare places count too). A statement '..UptoSaid' is the law's where the arguments, and the package variables that the reading takes, are together of bulk at most 1048576: NARROWER than '..Said'. Prove '..Said' where nothing that the law and all that it calls make is longer than what came in: it says more and counts as full. Else prove '..UptoSaid'. A law counts once. -/
mutual
def uptoBulk {H : Type} : DataW H → Nat
  | .lit (.string bytes) => bytes.length + 1
  | .lit _ => 1
  | .nil => 1
  | .ptr d => uptoBulk d + 1
  | .slice elems spare => uptoBulkAll elems + uptoBulkAll spare + 1
  | .agg parts => uptoBulkAll parts + 1
  | .iface _ d => uptoBulk d + 1
  | .map entries => uptoBulkEntries entries + 1
  | .held _ => 1
def uptoBulkAll {H : Type} : List (DataW H) → Nat
  | [] => 0
  | d :: r => uptoBulk d + uptoBulkAll r
def uptoBulkEntries {H : Type} : List (Lit × DataW H) → Nat
  | [] => 0
  | x :: r => uptoBulkEntry x + uptoBulkEntries r
def uptoBulkEntry {H : Type} : Lit × DataW H → Nat
  | (.string bytes, d) => bytes.length + uptoBulk d + 1
  | (_, d) => uptoBulk d + 1
 end
def uptoSmall : (H : Type) → List (DataW H) → Bool := fun _ ds => decide (uptoBulkAll ds ≤ 1048576)
def OpenSpec.upto (s : _root_.Go.ChangeSpec) : _root_.Go.OpenSpec := { _root_.Go.OpenSpec.ofChange s with cond := some uptoSmall }

/-- 'cordwoodlaw15.NegotiateAsk', WHERE WHAT IT READS IS OF BULK AT MOST 1048576: true; the input reads as it did. -/
def negotiateAskUptoRow : OpenClaim := { program := "ytdeggadmbjkpfaagreat", sum := "e6f195e7599a639261c8c66e508d0e441569ff6343361c897be3694fdd3871de", func := "cordwood/cordwoodlaw15.NegotiateAsk", spec := "negotiateAsk", inPlace := ["internal/abi.NoEscape"], unfollowed := true, recurses := true, plainKeys := false, apart := false, narrowed := true }
def NegotiateAskUptoSaid : Prop := negotiateAskUptoRow.holds Tryz.pinned (OpenSpec.upto negotiateAskSpec)

/-- 'cordwoodlaw15.NegotiateLearn', WHERE WHAT IT READS IS OF BULK AT MOST 1048576: true; the input reads as it did. -/
def negotiateLearnUptoRow : OpenClaim := { program := "ytdeggadmbjkpfaagreat", sum := "e6f195e7599a639261c8c66e508d0e441569ff6343361c897be3694fdd3871de", func := "cordwood/cordwoodlaw15.NegotiateLearn", spec := "negotiateLearn", inPlace := ["internal/abi.NoEscape"], unfollowed := true, recurses := true, plainKeys := false, apart := false, narrowed := true }
def NegotiateLearnUptoSaid : Prop := negotiateLearnUptoRow.holds Tryz.pinned (OpenSpec.upto negotiateLearnSpec)

/-- 'cordwoodlaw15.NegotiateServe', WHERE WHAT IT READS IS OF BULK AT MOST 1048576: true; the input reads as it did. -/
def negotiateServeUptoRow : OpenClaim := { program := "ytdeggadmbjkpfaagreat", sum := "e6f195e7599a639261c8c66e508d0e441569ff6343361c897be3694fdd3871de", func := "cordwood/cordwoodlaw15.NegotiateServe", spec := "negotiateServe", inPlace := ["internal/abi.NoEscape"], unfollowed := true, recurses := true, plainKeys := false, apart := false, narrowed := true }
def NegotiateServeUptoSaid : Prop := negotiateServeUptoRow.holds Tryz.pinned (OpenSpec.upto negotiateServeSpec)

/-- 'cordwoodlaw15.NegotiateFinds', WHERE WHAT IT READS IS OF BULK AT MOST 1048576: true; the input reads as it did. -/
def negotiateFindsUptoRow : OpenClaim := { program := "ytdeggadmbjkpfaagreat", sum := "e6f195e7599a639261c8c66e508d0e441569ff6343361c897be3694fdd3871de", func := "cordwood/cordwoodlaw15.NegotiateFinds", spec := "negotiateFinds", inPlace := ["internal/abi.NoEscape"], unfollowed := true, recurses := true, plainKeys := false, apart := false, narrowed := true }
def NegotiateFindsUptoSaid : Prop := negotiateFindsUptoRow.holds Tryz.pinned (OpenSpec.upto negotiateFindsSpec)

/-- 'cordwoodlaw15.NegotiateOnce', WHERE WHAT IT READS IS OF BULK AT MOST 1048576: true; the input reads as it did. -/
def negotiateOnceUptoRow : OpenClaim := { program := "ytdeggadmbjkpfaagreat", sum := "e6f195e7599a639261c8c66e508d0e441569ff6343361c897be3694fdd3871de", func := "cordwood/cordwoodlaw15.NegotiateOnce", spec := "negotiateOnce", inPlace := ["internal/abi.NoEscape"], unfollowed := true, recurses := true, plainKeys := false, apart := false, narrowed := true }
def NegotiateOnceUptoSaid : Prop := negotiateOnceUptoRow.holds Tryz.pinned (OpenSpec.upto negotiateOnceSpec)

/-- 'cordwoodlaw15.NegotiateSkips', WHERE WHAT IT READS IS OF BULK AT MOST 1048576: true; the input reads as it did. -/
def negotiateSkipsUptoRow : OpenClaim := { program := "ytdeggadmbjkpfaagreat", sum := "e6f195e7599a639261c8c66e508d0e441569ff6343361c897be3694fdd3871de", func := "cordwood/cordwoodlaw15.NegotiateSkips", spec := "negotiateSkips", inPlace := ["internal/abi.NoEscape"], unfollowed := true, recurses := true, plainKeys := false, apart := false, narrowed := true }
def NegotiateSkipsUptoSaid : Prop := negotiateSkipsUptoRow.holds Tryz.pinned (OpenSpec.upto negotiateSkipsSpec)

/-- 'cordwoodlaw15.NegotiateEnough', WHERE WHAT IT READS IS OF BULK AT MOST 1048576: true; the input reads as it did. -/
def negotiateEnoughUptoRow : OpenClaim := { program := "ytdeggadmbjkpfaagreat", sum := "e6f195e7599a639261c8c66e508d0e441569ff6343361c897be3694fdd3871de", func := "cordwood/cordwoodlaw15.NegotiateEnough", spec := "negotiateEnough", inPlace := ["internal/abi.NoEscape"], unfollowed := true, recurses := true, plainKeys := false, apart := false, narrowed := true }
def NegotiateEnoughUptoSaid : Prop := negotiateEnoughUptoRow.holds Tryz.pinned (OpenSpec.upto negotiateEnoughSpec)

end Rows
end Go.Proofs.YtdeggadmbjkpfaaGreat
