/-
  DERIVED. GIVEN WITH THE SEED: THE CARDS: each row of YtdedfkljaeloiaaGreatDoorRows.lean that lists a variable, with what it lists TIED to the program's text (the seventh form; the later family's looks); each row that meets fmt, with fmt's text TOLD by the authors' own Lean function (tested against real Go, not proved from fmt's source: count such statements apart). THE CARD IS WHAT COUNTS. Prove the row's statement (the work); the ties are given (YtdedfkljaeloiaaGreatDoorTie.lean); close each card by the builder's one call (the guide's Derived/Test/ToyasCard.lean, 'card_holds'). Laid BY PROGRAM, IN A SANDBOX (cutbox-door.mjs). By AI agents, Wed Nov 11 2026. No macro, syntax, notation, axiom, sorry.
-/
import Derived.Test.YtdedfkljaeloiaaGreatDoorRows
import GoSem.ClaimSeven
namespace Go.Proofs.YtdedfkljaeloiaaGreatDoor
namespace Rows

/-- THE TIED CARD OF 'cordwoodtop.TopApproved'. -/
def topApprovedCard : Claim7 := { stood := { row := topApprovedRow, standIns := [], harness := (true, "a7f456cd3d0952060bfa1c3f8630d46bc9c11726fc56fa9645b7162e3c2f5ef5"), looks := false }, kinds := [], alts := [], laidByText := true, laidKinds := [.data, .pinned], laidTests := true, laidLooks := .later }
def TopApprovedCardSaid : Prop := Claim7.holds Tryz.pinned (.plain (OpenSpec.ofChange topApprovedSpec)) topApprovedCard

/-- THE SECOND FORM's CARD OF 'cordwoodtop.TopApproved'. -/
def topApprovedUptoCard : Claim7 := { stood := { row := topApprovedUptoRow, standIns := [], harness := (true, "a7f456cd3d0952060bfa1c3f8630d46bc9c11726fc56fa9645b7162e3c2f5ef5"), looks := false }, kinds := [], alts := [], laidByText := true, laidKinds := [.data, .pinned], laidTests := true, laidLooks := .later }
def TopApprovedUptoCardSaid : Prop := Claim7.holds Tryz.pinned (.plain (OpenSpec.upto topApprovedSpec)) topApprovedUptoCard
end Rows
end Go.Proofs.YtdedfkljaeloiaaGreatDoor
