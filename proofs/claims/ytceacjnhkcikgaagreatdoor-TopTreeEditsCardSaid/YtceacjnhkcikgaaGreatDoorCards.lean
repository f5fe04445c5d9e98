/-
  DERIVED. GIVEN WITH THE SEED: THE CARDS: each row of YtceacjnhkcikgaaGreatDoorRows.lean that lists a variable, with what it lists TIED to the program's text (the seventh form; the later family's looks); each row that meets fmt, with fmt's text TOLD by the authors' own Lean function (tested against real Go, not proved from fmt's source: count such statements apart). THE CARD IS WHAT COUNTS. Prove the row's statement (the work); the ties are given (YtceacjnhkcikgaaGreatDoorTie.lean); close each card by the builder's one call (the guide's Derived/Test/ToyasCard.lean, 'card_holds'). Laid BY PROGRAM, IN A SANDBOX (cutbox-door.mjs). By AI agents, Wed Nov 11 2026. No macro, syntax, notation, axiom, sorry.
-/
import Derived.Test.YtceacjnhkcikgaaGreatDoorRows
import GoSem.ClaimSeven
namespace Go.Proofs.YtceacjnhkcikgaaGreatDoor
namespace Rows

/-- THE TIED CARD OF 'cordwoodtop.TopTreeEdits'. -/
def topTreeEditsCard : Claim7 := { stood := { row := topTreeEditsRow, standIns := [], harness := (true, "cc63f73b0b75e3c0126fdf2a514356c1b6de2286160628813f213ae8bdde8cd6"), looks := false }, kinds := [], alts := [], laidByText := true, laidKinds := [.data, .pinned], laidTests := true, laidLooks := .later }
def TopTreeEditsCardSaid : Prop := Claim7.holds Tryz.pinned (.plain (OpenSpec.ofChange topTreeEditsSpec)) topTreeEditsCard

/-- THE SECOND FORM's CARD OF 'cordwoodtop.TopTreeEdits'. -/
def topTreeEditsUptoCard : Claim7 := { stood := { row := topTreeEditsUptoRow, standIns := [], harness := (true, "cc63f73b0b75e3c0126fdf2a514356c1b6de2286160628813f213ae8bdde8cd6"), looks := false }, kinds := [], alts := [], laidByText := true, laidKinds := [.data, .pinned], laidTests := true, laidLooks := .later }
def TopTreeEditsUptoCardSaid : Prop := Claim7.holds Tryz.pinned (.plain (OpenSpec.upto topTreeEditsSpec)) topTreeEditsUptoCard
end Rows
end Go.Proofs.YtceacjnhkcikgaaGreatDoor
