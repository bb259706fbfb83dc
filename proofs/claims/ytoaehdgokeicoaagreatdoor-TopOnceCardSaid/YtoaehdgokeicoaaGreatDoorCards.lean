/-
  DERIVED. GIVEN WITH THE SEED: THE CARDS: each row of YtoaehdgokeicoaaGreatDoorRows.lean that lists a variable, with what it lists TIED to the program's text (the seventh form; the later family's looks); each row that meets fmt, with fmt's text TOLD by the authors' own Lean function (tested against real Go, not proved from fmt's source: count such statements apart). THE CARD IS WHAT COUNTS. Prove the row's statement (the work); the ties are given (YtoaehdgokeicoaaGreatDoorTie.lean); close each card by the builder's one call (the guide's Derived/Test/ToyasCard.lean, 'card_holds'). Laid BY PROGRAM, IN A SANDBOX (cutbox-door.mjs). By AI agents, Wed Nov 11 2026. No macro, syntax, notation, axiom, sorry.
-/
import Derived.Test.YtoaehdgokeicoaaGreatDoorRows
import GoSem.ClaimSeven
namespace Go.Proofs.YtoaehdgokeicoaaGreatDoor
namespace Rows

/-- THE TIED CARD OF 'clevistop.TopOnce'. -/
def topOnceCard : Claim7 := { stood := { row := topOnceRow, standIns := [], harness := (true, "10a69eb64c98ea0a4da16b9d22924bebc5e51deb804f7a0782185478913d9015"), looks := true }, kinds := [], alts := [], laidByText := true, laidKinds := [.data, .pinned], laidTests := true, laidLooks := .later }
def TopOnceCardSaid : Prop := Claim7.holds Tryz.pinned (.plain (OpenSpec.ofChange topOnceSpec)) topOnceCard

/-- THE SECOND FORM's CARD OF 'clevistop.TopOnce'. -/
def topOnceUptoCard : Claim7 := { stood := { row := topOnceUptoRow, standIns := [], harness := (true, "10a69eb64c98ea0a4da16b9d22924bebc5e51deb804f7a0782185478913d9015"), looks := true }, kinds := [], alts := [], laidByText := true, laidKinds := [.data, .pinned], laidTests := true, laidLooks := .later }
def TopOnceUptoCardSaid : Prop := Claim7.holds Tryz.pinned (.plain (OpenSpec.upto topOnceSpec)) topOnceUptoCard
end Rows
end Go.Proofs.YtoaehdgokeicoaaGreatDoor
