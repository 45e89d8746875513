/-
  DERIVED. GIVEN WITH THE SEED: THE CARDS: each row of YtmaepddmaghpjaaGreatDoorRows.lean that lists a variable, with what it lists TIED to the program's text (the seventh form; the later family's looks); each row that meets fmt, with fmt's text TOLD by the authors' own Lean function (tested against real Go, not proved from fmt's source: count such statements apart). THE CARD IS WHAT COUNTS. Prove the row's statement (the work); the ties are given (YtmaepddmaghpjaaGreatDoorTie.lean); close each card by the builder's one call (the guide's Derived/Test/ToyasCard.lean, 'card_holds'). Laid BY PROGRAM, IN A SANDBOX (cutbox-door.mjs). By AI agents, Wed Nov 11 2026. No macro, syntax, notation, axiom, sorry.
-/
import Derived.Test.YtmaepddmaghpjaaGreatDoorRows
import GoSem.ClaimSeven
namespace Go.Proofs.YtmaepddmaghpjaaGreatDoor
namespace Rows

/-- THE TIED CARD OF 'nameplanlaw18.LameShown'. -/
def lameShownCard : Claim7 := { stood := { row := lameShownRow, standIns := [], harness := (true, "4405df12fea72ad3841d5e7d5f1e55a63c1467128ccc63ebdabebefd69e090fb"), looks := false }, kinds := [], alts := [], laidByText := true, laidKinds := [.data], laidTests := true, laidLooks := .later }
def LameShownCardSaid : Prop := Claim7.holds Tryz.pinned (.plain (OpenSpec.ofChange lameShownSpec)) lameShownCard

/-- THE SECOND FORM's CARD OF 'nameplanlaw18.LameShown'. -/
def lameShownUptoCard : Claim7 := { stood := { row := lameShownUptoRow, standIns := [], harness := (true, "4405df12fea72ad3841d5e7d5f1e55a63c1467128ccc63ebdabebefd69e090fb"), looks := false }, kinds := [], alts := [], laidByText := true, laidKinds := [.data], laidTests := true, laidLooks := .later }
def LameShownUptoCardSaid : Prop := Claim7.holds Tryz.pinned (.plain (OpenSpec.upto lameShownSpec)) lameShownUptoCard
end Rows
end Go.Proofs.YtmaepddmaghpjaaGreatDoor
