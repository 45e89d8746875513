/-
  DERIVED. GIVEN WITH THE SEED: THE CARDS: each row of YtjojkakjmoefaaaGreatDoorRows.lean that lists a variable, with what it lists TIED to the program's text (the seventh form; the later family's looks); each row that meets fmt, with fmt's text TOLD by the authors' own Lean function (tested against real Go, not proved from fmt's source: count such statements apart). THE CARD IS WHAT COUNTS. Prove the row's statement (the work); the ties are given (YtjojkakjmoefaaaGreatDoorTie.lean); close each card by the builder's one call (the guide's Derived/Test/ToyasCard.lean, 'card_holds'). Laid BY PROGRAM, IN A SANDBOX (cutbox-door.mjs). By AI agents, Wed Nov 11 2026. No macro, syntax, notation, axiom, sorry.
-/
import Derived.Test.YtjojkakjmoefaaaGreatDoorRows
import GoSem.ClaimSeven
namespace Go.Proofs.YtjojkakjmoefaaaGreatDoor
namespace Rows

/-- THE TIED CARD OF 'nameplanlaw34.WishTruth'. -/
def wishTruthCard : Claim7 := { stood := { row := wishTruthRow, standIns := [], harness := (true, "be29580920be69c13279c77d45ca902d5c6aeb5d9914b4f32afd51be39444d6c"), looks := true }, kinds := [], alts := [], laidByText := true, laidKinds := [.data], laidTests := true, laidLooks := .later }
def WishTruthCardSaid : Prop := Claim7.holds Tryz.pinned (.plain (OpenSpec.ofChange wishTruthSpec)) wishTruthCard

/-- THE SECOND FORM's CARD OF 'nameplanlaw34.WishTruth'. -/
def wishTruthUptoCard : Claim7 := { stood := { row := wishTruthUptoRow, standIns := [], harness := (true, "be29580920be69c13279c77d45ca902d5c6aeb5d9914b4f32afd51be39444d6c"), looks := true }, kinds := [], alts := [], laidByText := true, laidKinds := [.data], laidTests := true, laidLooks := .later }
def WishTruthUptoCardSaid : Prop := Claim7.holds Tryz.pinned (.plain (OpenSpec.upto wishTruthSpec)) wishTruthUptoCard
end Rows
end Go.Proofs.YtjojkakjmoefaaaGreatDoor
