/-
  DERIVED. GIVEN WITH THE SEED: THE CARDS: each row of YtkbaknebojlonaaDoorRows.lean that lists a variable, with what it lists TIED to the program's text (the seventh form; the later family's looks); each row that meets fmt, with fmt's text TOLD by the authors' own Lean function (tested against real Go, not proved from fmt's source: count such statements apart). THE CARD IS WHAT COUNTS. Prove the row's statement (the work); the ties are given (YtkbaknebojlonaaDoorTie.lean); close each card by the builder's one call (the guide's Derived/Test/ToyasCard.lean, 'card_holds'). Laid BY PROGRAM, IN A SANDBOX (cutbox-door.mjs). By AI agents, Wed Nov 11 2026. No macro, syntax, notation, axiom, sorry.
-/
import Derived.Test.YtkbaknebojlonaaDoorRows
import GoSem.ClaimSeven
namespace Go.Proofs.YtkbaknebojlonaaDoor
namespace Rows

/-- THE TIED CARD OF 'nameplanlaw06.ZoneDamage'. -/
def zoneDamageCard : Claim7 := { stood := { row := zoneDamageRow, standIns := [], harness := (true, "26ea1c34c86d1039500417c3feee580fbf07517a8ff5d36d82ab1442426d61cb"), looks := false }, kinds := [], alts := [], laidByText := true, laidKinds := [.data], laidTests := true, laidLooks := .later }
def ZoneDamageCardSaid : Prop := Claim7.holds Tryd.pinned (.plain (OpenSpec.ofChange zoneDamageSpec)) zoneDamageCard

/-- THE SECOND FORM's CARD OF 'nameplanlaw06.ZoneDamage'. -/
def zoneDamageUptoCard : Claim7 := { stood := { row := zoneDamageUptoRow, standIns := [], harness := (true, "26ea1c34c86d1039500417c3feee580fbf07517a8ff5d36d82ab1442426d61cb"), looks := false }, kinds := [], alts := [], laidByText := true, laidKinds := [.data], laidTests := true, laidLooks := .later }
def ZoneDamageUptoCardSaid : Prop := Claim7.holds Tryd.pinned (.plain (OpenSpec.upto zoneDamageSpec)) zoneDamageUptoCard
end Rows
end Go.Proofs.YtkbaknebojlonaaDoor
