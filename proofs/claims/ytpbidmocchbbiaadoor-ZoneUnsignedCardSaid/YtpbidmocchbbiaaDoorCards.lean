/-
  DERIVED. GIVEN WITH THE SEED: THE CARDS: each row of YtpbidmocchbbiaaDoorRows.lean that lists a variable, with what it lists TIED to the program's text (the seventh form; the later family's looks); each row that meets fmt, with fmt's text TOLD by the authors' own Lean function (tested against real Go, not proved from fmt's source: count such statements apart). THE CARD IS WHAT COUNTS. Prove the row's statement (the work); the ties are given (YtpbidmocchbbiaaDoorTie.lean); close each card by the builder's one call (the guide's Derived/Test/ToyasCard.lean, 'card_holds'). Laid BY PROGRAM, IN A SANDBOX (cutbox-door.mjs). By AI agents, Wed Nov 11 2026. No macro, syntax, notation, axiom, sorry.
-/
import Derived.Test.YtpbidmocchbbiaaDoorRows
import GoSem.ClaimSeven
namespace Go.Proofs.YtpbidmocchbbiaaDoor
namespace Rows

/-- THE TIED CARD OF 'nameplanlaw06.ZoneNames'. -/
def zoneNamesCard : Claim7 := { stood := { row := zoneNamesRow, standIns := [], harness := (true, "3ba112a7bb3719ccfa4604169c74bd5ad4f4d7c33f3b9756a30078ed40ebc9e4"), looks := false }, kinds := [], alts := [], laidByText := true, laidKinds := [.data], laidTests := true, laidLooks := .later }
def ZoneNamesCardSaid : Prop := Claim7.holds Tryd.pinned (.plain (OpenSpec.ofChange zoneNamesSpec)) zoneNamesCard

/-- THE TIED CARD OF 'nameplanlaw06.ZoneDamage'. -/
def zoneDamageCard : Claim7 := { stood := { row := zoneDamageRow, standIns := [], harness := (true, "3ba112a7bb3719ccfa4604169c74bd5ad4f4d7c33f3b9756a30078ed40ebc9e4"), looks := false }, kinds := [], alts := [], laidByText := true, laidKinds := [.data], laidTests := true, laidLooks := .later }
def ZoneDamageCardSaid : Prop := Claim7.holds Tryd.pinned (.plain (OpenSpec.ofChange zoneDamageSpec)) zoneDamageCard

/-- THE TIED CARD OF 'nameplanlaw06.ZoneUnsigned'. -/
def zoneUnsignedCard : Claim7 := { stood := { row := zoneUnsignedRow, standIns := [], harness := (true, "3ba112a7bb3719ccfa4604169c74bd5ad4f4d7c33f3b9756a30078ed40ebc9e4"), looks := false }, kinds := [], alts := [], laidByText := true, laidKinds := [.data], laidTests := true, laidLooks := .later }
def ZoneUnsignedCardSaid : Prop := Claim7.holds Tryd.pinned (.plain (OpenSpec.ofChange zoneUnsignedSpec)) zoneUnsignedCard

/-- THE TIED CARD OF 'nameplanlaw06.ZoneCuts'. -/
def zoneCutsCard : Claim7 := { stood := { row := zoneCutsRow, standIns := [], harness := (true, "3ba112a7bb3719ccfa4604169c74bd5ad4f4d7c33f3b9756a30078ed40ebc9e4"), looks := false }, kinds := [], alts := [], laidByText := true, laidKinds := [.data], laidTests := true, laidLooks := .later }
def ZoneCutsCardSaid : Prop := Claim7.holds Tryd.pinned (.plain (OpenSpec.ofChange zoneCutsSpec)) zoneCutsCard

/-- THE SECOND FORM's CARD OF 'nameplanlaw06.ZoneNames'. -/
def zoneNamesUptoCard : Claim7 := { stood := { row := zoneNamesUptoRow, standIns := [], harness := (true, "3ba112a7bb3719ccfa4604169c74bd5ad4f4d7c33f3b9756a30078ed40ebc9e4"), looks := false }, kinds := [], alts := [], laidByText := true, laidKinds := [.data], laidTests := true, laidLooks := .later }
def ZoneNamesUptoCardSaid : Prop := Claim7.holds Tryd.pinned (.plain (OpenSpec.upto zoneNamesSpec)) zoneNamesUptoCard

/-- THE SECOND FORM's CARD OF 'nameplanlaw06.ZoneDamage'. -/
def zoneDamageUptoCard : Claim7 := { stood := { row := zoneDamageUptoRow, standIns := [], harness := (true, "3ba112a7bb3719ccfa4604169c74bd5ad4f4d7c33f3b9756a30078ed40ebc9e4"), looks := false }, kinds := [], alts := [], laidByText := true, laidKinds := [.data], laidTests := true, laidLooks := .later }
def ZoneDamageUptoCardSaid : Prop := Claim7.holds Tryd.pinned (.plain (OpenSpec.upto zoneDamageSpec)) zoneDamageUptoCard

/-- THE SECOND FORM's CARD OF 'nameplanlaw06.ZoneUnsigned'. -/
def zoneUnsignedUptoCard : Claim7 := { stood := { row := zoneUnsignedUptoRow, standIns := [], harness := (true, "3ba112a7bb3719ccfa4604169c74bd5ad4f4d7c33f3b9756a30078ed40ebc9e4"), looks := false }, kinds := [], alts := [], laidByText := true, laidKinds := [.data], laidTests := true, laidLooks := .later }
def ZoneUnsignedUptoCardSaid : Prop := Claim7.holds Tryd.pinned (.plain (OpenSpec.upto zoneUnsignedSpec)) zoneUnsignedUptoCard

/-- THE SECOND FORM's CARD OF 'nameplanlaw06.ZoneCuts'. -/
def zoneCutsUptoCard : Claim7 := { stood := { row := zoneCutsUptoRow, standIns := [], harness := (true, "3ba112a7bb3719ccfa4604169c74bd5ad4f4d7c33f3b9756a30078ed40ebc9e4"), looks := false }, kinds := [], alts := [], laidByText := true, laidKinds := [.data], laidTests := true, laidLooks := .later }
def ZoneCutsUptoCardSaid : Prop := Claim7.holds Tryd.pinned (.plain (OpenSpec.upto zoneCutsSpec)) zoneCutsUptoCard
end Rows
end Go.Proofs.YtpbidmocchbbiaaDoor
