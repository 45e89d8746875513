/-
  DERIVED. GIVEN WITH THE SEED: THE CARDS: each row of YtjahfdplemedlaaGreatDoorRows.lean that lists a variable, with what it lists TIED to the program's text (the seventh form; the later family's looks); each row that meets fmt, with fmt's text TOLD by the authors' own Lean function (tested against real Go, not proved from fmt's source: count such statements apart). THE CARD IS WHAT COUNTS. Prove the row's statement (the work); the ties are given (YtjahfdplemedlaaGreatDoorTie.lean); close each card by the builder's one call (the guide's Derived/Test/ToyasCard.lean, 'card_holds'). Laid BY PROGRAM, IN A SANDBOX (cutbox-door.mjs). By AI agents, Wed Nov 11 2026. No macro, syntax, notation, axiom, sorry.
-/
import Derived.Test.YtjahfdplemedlaaGreatDoorRows
import GoSem.ClaimSeven
namespace Go.Proofs.YtjahfdplemedlaaGreatDoor
namespace Rows

/-- THE TIED CARD OF 'nameplanlaw06.ZoneOrder'. -/
def zoneOrderCard : Claim7 := { stood := { row := zoneOrderRow, standIns := [], harness := (true, "ede3c524d9fbf9018ec3ef2c191081eb3c03c42df207d9a479d4402f8e2628dd"), looks := false }, kinds := [], alts := [], laidByText := true, laidKinds := [.data], laidTests := true, laidLooks := .later }
def ZoneOrderCardSaid : Prop := Claim7.holds Tryz.pinned (.plain (OpenSpec.ofChange zoneOrderSpec)) zoneOrderCard

/-- THE TIED CARD OF 'nameplanlaw06.ZoneMatchesReference'. -/
def zoneMatchesReferenceCard : Claim7 := { stood := { row := zoneMatchesReferenceRow, standIns := [], harness := (true, "ede3c524d9fbf9018ec3ef2c191081eb3c03c42df207d9a479d4402f8e2628dd"), looks := false }, kinds := [], alts := [], laidByText := true, laidKinds := [.data], laidTests := true, laidLooks := .later }
def ZoneMatchesReferenceCardSaid : Prop := Claim7.holds Tryz.pinned (.plain (OpenSpec.ofChange zoneMatchesReferenceSpec)) zoneMatchesReferenceCard

/-- THE TIED CARD OF 'nameplanlaw06.ZonePut'. -/
def zonePutCard : Claim7 := { stood := { row := zonePutRow, standIns := [], harness := (true, "ede3c524d9fbf9018ec3ef2c191081eb3c03c42df207d9a479d4402f8e2628dd"), looks := false }, kinds := [], alts := [], laidByText := true, laidKinds := [.data], laidTests := true, laidLooks := .later }
def ZonePutCardSaid : Prop := Claim7.holds Tryz.pinned (.plain (OpenSpec.ofChange zonePutSpec)) zonePutCard

/-- THE TIED CARD OF 'nameplanlaw06.ZoneDrop'. -/
def zoneDropCard : Claim7 := { stood := { row := zoneDropRow, standIns := [], harness := (true, "ede3c524d9fbf9018ec3ef2c191081eb3c03c42df207d9a479d4402f8e2628dd"), looks := false }, kinds := [], alts := [], laidByText := true, laidKinds := [.data], laidTests := true, laidLooks := .later }
def ZoneDropCardSaid : Prop := Claim7.holds Tryz.pinned (.plain (OpenSpec.ofChange zoneDropSpec)) zoneDropCard

/-- THE SECOND FORM's CARD OF 'nameplanlaw06.ZoneOrder'. -/
def zoneOrderUptoCard : Claim7 := { stood := { row := zoneOrderUptoRow, standIns := [], harness := (true, "ede3c524d9fbf9018ec3ef2c191081eb3c03c42df207d9a479d4402f8e2628dd"), looks := false }, kinds := [], alts := [], laidByText := true, laidKinds := [.data], laidTests := true, laidLooks := .later }
def ZoneOrderUptoCardSaid : Prop := Claim7.holds Tryz.pinned (.plain (OpenSpec.upto zoneOrderSpec)) zoneOrderUptoCard

/-- THE SECOND FORM's CARD OF 'nameplanlaw06.ZoneMatchesReference'. -/
def zoneMatchesReferenceUptoCard : Claim7 := { stood := { row := zoneMatchesReferenceUptoRow, standIns := [], harness := (true, "ede3c524d9fbf9018ec3ef2c191081eb3c03c42df207d9a479d4402f8e2628dd"), looks := false }, kinds := [], alts := [], laidByText := true, laidKinds := [.data], laidTests := true, laidLooks := .later }
def ZoneMatchesReferenceUptoCardSaid : Prop := Claim7.holds Tryz.pinned (.plain (OpenSpec.upto zoneMatchesReferenceSpec)) zoneMatchesReferenceUptoCard

/-- THE SECOND FORM's CARD OF 'nameplanlaw06.ZonePut'. -/
def zonePutUptoCard : Claim7 := { stood := { row := zonePutUptoRow, standIns := [], harness := (true, "ede3c524d9fbf9018ec3ef2c191081eb3c03c42df207d9a479d4402f8e2628dd"), looks := false }, kinds := [], alts := [], laidByText := true, laidKinds := [.data], laidTests := true, laidLooks := .later }
def ZonePutUptoCardSaid : Prop := Claim7.holds Tryz.pinned (.plain (OpenSpec.upto zonePutSpec)) zonePutUptoCard

/-- THE SECOND FORM's CARD OF 'nameplanlaw06.ZoneDrop'. -/
def zoneDropUptoCard : Claim7 := { stood := { row := zoneDropUptoRow, standIns := [], harness := (true, "ede3c524d9fbf9018ec3ef2c191081eb3c03c42df207d9a479d4402f8e2628dd"), looks := false }, kinds := [], alts := [], laidByText := true, laidKinds := [.data], laidTests := true, laidLooks := .later }
def ZoneDropUptoCardSaid : Prop := Claim7.holds Tryz.pinned (.plain (OpenSpec.upto zoneDropSpec)) zoneDropUptoCard
end Rows
end Go.Proofs.YtjahfdplemedlaaGreatDoor
