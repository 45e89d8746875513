/-
  DERIVED. GIVEN WITH THE SEED: THE CARDS: each row of YtnbnldnfkikakaaGreatDoorRows.lean that lists a variable, with what it lists TIED to the program's text (the seventh form; the later family's looks); each row that meets fmt, with fmt's text TOLD by the authors' own Lean function (tested against real Go, not proved from fmt's source: count such statements apart). THE CARD IS WHAT COUNTS. Prove the row's statement (the work); the ties are given (YtnbnldnfkikakaaGreatDoorTie.lean); close each card by the builder's one call (the guide's Derived/Test/ToyasCard.lean, 'card_holds'). Laid BY PROGRAM, IN A SANDBOX (cutbox-door.mjs). By AI agents, Wed Nov 11 2026. No macro, syntax, notation, axiom, sorry.
-/
import Derived.Test.YtnbnldnfkikakaaGreatDoorRows
import GoSem.ClaimSeven
namespace Go.Proofs.YtnbnldnfkikakaaGreatDoor
namespace Rows

/-- THE TIED CARD OF 'nameplanlaw16.WorldMatchesReference'. -/
def worldMatchesReferenceCard : Claim7 := { stood := { row := worldMatchesReferenceRow, standIns := [], harness := (true, "f6ce3889866b90c77f9f26db54af1703e05b3cdb1244e6d97e76d8faaad17b9e"), looks := false }, kinds := [], alts := [], laidByText := true, laidKinds := [.data], laidTests := true, laidLooks := .later }
def WorldMatchesReferenceCardSaid : Prop := Claim7.holds Tryz.pinned (.plain (OpenSpec.ofChange worldMatchesReferenceSpec)) worldMatchesReferenceCard

/-- THE TIED CARD OF 'nameplanlaw16.WorldAsks'. -/
def worldAsksCard : Claim7 := { stood := { row := worldAsksRow, standIns := [], harness := (true, "f6ce3889866b90c77f9f26db54af1703e05b3cdb1244e6d97e76d8faaad17b9e"), looks := false }, kinds := [], alts := [], laidByText := true, laidKinds := [.data], laidTests := true, laidLooks := .later }
def WorldAsksCardSaid : Prop := Claim7.holds Tryz.pinned (.plain (OpenSpec.ofChange worldAsksSpec)) worldAsksCard

/-- THE TIED CARD OF 'nameplanlaw16.WorldHomes'. -/
def worldHomesCard : Claim7 := { stood := { row := worldHomesRow, standIns := [], harness := (true, "f6ce3889866b90c77f9f26db54af1703e05b3cdb1244e6d97e76d8faaad17b9e"), looks := false }, kinds := [], alts := [], laidByText := true, laidKinds := [.data], laidTests := true, laidLooks := .later }
def WorldHomesCardSaid : Prop := Claim7.holds Tryz.pinned (.plain (OpenSpec.ofChange worldHomesSpec)) worldHomesCard

/-- THE TIED CARD OF 'nameplanlaw16.WorldAliases'. -/
def worldAliasesCard : Claim7 := { stood := { row := worldAliasesRow, standIns := [], harness := (true, "f6ce3889866b90c77f9f26db54af1703e05b3cdb1244e6d97e76d8faaad17b9e"), looks := false }, kinds := [], alts := [], laidByText := true, laidKinds := [.data], laidTests := true, laidLooks := .later }
def WorldAliasesCardSaid : Prop := Claim7.holds Tryz.pinned (.plain (OpenSpec.ofChange worldAliasesSpec)) worldAliasesCard

/-- THE TIED CARD OF 'nameplanlaw16.WorldReferrals'. -/
def worldReferralsCard : Claim7 := { stood := { row := worldReferralsRow, standIns := [], harness := (true, "f6ce3889866b90c77f9f26db54af1703e05b3cdb1244e6d97e76d8faaad17b9e"), looks := false }, kinds := [], alts := [], laidByText := true, laidKinds := [.data], laidTests := true, laidLooks := .later }
def WorldReferralsCardSaid : Prop := Claim7.holds Tryz.pinned (.plain (OpenSpec.ofChange worldReferralsSpec)) worldReferralsCard

/-- THE TIED CARD OF 'nameplanlaw16.WorldDamage'. -/
def worldDamageCard : Claim7 := { stood := { row := worldDamageRow, standIns := [], harness := (true, "f6ce3889866b90c77f9f26db54af1703e05b3cdb1244e6d97e76d8faaad17b9e"), looks := false }, kinds := [], alts := [], laidByText := true, laidKinds := [.data], laidTests := true, laidLooks := .later }
def WorldDamageCardSaid : Prop := Claim7.holds Tryz.pinned (.plain (OpenSpec.ofChange worldDamageSpec)) worldDamageCard

/-- THE TIED CARD OF 'nameplanlaw16.WorldOlder'. -/
def worldOlderCard : Claim7 := { stood := { row := worldOlderRow, standIns := [], harness := (true, "f6ce3889866b90c77f9f26db54af1703e05b3cdb1244e6d97e76d8faaad17b9e"), looks := false }, kinds := [], alts := [], laidByText := true, laidKinds := [.data], laidTests := true, laidLooks := .later }
def WorldOlderCardSaid : Prop := Claim7.holds Tryz.pinned (.plain (OpenSpec.ofChange worldOlderSpec)) worldOlderCard

/-- THE SECOND FORM's CARD OF 'nameplanlaw16.WorldMatchesReference'. -/
def worldMatchesReferenceUptoCard : Claim7 := { stood := { row := worldMatchesReferenceUptoRow, standIns := [], harness := (true, "f6ce3889866b90c77f9f26db54af1703e05b3cdb1244e6d97e76d8faaad17b9e"), looks := false }, kinds := [], alts := [], laidByText := true, laidKinds := [.data], laidTests := true, laidLooks := .later }
def WorldMatchesReferenceUptoCardSaid : Prop := Claim7.holds Tryz.pinned (.plain (OpenSpec.upto worldMatchesReferenceSpec)) worldMatchesReferenceUptoCard

/-- THE SECOND FORM's CARD OF 'nameplanlaw16.WorldAsks'. -/
def worldAsksUptoCard : Claim7 := { stood := { row := worldAsksUptoRow, standIns := [], harness := (true, "f6ce3889866b90c77f9f26db54af1703e05b3cdb1244e6d97e76d8faaad17b9e"), looks := false }, kinds := [], alts := [], laidByText := true, laidKinds := [.data], laidTests := true, laidLooks := .later }
def WorldAsksUptoCardSaid : Prop := Claim7.holds Tryz.pinned (.plain (OpenSpec.upto worldAsksSpec)) worldAsksUptoCard

/-- THE SECOND FORM's CARD OF 'nameplanlaw16.WorldHomes'. -/
def worldHomesUptoCard : Claim7 := { stood := { row := worldHomesUptoRow, standIns := [], harness := (true, "f6ce3889866b90c77f9f26db54af1703e05b3cdb1244e6d97e76d8faaad17b9e"), looks := false }, kinds := [], alts := [], laidByText := true, laidKinds := [.data], laidTests := true, laidLooks := .later }
def WorldHomesUptoCardSaid : Prop := Claim7.holds Tryz.pinned (.plain (OpenSpec.upto worldHomesSpec)) worldHomesUptoCard

/-- THE SECOND FORM's CARD OF 'nameplanlaw16.WorldAliases'. -/
def worldAliasesUptoCard : Claim7 := { stood := { row := worldAliasesUptoRow, standIns := [], harness := (true, "f6ce3889866b90c77f9f26db54af1703e05b3cdb1244e6d97e76d8faaad17b9e"), looks := false }, kinds := [], alts := [], laidByText := true, laidKinds := [.data], laidTests := true, laidLooks := .later }
def WorldAliasesUptoCardSaid : Prop := Claim7.holds Tryz.pinned (.plain (OpenSpec.upto worldAliasesSpec)) worldAliasesUptoCard

/-- THE SECOND FORM's CARD OF 'nameplanlaw16.WorldReferrals'. -/
def worldReferralsUptoCard : Claim7 := { stood := { row := worldReferralsUptoRow, standIns := [], harness := (true, "f6ce3889866b90c77f9f26db54af1703e05b3cdb1244e6d97e76d8faaad17b9e"), looks := false }, kinds := [], alts := [], laidByText := true, laidKinds := [.data], laidTests := true, laidLooks := .later }
def WorldReferralsUptoCardSaid : Prop := Claim7.holds Tryz.pinned (.plain (OpenSpec.upto worldReferralsSpec)) worldReferralsUptoCard

/-- THE SECOND FORM's CARD OF 'nameplanlaw16.WorldDamage'. -/
def worldDamageUptoCard : Claim7 := { stood := { row := worldDamageUptoRow, standIns := [], harness := (true, "f6ce3889866b90c77f9f26db54af1703e05b3cdb1244e6d97e76d8faaad17b9e"), looks := false }, kinds := [], alts := [], laidByText := true, laidKinds := [.data], laidTests := true, laidLooks := .later }
def WorldDamageUptoCardSaid : Prop := Claim7.holds Tryz.pinned (.plain (OpenSpec.upto worldDamageSpec)) worldDamageUptoCard

/-- THE SECOND FORM's CARD OF 'nameplanlaw16.WorldOlder'. -/
def worldOlderUptoCard : Claim7 := { stood := { row := worldOlderUptoRow, standIns := [], harness := (true, "f6ce3889866b90c77f9f26db54af1703e05b3cdb1244e6d97e76d8faaad17b9e"), looks := false }, kinds := [], alts := [], laidByText := true, laidKinds := [.data], laidTests := true, laidLooks := .later }
def WorldOlderUptoCardSaid : Prop := Claim7.holds Tryz.pinned (.plain (OpenSpec.upto worldOlderSpec)) worldOlderUptoCard
end Rows
end Go.Proofs.YtnbnldnfkikakaaGreatDoor
