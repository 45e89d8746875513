/-
  DERIVED. GIVEN WITH THE SEED: THE CARDS: each row of YtjecmfajdofamaaGreatDoorRows.lean that lists a variable, with what it lists TIED to the program's text (the seventh form; the later family's looks); each row that meets fmt, with fmt's text TOLD by the authors' own Lean function (tested against real Go, not proved from fmt's source: count such statements apart). THE CARD IS WHAT COUNTS. Prove the row's statement (the work); the ties are given (YtjecmfajdofamaaGreatDoorTie.lean); close each card by the builder's one call (the guide's Derived/Test/ToyasCard.lean, 'card_holds'). Laid BY PROGRAM, IN A SANDBOX (cutbox-door.mjs). By AI agents, Wed Nov 11 2026. No macro, syntax, notation, axiom, sorry.
-/
import Derived.Test.YtjecmfajdofamaaGreatDoorRows
import GoSem.ClaimSeven
namespace Go.Proofs.YtjecmfajdofamaaGreatDoor
namespace Rows

/-- THE TIED CARD OF 'nameplanlaw09.DenialChain'. -/
def denialChainCard : Claim7 := { stood := { row := denialChainRow, standIns := [], harness := (true, "0bb00ae7f47c9cdda245e0d89a1c8cc3ab074d4cf9844867817d8d7271909470"), looks := false }, kinds := [], alts := [], laidByText := true, laidKinds := [.data], laidTests := true, laidLooks := .later }
def DenialChainCardSaid : Prop := Claim7.holds Tryz.pinned (.plain (OpenSpec.ofChange denialChainSpec)) denialChainCard

/-- THE TIED CARD OF 'nameplanlaw09.DenialTwice'. -/
def denialTwiceCard : Claim7 := { stood := { row := denialTwiceRow, standIns := [], harness := (true, "0bb00ae7f47c9cdda245e0d89a1c8cc3ab074d4cf9844867817d8d7271909470"), looks := false }, kinds := [], alts := [], laidByText := true, laidKinds := [.data], laidTests := true, laidLooks := .later }
def DenialTwiceCardSaid : Prop := Claim7.holds Tryz.pinned (.plain (OpenSpec.ofChange denialTwiceSpec)) denialTwiceCard

/-- THE TIED CARD OF 'nameplanlaw09.DenialOne'. -/
def denialOneCard : Claim7 := { stood := { row := denialOneRow, standIns := [], harness := (true, "0bb00ae7f47c9cdda245e0d89a1c8cc3ab074d4cf9844867817d8d7271909470"), looks := false }, kinds := [], alts := [], laidByText := true, laidKinds := [.data], laidTests := true, laidLooks := .later }
def DenialOneCardSaid : Prop := Claim7.holds Tryz.pinned (.plain (OpenSpec.ofChange denialOneSpec)) denialOneCard

/-- THE TIED CARD OF 'nameplanlaw09.DenialSound'. -/
def denialSoundCard : Claim7 := { stood := { row := denialSoundRow, standIns := [], harness := (true, "0bb00ae7f47c9cdda245e0d89a1c8cc3ab074d4cf9844867817d8d7271909470"), looks := false }, kinds := [], alts := [], laidByText := true, laidKinds := [.data], laidTests := true, laidLooks := .later }
def DenialSoundCardSaid : Prop := Claim7.holds Tryz.pinned (.plain (OpenSpec.ofChange denialSoundSpec)) denialSoundCard

/-- THE TIED CARD OF 'nameplanlaw09.DenialComplete'. -/
def denialCompleteCard : Claim7 := { stood := { row := denialCompleteRow, standIns := [], harness := (true, "0bb00ae7f47c9cdda245e0d89a1c8cc3ab074d4cf9844867817d8d7271909470"), looks := false }, kinds := [], alts := [], laidByText := true, laidKinds := [.data], laidTests := true, laidLooks := .later }
def DenialCompleteCardSaid : Prop := Claim7.holds Tryz.pinned (.plain (OpenSpec.ofChange denialCompleteSpec)) denialCompleteCard

/-- THE TIED CARD OF 'nameplanlaw16.WorldMatchesReference'. -/
def worldMatchesReferenceCard : Claim7 := { stood := { row := worldMatchesReferenceRow, standIns := [], harness := (true, "0bb00ae7f47c9cdda245e0d89a1c8cc3ab074d4cf9844867817d8d7271909470"), looks := false }, kinds := [], alts := [], laidByText := true, laidKinds := [.data], laidTests := true, laidLooks := .later }
def WorldMatchesReferenceCardSaid : Prop := Claim7.holds Tryz.pinned (.plain (OpenSpec.ofChange worldMatchesReferenceSpec)) worldMatchesReferenceCard

/-- THE TIED CARD OF 'nameplanlaw16.WorldAsks'. -/
def worldAsksCard : Claim7 := { stood := { row := worldAsksRow, standIns := [], harness := (true, "0bb00ae7f47c9cdda245e0d89a1c8cc3ab074d4cf9844867817d8d7271909470"), looks := false }, kinds := [], alts := [], laidByText := true, laidKinds := [.data], laidTests := true, laidLooks := .later }
def WorldAsksCardSaid : Prop := Claim7.holds Tryz.pinned (.plain (OpenSpec.ofChange worldAsksSpec)) worldAsksCard

/-- THE TIED CARD OF 'nameplanlaw16.WorldHomes'. -/
def worldHomesCard : Claim7 := { stood := { row := worldHomesRow, standIns := [], harness := (true, "0bb00ae7f47c9cdda245e0d89a1c8cc3ab074d4cf9844867817d8d7271909470"), looks := false }, kinds := [], alts := [], laidByText := true, laidKinds := [.data], laidTests := true, laidLooks := .later }
def WorldHomesCardSaid : Prop := Claim7.holds Tryz.pinned (.plain (OpenSpec.ofChange worldHomesSpec)) worldHomesCard

/-- THE TIED CARD OF 'nameplanlaw16.WorldAliases'. -/
def worldAliasesCard : Claim7 := { stood := { row := worldAliasesRow, standIns := [], harness := (true, "0bb00ae7f47c9cdda245e0d89a1c8cc3ab074d4cf9844867817d8d7271909470"), looks := false }, kinds := [], alts := [], laidByText := true, laidKinds := [.data], laidTests := true, laidLooks := .later }
def WorldAliasesCardSaid : Prop := Claim7.holds Tryz.pinned (.plain (OpenSpec.ofChange worldAliasesSpec)) worldAliasesCard

/-- THE TIED CARD OF 'nameplanlaw16.WorldReferrals'. -/
def worldReferralsCard : Claim7 := { stood := { row := worldReferralsRow, standIns := [], harness := (true, "0bb00ae7f47c9cdda245e0d89a1c8cc3ab074d4cf9844867817d8d7271909470"), looks := false }, kinds := [], alts := [], laidByText := true, laidKinds := [.data], laidTests := true, laidLooks := .later }
def WorldReferralsCardSaid : Prop := Claim7.holds Tryz.pinned (.plain (OpenSpec.ofChange worldReferralsSpec)) worldReferralsCard

/-- THE TIED CARD OF 'nameplanlaw16.WorldDamage'. -/
def worldDamageCard : Claim7 := { stood := { row := worldDamageRow, standIns := [], harness := (true, "0bb00ae7f47c9cdda245e0d89a1c8cc3ab074d4cf9844867817d8d7271909470"), looks := false }, kinds := [], alts := [], laidByText := true, laidKinds := [.data], laidTests := true, laidLooks := .later }
def WorldDamageCardSaid : Prop := Claim7.holds Tryz.pinned (.plain (OpenSpec.ofChange worldDamageSpec)) worldDamageCard

/-- THE TIED CARD OF 'nameplanlaw16.WorldOlder'. -/
def worldOlderCard : Claim7 := { stood := { row := worldOlderRow, standIns := [], harness := (true, "0bb00ae7f47c9cdda245e0d89a1c8cc3ab074d4cf9844867817d8d7271909470"), looks := false }, kinds := [], alts := [], laidByText := true, laidKinds := [.data], laidTests := true, laidLooks := .later }
def WorldOlderCardSaid : Prop := Claim7.holds Tryz.pinned (.plain (OpenSpec.ofChange worldOlderSpec)) worldOlderCard

/-- THE SECOND FORM's CARD OF 'nameplanlaw09.DenialChain'. -/
def denialChainUptoCard : Claim7 := { stood := { row := denialChainUptoRow, standIns := [], harness := (true, "0bb00ae7f47c9cdda245e0d89a1c8cc3ab074d4cf9844867817d8d7271909470"), looks := false }, kinds := [], alts := [], laidByText := true, laidKinds := [.data], laidTests := true, laidLooks := .later }
def DenialChainUptoCardSaid : Prop := Claim7.holds Tryz.pinned (.plain (OpenSpec.upto denialChainSpec)) denialChainUptoCard

/-- THE SECOND FORM's CARD OF 'nameplanlaw09.DenialTwice'. -/
def denialTwiceUptoCard : Claim7 := { stood := { row := denialTwiceUptoRow, standIns := [], harness := (true, "0bb00ae7f47c9cdda245e0d89a1c8cc3ab074d4cf9844867817d8d7271909470"), looks := false }, kinds := [], alts := [], laidByText := true, laidKinds := [.data], laidTests := true, laidLooks := .later }
def DenialTwiceUptoCardSaid : Prop := Claim7.holds Tryz.pinned (.plain (OpenSpec.upto denialTwiceSpec)) denialTwiceUptoCard

/-- THE SECOND FORM's CARD OF 'nameplanlaw09.DenialOne'. -/
def denialOneUptoCard : Claim7 := { stood := { row := denialOneUptoRow, standIns := [], harness := (true, "0bb00ae7f47c9cdda245e0d89a1c8cc3ab074d4cf9844867817d8d7271909470"), looks := false }, kinds := [], alts := [], laidByText := true, laidKinds := [.data], laidTests := true, laidLooks := .later }
def DenialOneUptoCardSaid : Prop := Claim7.holds Tryz.pinned (.plain (OpenSpec.upto denialOneSpec)) denialOneUptoCard

/-- THE SECOND FORM's CARD OF 'nameplanlaw09.DenialSound'. -/
def denialSoundUptoCard : Claim7 := { stood := { row := denialSoundUptoRow, standIns := [], harness := (true, "0bb00ae7f47c9cdda245e0d89a1c8cc3ab074d4cf9844867817d8d7271909470"), looks := false }, kinds := [], alts := [], laidByText := true, laidKinds := [.data], laidTests := true, laidLooks := .later }
def DenialSoundUptoCardSaid : Prop := Claim7.holds Tryz.pinned (.plain (OpenSpec.upto denialSoundSpec)) denialSoundUptoCard

/-- THE SECOND FORM's CARD OF 'nameplanlaw09.DenialComplete'. -/
def denialCompleteUptoCard : Claim7 := { stood := { row := denialCompleteUptoRow, standIns := [], harness := (true, "0bb00ae7f47c9cdda245e0d89a1c8cc3ab074d4cf9844867817d8d7271909470"), looks := false }, kinds := [], alts := [], laidByText := true, laidKinds := [.data], laidTests := true, laidLooks := .later }
def DenialCompleteUptoCardSaid : Prop := Claim7.holds Tryz.pinned (.plain (OpenSpec.upto denialCompleteSpec)) denialCompleteUptoCard

/-- THE SECOND FORM's CARD OF 'nameplanlaw16.WorldMatchesReference'. -/
def worldMatchesReferenceUptoCard : Claim7 := { stood := { row := worldMatchesReferenceUptoRow, standIns := [], harness := (true, "0bb00ae7f47c9cdda245e0d89a1c8cc3ab074d4cf9844867817d8d7271909470"), looks := false }, kinds := [], alts := [], laidByText := true, laidKinds := [.data], laidTests := true, laidLooks := .later }
def WorldMatchesReferenceUptoCardSaid : Prop := Claim7.holds Tryz.pinned (.plain (OpenSpec.upto worldMatchesReferenceSpec)) worldMatchesReferenceUptoCard

/-- THE SECOND FORM's CARD OF 'nameplanlaw16.WorldAsks'. -/
def worldAsksUptoCard : Claim7 := { stood := { row := worldAsksUptoRow, standIns := [], harness := (true, "0bb00ae7f47c9cdda245e0d89a1c8cc3ab074d4cf9844867817d8d7271909470"), looks := false }, kinds := [], alts := [], laidByText := true, laidKinds := [.data], laidTests := true, laidLooks := .later }
def WorldAsksUptoCardSaid : Prop := Claim7.holds Tryz.pinned (.plain (OpenSpec.upto worldAsksSpec)) worldAsksUptoCard

/-- THE SECOND FORM's CARD OF 'nameplanlaw16.WorldHomes'. -/
def worldHomesUptoCard : Claim7 := { stood := { row := worldHomesUptoRow, standIns := [], harness := (true, "0bb00ae7f47c9cdda245e0d89a1c8cc3ab074d4cf9844867817d8d7271909470"), looks := false }, kinds := [], alts := [], laidByText := true, laidKinds := [.data], laidTests := true, laidLooks := .later }
def WorldHomesUptoCardSaid : Prop := Claim7.holds Tryz.pinned (.plain (OpenSpec.upto worldHomesSpec)) worldHomesUptoCard

/-- THE SECOND FORM's CARD OF 'nameplanlaw16.WorldAliases'. -/
def worldAliasesUptoCard : Claim7 := { stood := { row := worldAliasesUptoRow, standIns := [], harness := (true, "0bb00ae7f47c9cdda245e0d89a1c8cc3ab074d4cf9844867817d8d7271909470"), looks := false }, kinds := [], alts := [], laidByText := true, laidKinds := [.data], laidTests := true, laidLooks := .later }
def WorldAliasesUptoCardSaid : Prop := Claim7.holds Tryz.pinned (.plain (OpenSpec.upto worldAliasesSpec)) worldAliasesUptoCard

/-- THE SECOND FORM's CARD OF 'nameplanlaw16.WorldReferrals'. -/
def worldReferralsUptoCard : Claim7 := { stood := { row := worldReferralsUptoRow, standIns := [], harness := (true, "0bb00ae7f47c9cdda245e0d89a1c8cc3ab074d4cf9844867817d8d7271909470"), looks := false }, kinds := [], alts := [], laidByText := true, laidKinds := [.data], laidTests := true, laidLooks := .later }
def WorldReferralsUptoCardSaid : Prop := Claim7.holds Tryz.pinned (.plain (OpenSpec.upto worldReferralsSpec)) worldReferralsUptoCard

/-- THE SECOND FORM's CARD OF 'nameplanlaw16.WorldDamage'. -/
def worldDamageUptoCard : Claim7 := { stood := { row := worldDamageUptoRow, standIns := [], harness := (true, "0bb00ae7f47c9cdda245e0d89a1c8cc3ab074d4cf9844867817d8d7271909470"), looks := false }, kinds := [], alts := [], laidByText := true, laidKinds := [.data], laidTests := true, laidLooks := .later }
def WorldDamageUptoCardSaid : Prop := Claim7.holds Tryz.pinned (.plain (OpenSpec.upto worldDamageSpec)) worldDamageUptoCard

/-- THE SECOND FORM's CARD OF 'nameplanlaw16.WorldOlder'. -/
def worldOlderUptoCard : Claim7 := { stood := { row := worldOlderUptoRow, standIns := [], harness := (true, "0bb00ae7f47c9cdda245e0d89a1c8cc3ab074d4cf9844867817d8d7271909470"), looks := false }, kinds := [], alts := [], laidByText := true, laidKinds := [.data], laidTests := true, laidLooks := .later }
def WorldOlderUptoCardSaid : Prop := Claim7.holds Tryz.pinned (.plain (OpenSpec.upto worldOlderSpec)) worldOlderUptoCard
end Rows
end Go.Proofs.YtjecmfajdofamaaGreatDoor
