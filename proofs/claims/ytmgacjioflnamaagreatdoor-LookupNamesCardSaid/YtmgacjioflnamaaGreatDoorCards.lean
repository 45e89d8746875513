/-
  DERIVED. GIVEN WITH THE SEED: THE CARDS: each row of YtmgacjioflnamaaGreatDoorRows.lean that lists a variable, with what it lists TIED to the program's text (the seventh form; the later family's looks); each row that meets fmt, with fmt's text TOLD by the authors' own Lean function (tested against real Go, not proved from fmt's source: count such statements apart). THE CARD IS WHAT COUNTS. Prove the row's statement (the work); the ties are given (YtmgacjioflnamaaGreatDoorTie.lean); close each card by the builder's one call (the guide's Derived/Test/ToyasCard.lean, 'card_holds'). Laid BY PROGRAM, IN A SANDBOX (cutbox-door.mjs). By AI agents, Wed Nov 11 2026. No macro, syntax, notation, axiom, sorry.
-/
import Derived.Test.YtmgacjioflnamaaGreatDoorRows
import GoSem.ClaimSeven
namespace Go.Proofs.YtmgacjioflnamaaGreatDoor
namespace Rows

/-- THE TIED CARD OF 'nameplanlaw07.LookupMatchesReference'. -/
def lookupMatchesReferenceCard : Claim7 := { stood := { row := lookupMatchesReferenceRow, standIns := [], harness := (true, "aec3493883168512a6a16ca813639e68fdbf1a82ab67b110ab68fd994757e29d"), looks := false }, kinds := [], alts := [], laidByText := true, laidKinds := [.data], laidTests := true, laidLooks := .later }
def LookupMatchesReferenceCardSaid : Prop := Claim7.holds Tryz.pinned (.plain (OpenSpec.ofChange lookupMatchesReferenceSpec)) lookupMatchesReferenceCard

/-- THE TIED CARD OF 'nameplanlaw07.LookupData'. -/
def lookupDataCard : Claim7 := { stood := { row := lookupDataRow, standIns := [], harness := (true, "aec3493883168512a6a16ca813639e68fdbf1a82ab67b110ab68fd994757e29d"), looks := false }, kinds := [], alts := [], laidByText := true, laidKinds := [.data], laidTests := true, laidLooks := .later }
def LookupDataCardSaid : Prop := Claim7.holds Tryz.pinned (.plain (OpenSpec.ofChange lookupDataSpec)) lookupDataCard

/-- THE TIED CARD OF 'nameplanlaw07.LookupReferrals'. -/
def lookupReferralsCard : Claim7 := { stood := { row := lookupReferralsRow, standIns := [], harness := (true, "aec3493883168512a6a16ca813639e68fdbf1a82ab67b110ab68fd994757e29d"), looks := false }, kinds := [], alts := [], laidByText := true, laidKinds := [.data], laidTests := true, laidLooks := .later }
def LookupReferralsCardSaid : Prop := Claim7.holds Tryz.pinned (.plain (OpenSpec.ofChange lookupReferralsSpec)) lookupReferralsCard

/-- THE TIED CARD OF 'nameplanlaw07.LookupWildcards'. -/
def lookupWildcardsCard : Claim7 := { stood := { row := lookupWildcardsRow, standIns := [], harness := (true, "aec3493883168512a6a16ca813639e68fdbf1a82ab67b110ab68fd994757e29d"), looks := false }, kinds := [], alts := [], laidByText := true, laidKinds := [.data], laidTests := true, laidLooks := .later }
def LookupWildcardsCardSaid : Prop := Claim7.holds Tryz.pinned (.plain (OpenSpec.ofChange lookupWildcardsSpec)) lookupWildcardsCard

/-- THE TIED CARD OF 'nameplanlaw07.LookupNames'. -/
def lookupNamesCard : Claim7 := { stood := { row := lookupNamesRow, standIns := [], harness := (true, "aec3493883168512a6a16ca813639e68fdbf1a82ab67b110ab68fd994757e29d"), looks := false }, kinds := [], alts := [], laidByText := true, laidKinds := [.data], laidTests := true, laidLooks := .later }
def LookupNamesCardSaid : Prop := Claim7.holds Tryz.pinned (.plain (OpenSpec.ofChange lookupNamesSpec)) lookupNamesCard

/-- THE TIED CARD OF 'nameplanlaw09.DenialChain'. -/
def denialChainCard : Claim7 := { stood := { row := denialChainRow, standIns := [], harness := (true, "aec3493883168512a6a16ca813639e68fdbf1a82ab67b110ab68fd994757e29d"), looks := false }, kinds := [], alts := [], laidByText := true, laidKinds := [.data], laidTests := true, laidLooks := .later }
def DenialChainCardSaid : Prop := Claim7.holds Tryz.pinned (.plain (OpenSpec.ofChange denialChainSpec)) denialChainCard

/-- THE TIED CARD OF 'nameplanlaw09.DenialTwice'. -/
def denialTwiceCard : Claim7 := { stood := { row := denialTwiceRow, standIns := [], harness := (true, "aec3493883168512a6a16ca813639e68fdbf1a82ab67b110ab68fd994757e29d"), looks := false }, kinds := [], alts := [], laidByText := true, laidKinds := [.data], laidTests := true, laidLooks := .later }
def DenialTwiceCardSaid : Prop := Claim7.holds Tryz.pinned (.plain (OpenSpec.ofChange denialTwiceSpec)) denialTwiceCard

/-- THE TIED CARD OF 'nameplanlaw09.DenialOne'. -/
def denialOneCard : Claim7 := { stood := { row := denialOneRow, standIns := [], harness := (true, "aec3493883168512a6a16ca813639e68fdbf1a82ab67b110ab68fd994757e29d"), looks := false }, kinds := [], alts := [], laidByText := true, laidKinds := [.data], laidTests := true, laidLooks := .later }
def DenialOneCardSaid : Prop := Claim7.holds Tryz.pinned (.plain (OpenSpec.ofChange denialOneSpec)) denialOneCard

/-- THE TIED CARD OF 'nameplanlaw07.LookupOthers'. -/
def lookupOthersCard : Claim7 := { stood := { row := lookupOthersRow, standIns := [], harness := (true, "aec3493883168512a6a16ca813639e68fdbf1a82ab67b110ab68fd994757e29d"), looks := false }, kinds := [], alts := [], laidByText := true, laidKinds := [.data], laidTests := true, laidLooks := .later }
def LookupOthersCardSaid : Prop := Claim7.holds Tryz.pinned (.plain (OpenSpec.ofChange lookupOthersSpec)) lookupOthersCard

/-- THE TIED CARD OF 'nameplanlaw09.DenialSound'. -/
def denialSoundCard : Claim7 := { stood := { row := denialSoundRow, standIns := [], harness := (true, "aec3493883168512a6a16ca813639e68fdbf1a82ab67b110ab68fd994757e29d"), looks := false }, kinds := [], alts := [], laidByText := true, laidKinds := [.data], laidTests := true, laidLooks := .later }
def DenialSoundCardSaid : Prop := Claim7.holds Tryz.pinned (.plain (OpenSpec.ofChange denialSoundSpec)) denialSoundCard

/-- THE TIED CARD OF 'nameplanlaw09.DenialComplete'. -/
def denialCompleteCard : Claim7 := { stood := { row := denialCompleteRow, standIns := [], harness := (true, "aec3493883168512a6a16ca813639e68fdbf1a82ab67b110ab68fd994757e29d"), looks := false }, kinds := [], alts := [], laidByText := true, laidKinds := [.data], laidTests := true, laidLooks := .later }
def DenialCompleteCardSaid : Prop := Claim7.holds Tryz.pinned (.plain (OpenSpec.ofChange denialCompleteSpec)) denialCompleteCard

/-- THE SECOND FORM's CARD OF 'nameplanlaw07.LookupMatchesReference'. -/
def lookupMatchesReferenceUptoCard : Claim7 := { stood := { row := lookupMatchesReferenceUptoRow, standIns := [], harness := (true, "aec3493883168512a6a16ca813639e68fdbf1a82ab67b110ab68fd994757e29d"), looks := false }, kinds := [], alts := [], laidByText := true, laidKinds := [.data], laidTests := true, laidLooks := .later }
def LookupMatchesReferenceUptoCardSaid : Prop := Claim7.holds Tryz.pinned (.plain (OpenSpec.upto lookupMatchesReferenceSpec)) lookupMatchesReferenceUptoCard

/-- THE SECOND FORM's CARD OF 'nameplanlaw07.LookupData'. -/
def lookupDataUptoCard : Claim7 := { stood := { row := lookupDataUptoRow, standIns := [], harness := (true, "aec3493883168512a6a16ca813639e68fdbf1a82ab67b110ab68fd994757e29d"), looks := false }, kinds := [], alts := [], laidByText := true, laidKinds := [.data], laidTests := true, laidLooks := .later }
def LookupDataUptoCardSaid : Prop := Claim7.holds Tryz.pinned (.plain (OpenSpec.upto lookupDataSpec)) lookupDataUptoCard

/-- THE SECOND FORM's CARD OF 'nameplanlaw07.LookupReferrals'. -/
def lookupReferralsUptoCard : Claim7 := { stood := { row := lookupReferralsUptoRow, standIns := [], harness := (true, "aec3493883168512a6a16ca813639e68fdbf1a82ab67b110ab68fd994757e29d"), looks := false }, kinds := [], alts := [], laidByText := true, laidKinds := [.data], laidTests := true, laidLooks := .later }
def LookupReferralsUptoCardSaid : Prop := Claim7.holds Tryz.pinned (.plain (OpenSpec.upto lookupReferralsSpec)) lookupReferralsUptoCard

/-- THE SECOND FORM's CARD OF 'nameplanlaw07.LookupWildcards'. -/
def lookupWildcardsUptoCard : Claim7 := { stood := { row := lookupWildcardsUptoRow, standIns := [], harness := (true, "aec3493883168512a6a16ca813639e68fdbf1a82ab67b110ab68fd994757e29d"), looks := false }, kinds := [], alts := [], laidByText := true, laidKinds := [.data], laidTests := true, laidLooks := .later }
def LookupWildcardsUptoCardSaid : Prop := Claim7.holds Tryz.pinned (.plain (OpenSpec.upto lookupWildcardsSpec)) lookupWildcardsUptoCard

/-- THE SECOND FORM's CARD OF 'nameplanlaw07.LookupNames'. -/
def lookupNamesUptoCard : Claim7 := { stood := { row := lookupNamesUptoRow, standIns := [], harness := (true, "aec3493883168512a6a16ca813639e68fdbf1a82ab67b110ab68fd994757e29d"), looks := false }, kinds := [], alts := [], laidByText := true, laidKinds := [.data], laidTests := true, laidLooks := .later }
def LookupNamesUptoCardSaid : Prop := Claim7.holds Tryz.pinned (.plain (OpenSpec.upto lookupNamesSpec)) lookupNamesUptoCard

/-- THE SECOND FORM's CARD OF 'nameplanlaw09.DenialChain'. -/
def denialChainUptoCard : Claim7 := { stood := { row := denialChainUptoRow, standIns := [], harness := (true, "aec3493883168512a6a16ca813639e68fdbf1a82ab67b110ab68fd994757e29d"), looks := false }, kinds := [], alts := [], laidByText := true, laidKinds := [.data], laidTests := true, laidLooks := .later }
def DenialChainUptoCardSaid : Prop := Claim7.holds Tryz.pinned (.plain (OpenSpec.upto denialChainSpec)) denialChainUptoCard

/-- THE SECOND FORM's CARD OF 'nameplanlaw09.DenialTwice'. -/
def denialTwiceUptoCard : Claim7 := { stood := { row := denialTwiceUptoRow, standIns := [], harness := (true, "aec3493883168512a6a16ca813639e68fdbf1a82ab67b110ab68fd994757e29d"), looks := false }, kinds := [], alts := [], laidByText := true, laidKinds := [.data], laidTests := true, laidLooks := .later }
def DenialTwiceUptoCardSaid : Prop := Claim7.holds Tryz.pinned (.plain (OpenSpec.upto denialTwiceSpec)) denialTwiceUptoCard

/-- THE SECOND FORM's CARD OF 'nameplanlaw09.DenialOne'. -/
def denialOneUptoCard : Claim7 := { stood := { row := denialOneUptoRow, standIns := [], harness := (true, "aec3493883168512a6a16ca813639e68fdbf1a82ab67b110ab68fd994757e29d"), looks := false }, kinds := [], alts := [], laidByText := true, laidKinds := [.data], laidTests := true, laidLooks := .later }
def DenialOneUptoCardSaid : Prop := Claim7.holds Tryz.pinned (.plain (OpenSpec.upto denialOneSpec)) denialOneUptoCard

/-- THE SECOND FORM's CARD OF 'nameplanlaw07.LookupOthers'. -/
def lookupOthersUptoCard : Claim7 := { stood := { row := lookupOthersUptoRow, standIns := [], harness := (true, "aec3493883168512a6a16ca813639e68fdbf1a82ab67b110ab68fd994757e29d"), looks := false }, kinds := [], alts := [], laidByText := true, laidKinds := [.data], laidTests := true, laidLooks := .later }
def LookupOthersUptoCardSaid : Prop := Claim7.holds Tryz.pinned (.plain (OpenSpec.upto lookupOthersSpec)) lookupOthersUptoCard

/-- THE SECOND FORM's CARD OF 'nameplanlaw09.DenialSound'. -/
def denialSoundUptoCard : Claim7 := { stood := { row := denialSoundUptoRow, standIns := [], harness := (true, "aec3493883168512a6a16ca813639e68fdbf1a82ab67b110ab68fd994757e29d"), looks := false }, kinds := [], alts := [], laidByText := true, laidKinds := [.data], laidTests := true, laidLooks := .later }
def DenialSoundUptoCardSaid : Prop := Claim7.holds Tryz.pinned (.plain (OpenSpec.upto denialSoundSpec)) denialSoundUptoCard

/-- THE SECOND FORM's CARD OF 'nameplanlaw09.DenialComplete'. -/
def denialCompleteUptoCard : Claim7 := { stood := { row := denialCompleteUptoRow, standIns := [], harness := (true, "aec3493883168512a6a16ca813639e68fdbf1a82ab67b110ab68fd994757e29d"), looks := false }, kinds := [], alts := [], laidByText := true, laidKinds := [.data], laidTests := true, laidLooks := .later }
def DenialCompleteUptoCardSaid : Prop := Claim7.holds Tryz.pinned (.plain (OpenSpec.upto denialCompleteSpec)) denialCompleteUptoCard
end Rows
end Go.Proofs.YtmgacjioflnamaaGreatDoor
