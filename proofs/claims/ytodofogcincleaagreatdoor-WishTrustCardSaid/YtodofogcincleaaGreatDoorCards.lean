/-
  DERIVED. GIVEN WITH THE SEED: THE CARDS: each row of YtodofogcincleaaGreatDoorRows.lean that lists a variable, with what it lists TIED to the program's text (the seventh form; the later family's looks); each row that meets fmt, with fmt's text TOLD by the authors' own Lean function (tested against real Go, not proved from fmt's source: count such statements apart). THE CARD IS WHAT COUNTS. Prove the row's statement (the work); the ties are given (YtodofogcincleaaGreatDoorTie.lean); close each card by the builder's one call (the guide's Derived/Test/ToyasCard.lean, 'card_holds'). Laid BY PROGRAM, IN A SANDBOX (cutbox-door.mjs). By AI agents, Wed Nov 11 2026. No macro, syntax, notation, axiom, sorry.
-/
import Derived.Test.YtodofogcincleaaGreatDoorRows
import GoSem.ClaimSeven
namespace Go.Proofs.YtodofogcincleaaGreatDoor
namespace Rows

/-- THE TIED CARD OF 'nameplanlaw34.WishSealed'. -/
def wishSealedCard : Claim7 := { stood := { row := wishSealedRow, standIns := [], harness := (true, "134b6d0317d1faca416e23e7738e489a6c1a8ae2e71a59bdfa93772f5586cb9d"), looks := true }, kinds := [], alts := [], laidByText := true, laidKinds := [.data], laidTests := true, laidLooks := .later }
def WishSealedCardSaid : Prop := Claim7.holds Tryz.pinned (.plain (OpenSpec.ofChange wishSealedSpec)) wishSealedCard

/-- THE TIED CARD OF 'nameplanlaw34.WishOthers'. -/
def wishOthersCard : Claim7 := { stood := { row := wishOthersRow, standIns := [], harness := (true, "134b6d0317d1faca416e23e7738e489a6c1a8ae2e71a59bdfa93772f5586cb9d"), looks := true }, kinds := [], alts := [], laidByText := true, laidKinds := [.data], laidTests := true, laidLooks := .later }
def WishOthersCardSaid : Prop := Claim7.holds Tryz.pinned (.plain (OpenSpec.ofChange wishOthersSpec)) wishOthersCard

/-- THE TIED CARD OF 'nameplanlaw34.WishTrust'. -/
def wishTrustCard : Claim7 := { stood := { row := wishTrustRow, standIns := [], harness := (true, "134b6d0317d1faca416e23e7738e489a6c1a8ae2e71a59bdfa93772f5586cb9d"), looks := true }, kinds := [], alts := [], laidByText := true, laidKinds := [.data], laidTests := true, laidLooks := .later }
def WishTrustCardSaid : Prop := Claim7.holds Tryz.pinned (.plain (OpenSpec.ofChange wishTrustSpec)) wishTrustCard

/-- THE TIED CARD OF 'nameplanlaw34.WishTruth'. -/
def wishTruthCard : Claim7 := { stood := { row := wishTruthRow, standIns := [], harness := (true, "134b6d0317d1faca416e23e7738e489a6c1a8ae2e71a59bdfa93772f5586cb9d"), looks := true }, kinds := [], alts := [], laidByText := true, laidKinds := [.data], laidTests := true, laidLooks := .later }
def WishTruthCardSaid : Prop := Claim7.holds Tryz.pinned (.plain (OpenSpec.ofChange wishTruthSpec)) wishTruthCard

/-- THE SECOND FORM's CARD OF 'nameplanlaw34.WishSealed'. -/
def wishSealedUptoCard : Claim7 := { stood := { row := wishSealedUptoRow, standIns := [], harness := (true, "134b6d0317d1faca416e23e7738e489a6c1a8ae2e71a59bdfa93772f5586cb9d"), looks := true }, kinds := [], alts := [], laidByText := true, laidKinds := [.data], laidTests := true, laidLooks := .later }
def WishSealedUptoCardSaid : Prop := Claim7.holds Tryz.pinned (.plain (OpenSpec.upto wishSealedSpec)) wishSealedUptoCard

/-- THE SECOND FORM's CARD OF 'nameplanlaw34.WishOthers'. -/
def wishOthersUptoCard : Claim7 := { stood := { row := wishOthersUptoRow, standIns := [], harness := (true, "134b6d0317d1faca416e23e7738e489a6c1a8ae2e71a59bdfa93772f5586cb9d"), looks := true }, kinds := [], alts := [], laidByText := true, laidKinds := [.data], laidTests := true, laidLooks := .later }
def WishOthersUptoCardSaid : Prop := Claim7.holds Tryz.pinned (.plain (OpenSpec.upto wishOthersSpec)) wishOthersUptoCard

/-- THE SECOND FORM's CARD OF 'nameplanlaw34.WishTrust'. -/
def wishTrustUptoCard : Claim7 := { stood := { row := wishTrustUptoRow, standIns := [], harness := (true, "134b6d0317d1faca416e23e7738e489a6c1a8ae2e71a59bdfa93772f5586cb9d"), looks := true }, kinds := [], alts := [], laidByText := true, laidKinds := [.data], laidTests := true, laidLooks := .later }
def WishTrustUptoCardSaid : Prop := Claim7.holds Tryz.pinned (.plain (OpenSpec.upto wishTrustSpec)) wishTrustUptoCard

/-- THE SECOND FORM's CARD OF 'nameplanlaw34.WishTruth'. -/
def wishTruthUptoCard : Claim7 := { stood := { row := wishTruthUptoRow, standIns := [], harness := (true, "134b6d0317d1faca416e23e7738e489a6c1a8ae2e71a59bdfa93772f5586cb9d"), looks := true }, kinds := [], alts := [], laidByText := true, laidKinds := [.data], laidTests := true, laidLooks := .later }
def WishTruthUptoCardSaid : Prop := Claim7.holds Tryz.pinned (.plain (OpenSpec.upto wishTruthSpec)) wishTruthUptoCard
end Rows
end Go.Proofs.YtodofogcincleaaGreatDoor
