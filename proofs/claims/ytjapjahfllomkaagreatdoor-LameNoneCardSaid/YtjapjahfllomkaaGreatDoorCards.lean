/-
  DERIVED. GIVEN WITH THE SEED: THE CARDS: each row of YtjapjahfllomkaaGreatDoorRows.lean that lists a variable, with what it lists TIED to the program's text (the seventh form; the later family's looks); each row that meets fmt, with fmt's text TOLD by the authors' own Lean function (tested against real Go, not proved from fmt's source: count such statements apart). THE CARD IS WHAT COUNTS. Prove the row's statement (the work); the ties are given (YtjapjahfllomkaaGreatDoorTie.lean); close each card by the builder's one call (the guide's Derived/Test/ToyasCard.lean, 'card_holds'). Laid BY PROGRAM, IN A SANDBOX (cutbox-door.mjs). By AI agents, Wed Nov 11 2026. No macro, syntax, notation, axiom, sorry.
-/
import Derived.Test.YtjapjahfllomkaaGreatDoorRows
import GoSem.ClaimSeven
namespace Go.Proofs.YtjapjahfllomkaaGreatDoor
namespace Rows

/-- THE TIED CARD OF 'nameplanlaw18.LameMatchesReference'. -/
def lameMatchesReferenceCard : Claim7 := { stood := { row := lameMatchesReferenceRow, standIns := [], harness := (true, "838ea70c84fe154dda5e26bdb067b5708e4609fb0e5de7a1ad04b072361e4912"), looks := false }, kinds := [], alts := [], laidByText := true, laidKinds := [.data], laidTests := true, laidLooks := .later }
def LameMatchesReferenceCardSaid : Prop := Claim7.holds Tryz.pinned (.plain (OpenSpec.ofChange lameMatchesReferenceSpec)) lameMatchesReferenceCard

/-- THE TIED CARD OF 'nameplanlaw18.LameOrder'. -/
def lameOrderCard : Claim7 := { stood := { row := lameOrderRow, standIns := [], harness := (true, "838ea70c84fe154dda5e26bdb067b5708e4609fb0e5de7a1ad04b072361e4912"), looks := false }, kinds := [], alts := [], laidByText := true, laidKinds := [.data], laidTests := true, laidLooks := .later }
def LameOrderCardSaid : Prop := Claim7.holds Tryz.pinned (.plain (OpenSpec.ofChange lameOrderSpec)) lameOrderCard

/-- THE TIED CARD OF 'nameplanlaw18.LameMended'. -/
def lameMendedCard : Claim7 := { stood := { row := lameMendedRow, standIns := [], harness := (true, "838ea70c84fe154dda5e26bdb067b5708e4609fb0e5de7a1ad04b072361e4912"), looks := false }, kinds := [], alts := [], laidByText := true, laidKinds := [.data], laidTests := true, laidLooks := .later }
def LameMendedCardSaid : Prop := Claim7.holds Tryz.pinned (.plain (OpenSpec.ofChange lameMendedSpec)) lameMendedCard

/-- THE TIED CARD OF 'nameplanlaw17.LoopsReaching'. -/
def loopsReachingCard : Claim7 := { stood := { row := loopsReachingRow, standIns := [], harness := (true, "838ea70c84fe154dda5e26bdb067b5708e4609fb0e5de7a1ad04b072361e4912"), looks := false }, kinds := [], alts := [], laidByText := true, laidKinds := [.data], laidTests := true, laidLooks := .later }
def LoopsReachingCardSaid : Prop := Claim7.holds Tryz.pinned (.plain (OpenSpec.ofChange loopsReachingSpec)) loopsReachingCard

/-- THE TIED CARD OF 'nameplanlaw18.LameServers'. -/
def lameServersCard : Claim7 := { stood := { row := lameServersRow, standIns := [], harness := (true, "838ea70c84fe154dda5e26bdb067b5708e4609fb0e5de7a1ad04b072361e4912"), looks := false }, kinds := [], alts := [], laidByText := true, laidKinds := [.data], laidTests := true, laidLooks := .later }
def LameServersCardSaid : Prop := Claim7.holds Tryz.pinned (.plain (OpenSpec.ofChange lameServersSpec)) lameServersCard

/-- THE TIED CARD OF 'nameplanlaw18.LameShown'. -/
def lameShownCard : Claim7 := { stood := { row := lameShownRow, standIns := [], harness := (true, "838ea70c84fe154dda5e26bdb067b5708e4609fb0e5de7a1ad04b072361e4912"), looks := false }, kinds := [], alts := [], laidByText := true, laidKinds := [.data], laidTests := true, laidLooks := .later }
def LameShownCardSaid : Prop := Claim7.holds Tryz.pinned (.plain (OpenSpec.ofChange lameShownSpec)) lameShownCard

/-- THE TIED CARD OF 'nameplanlaw18.LameNone'. -/
def lameNoneCard : Claim7 := { stood := { row := lameNoneRow, standIns := [], harness := (true, "838ea70c84fe154dda5e26bdb067b5708e4609fb0e5de7a1ad04b072361e4912"), looks := false }, kinds := [], alts := [], laidByText := true, laidKinds := [.data], laidTests := true, laidLooks := .later }
def LameNoneCardSaid : Prop := Claim7.holds Tryz.pinned (.plain (OpenSpec.ofChange lameNoneSpec)) lameNoneCard

/-- THE TIED CARD OF 'nameplanlaw17.LoopsNeeds'. -/
def loopsNeedsCard : Claim7 := { stood := { row := loopsNeedsRow, standIns := [], harness := (true, "838ea70c84fe154dda5e26bdb067b5708e4609fb0e5de7a1ad04b072361e4912"), looks := false }, kinds := [], alts := [], laidByText := true, laidKinds := [.data], laidTests := true, laidLooks := .later }
def LoopsNeedsCardSaid : Prop := Claim7.holds Tryz.pinned (.plain (OpenSpec.ofChange loopsNeedsSpec)) loopsNeedsCard

/-- THE SECOND FORM's CARD OF 'nameplanlaw18.LameMatchesReference'. -/
def lameMatchesReferenceUptoCard : Claim7 := { stood := { row := lameMatchesReferenceUptoRow, standIns := [], harness := (true, "838ea70c84fe154dda5e26bdb067b5708e4609fb0e5de7a1ad04b072361e4912"), looks := false }, kinds := [], alts := [], laidByText := true, laidKinds := [.data], laidTests := true, laidLooks := .later }
def LameMatchesReferenceUptoCardSaid : Prop := Claim7.holds Tryz.pinned (.plain (OpenSpec.upto lameMatchesReferenceSpec)) lameMatchesReferenceUptoCard

/-- THE SECOND FORM's CARD OF 'nameplanlaw18.LameOrder'. -/
def lameOrderUptoCard : Claim7 := { stood := { row := lameOrderUptoRow, standIns := [], harness := (true, "838ea70c84fe154dda5e26bdb067b5708e4609fb0e5de7a1ad04b072361e4912"), looks := false }, kinds := [], alts := [], laidByText := true, laidKinds := [.data], laidTests := true, laidLooks := .later }
def LameOrderUptoCardSaid : Prop := Claim7.holds Tryz.pinned (.plain (OpenSpec.upto lameOrderSpec)) lameOrderUptoCard

/-- THE SECOND FORM's CARD OF 'nameplanlaw18.LameMended'. -/
def lameMendedUptoCard : Claim7 := { stood := { row := lameMendedUptoRow, standIns := [], harness := (true, "838ea70c84fe154dda5e26bdb067b5708e4609fb0e5de7a1ad04b072361e4912"), looks := false }, kinds := [], alts := [], laidByText := true, laidKinds := [.data], laidTests := true, laidLooks := .later }
def LameMendedUptoCardSaid : Prop := Claim7.holds Tryz.pinned (.plain (OpenSpec.upto lameMendedSpec)) lameMendedUptoCard

/-- THE SECOND FORM's CARD OF 'nameplanlaw17.LoopsReaching'. -/
def loopsReachingUptoCard : Claim7 := { stood := { row := loopsReachingUptoRow, standIns := [], harness := (true, "838ea70c84fe154dda5e26bdb067b5708e4609fb0e5de7a1ad04b072361e4912"), looks := false }, kinds := [], alts := [], laidByText := true, laidKinds := [.data], laidTests := true, laidLooks := .later }
def LoopsReachingUptoCardSaid : Prop := Claim7.holds Tryz.pinned (.plain (OpenSpec.upto loopsReachingSpec)) loopsReachingUptoCard

/-- THE SECOND FORM's CARD OF 'nameplanlaw18.LameServers'. -/
def lameServersUptoCard : Claim7 := { stood := { row := lameServersUptoRow, standIns := [], harness := (true, "838ea70c84fe154dda5e26bdb067b5708e4609fb0e5de7a1ad04b072361e4912"), looks := false }, kinds := [], alts := [], laidByText := true, laidKinds := [.data], laidTests := true, laidLooks := .later }
def LameServersUptoCardSaid : Prop := Claim7.holds Tryz.pinned (.plain (OpenSpec.upto lameServersSpec)) lameServersUptoCard

/-- THE SECOND FORM's CARD OF 'nameplanlaw18.LameShown'. -/
def lameShownUptoCard : Claim7 := { stood := { row := lameShownUptoRow, standIns := [], harness := (true, "838ea70c84fe154dda5e26bdb067b5708e4609fb0e5de7a1ad04b072361e4912"), looks := false }, kinds := [], alts := [], laidByText := true, laidKinds := [.data], laidTests := true, laidLooks := .later }
def LameShownUptoCardSaid : Prop := Claim7.holds Tryz.pinned (.plain (OpenSpec.upto lameShownSpec)) lameShownUptoCard

/-- THE SECOND FORM's CARD OF 'nameplanlaw18.LameNone'. -/
def lameNoneUptoCard : Claim7 := { stood := { row := lameNoneUptoRow, standIns := [], harness := (true, "838ea70c84fe154dda5e26bdb067b5708e4609fb0e5de7a1ad04b072361e4912"), looks := false }, kinds := [], alts := [], laidByText := true, laidKinds := [.data], laidTests := true, laidLooks := .later }
def LameNoneUptoCardSaid : Prop := Claim7.holds Tryz.pinned (.plain (OpenSpec.upto lameNoneSpec)) lameNoneUptoCard

/-- THE SECOND FORM's CARD OF 'nameplanlaw17.LoopsNeeds'. -/
def loopsNeedsUptoCard : Claim7 := { stood := { row := loopsNeedsUptoRow, standIns := [], harness := (true, "838ea70c84fe154dda5e26bdb067b5708e4609fb0e5de7a1ad04b072361e4912"), looks := false }, kinds := [], alts := [], laidByText := true, laidKinds := [.data], laidTests := true, laidLooks := .later }
def LoopsNeedsUptoCardSaid : Prop := Claim7.holds Tryz.pinned (.plain (OpenSpec.upto loopsNeedsSpec)) loopsNeedsUptoCard
end Rows
end Go.Proofs.YtjapjahfllomkaaGreatDoor
