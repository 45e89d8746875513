/-
  DERIVED. GIVEN WITH THE SEED: THE CARDS: each row of YtcecidfnchcagaaGreatDoorRows.lean that lists a variable, with what it lists TIED to the program's text (the seventh form; the later family's looks); each row that meets fmt, with fmt's text TOLD by the authors' own Lean function (tested against real Go, not proved from fmt's source: count such statements apart). THE CARD IS WHAT COUNTS. Prove the row's statement (the work); the ties are given (YtcecidfnchcagaaGreatDoorTie.lean); close each card by the builder's one call (the guide's Derived/Test/ToyasCard.lean, 'card_holds'). Laid BY PROGRAM, IN A SANDBOX (cutbox-door.mjs). By AI agents, Wed Nov 11 2026. No macro, syntax, notation, axiom, sorry.
-/
import Derived.Test.YtcecidfnchcagaaGreatDoorRows
import GoSem.ClaimSeven
namespace Go.Proofs.YtcecidfnchcagaaGreatDoor
namespace Rows

/-- THE TIED CARD OF 'nameplanlaw18.LameMatchesReference'. -/
def lameMatchesReferenceCard : Claim7 := { stood := { row := lameMatchesReferenceRow, standIns := [], harness := (true, "b00e6d4bbe2a53928a6247debdab295eff0530b030090f467dc99833be4c2e6e"), looks := false }, kinds := [], alts := [], laidByText := true, laidKinds := [.data], laidTests := true, laidLooks := .later }
def LameMatchesReferenceCardSaid : Prop := Claim7.holds Tryz.pinned (.plain (OpenSpec.ofChange lameMatchesReferenceSpec)) lameMatchesReferenceCard

/-- THE TIED CARD OF 'nameplanlaw18.LameOrder'. -/
def lameOrderCard : Claim7 := { stood := { row := lameOrderRow, standIns := [], harness := (true, "b00e6d4bbe2a53928a6247debdab295eff0530b030090f467dc99833be4c2e6e"), looks := false }, kinds := [], alts := [], laidByText := true, laidKinds := [.data], laidTests := true, laidLooks := .later }
def LameOrderCardSaid : Prop := Claim7.holds Tryz.pinned (.plain (OpenSpec.ofChange lameOrderSpec)) lameOrderCard

/-- THE TIED CARD OF 'nameplanlaw18.LameMended'. -/
def lameMendedCard : Claim7 := { stood := { row := lameMendedRow, standIns := [], harness := (true, "b00e6d4bbe2a53928a6247debdab295eff0530b030090f467dc99833be4c2e6e"), looks := false }, kinds := [], alts := [], laidByText := true, laidKinds := [.data], laidTests := true, laidLooks := .later }
def LameMendedCardSaid : Prop := Claim7.holds Tryz.pinned (.plain (OpenSpec.ofChange lameMendedSpec)) lameMendedCard

/-- THE TIED CARD OF 'nameplanlaw17.LoopsReaching'. -/
def loopsReachingCard : Claim7 := { stood := { row := loopsReachingRow, standIns := [], harness := (true, "b00e6d4bbe2a53928a6247debdab295eff0530b030090f467dc99833be4c2e6e"), looks := false }, kinds := [], alts := [], laidByText := true, laidKinds := [.data], laidTests := true, laidLooks := .later }
def LoopsReachingCardSaid : Prop := Claim7.holds Tryz.pinned (.plain (OpenSpec.ofChange loopsReachingSpec)) loopsReachingCard

/-- THE TIED CARD OF 'nameplanlaw17.LoopsLeast'. -/
def loopsLeastCard : Claim7 := { stood := { row := loopsLeastRow, standIns := [], harness := (true, "b00e6d4bbe2a53928a6247debdab295eff0530b030090f467dc99833be4c2e6e"), looks := false }, kinds := [], alts := [], laidByText := true, laidKinds := [.data], laidTests := true, laidLooks := .later }
def LoopsLeastCardSaid : Prop := Claim7.holds Tryz.pinned (.plain (OpenSpec.ofChange loopsLeastSpec)) loopsLeastCard

/-- THE TIED CARD OF 'nameplanlaw17.LoopsOrder'. -/
def loopsOrderCard : Claim7 := { stood := { row := loopsOrderRow, standIns := [], harness := (true, "b00e6d4bbe2a53928a6247debdab295eff0530b030090f467dc99833be4c2e6e"), looks := false }, kinds := [], alts := [], laidByText := true, laidKinds := [.data], laidTests := true, laidLooks := .later }
def LoopsOrderCardSaid : Prop := Claim7.holds Tryz.pinned (.plain (OpenSpec.ofChange loopsOrderSpec)) loopsOrderCard

/-- THE TIED CARD OF 'nameplanlaw18.LameServers'. -/
def lameServersCard : Claim7 := { stood := { row := lameServersRow, standIns := [], harness := (true, "b00e6d4bbe2a53928a6247debdab295eff0530b030090f467dc99833be4c2e6e"), looks := false }, kinds := [], alts := [], laidByText := true, laidKinds := [.data], laidTests := true, laidLooks := .later }
def LameServersCardSaid : Prop := Claim7.holds Tryz.pinned (.plain (OpenSpec.ofChange lameServersSpec)) lameServersCard

/-- THE TIED CARD OF 'nameplanlaw18.LameShown'. -/
def lameShownCard : Claim7 := { stood := { row := lameShownRow, standIns := [], harness := (true, "b00e6d4bbe2a53928a6247debdab295eff0530b030090f467dc99833be4c2e6e"), looks := false }, kinds := [], alts := [], laidByText := true, laidKinds := [.data], laidTests := true, laidLooks := .later }
def LameShownCardSaid : Prop := Claim7.holds Tryz.pinned (.plain (OpenSpec.ofChange lameShownSpec)) lameShownCard

/-- THE TIED CARD OF 'nameplanlaw18.LameNone'. -/
def lameNoneCard : Claim7 := { stood := { row := lameNoneRow, standIns := [], harness := (true, "b00e6d4bbe2a53928a6247debdab295eff0530b030090f467dc99833be4c2e6e"), looks := false }, kinds := [], alts := [], laidByText := true, laidKinds := [.data], laidTests := true, laidLooks := .later }
def LameNoneCardSaid : Prop := Claim7.holds Tryz.pinned (.plain (OpenSpec.ofChange lameNoneSpec)) lameNoneCard

/-- THE TIED CARD OF 'nameplanlaw17.LoopsNeeds'. -/
def loopsNeedsCard : Claim7 := { stood := { row := loopsNeedsRow, standIns := [], harness := (true, "b00e6d4bbe2a53928a6247debdab295eff0530b030090f467dc99833be4c2e6e"), looks := false }, kinds := [], alts := [], laidByText := true, laidKinds := [.data], laidTests := true, laidLooks := .later }
def LoopsNeedsCardSaid : Prop := Claim7.holds Tryz.pinned (.plain (OpenSpec.ofChange loopsNeedsSpec)) loopsNeedsCard

/-- THE TIED CARD OF 'nameplanlaw17.LoopsAliases'. -/
def loopsAliasesCard : Claim7 := { stood := { row := loopsAliasesRow, standIns := [], harness := (true, "b00e6d4bbe2a53928a6247debdab295eff0530b030090f467dc99833be4c2e6e"), looks := false }, kinds := [], alts := [], laidByText := true, laidKinds := [.data], laidTests := true, laidLooks := .later }
def LoopsAliasesCardSaid : Prop := Claim7.holds Tryz.pinned (.plain (OpenSpec.ofChange loopsAliasesSpec)) loopsAliasesCard

/-- THE TIED CARD OF 'nameplanlaw17.LoopsTruth'. -/
def loopsTruthCard : Claim7 := { stood := { row := loopsTruthRow, standIns := [], harness := (true, "b00e6d4bbe2a53928a6247debdab295eff0530b030090f467dc99833be4c2e6e"), looks := false }, kinds := [], alts := [], laidByText := true, laidKinds := [.data], laidTests := true, laidLooks := .later }
def LoopsTruthCardSaid : Prop := Claim7.holds Tryz.pinned (.plain (OpenSpec.ofChange loopsTruthSpec)) loopsTruthCard

/-- THE SECOND FORM's CARD OF 'nameplanlaw18.LameMatchesReference'. -/
def lameMatchesReferenceUptoCard : Claim7 := { stood := { row := lameMatchesReferenceUptoRow, standIns := [], harness := (true, "b00e6d4bbe2a53928a6247debdab295eff0530b030090f467dc99833be4c2e6e"), looks := false }, kinds := [], alts := [], laidByText := true, laidKinds := [.data], laidTests := true, laidLooks := .later }
def LameMatchesReferenceUptoCardSaid : Prop := Claim7.holds Tryz.pinned (.plain (OpenSpec.upto lameMatchesReferenceSpec)) lameMatchesReferenceUptoCard

/-- THE SECOND FORM's CARD OF 'nameplanlaw18.LameOrder'. -/
def lameOrderUptoCard : Claim7 := { stood := { row := lameOrderUptoRow, standIns := [], harness := (true, "b00e6d4bbe2a53928a6247debdab295eff0530b030090f467dc99833be4c2e6e"), looks := false }, kinds := [], alts := [], laidByText := true, laidKinds := [.data], laidTests := true, laidLooks := .later }
def LameOrderUptoCardSaid : Prop := Claim7.holds Tryz.pinned (.plain (OpenSpec.upto lameOrderSpec)) lameOrderUptoCard

/-- THE SECOND FORM's CARD OF 'nameplanlaw18.LameMended'. -/
def lameMendedUptoCard : Claim7 := { stood := { row := lameMendedUptoRow, standIns := [], harness := (true, "b00e6d4bbe2a53928a6247debdab295eff0530b030090f467dc99833be4c2e6e"), looks := false }, kinds := [], alts := [], laidByText := true, laidKinds := [.data], laidTests := true, laidLooks := .later }
def LameMendedUptoCardSaid : Prop := Claim7.holds Tryz.pinned (.plain (OpenSpec.upto lameMendedSpec)) lameMendedUptoCard

/-- THE SECOND FORM's CARD OF 'nameplanlaw17.LoopsReaching'. -/
def loopsReachingUptoCard : Claim7 := { stood := { row := loopsReachingUptoRow, standIns := [], harness := (true, "b00e6d4bbe2a53928a6247debdab295eff0530b030090f467dc99833be4c2e6e"), looks := false }, kinds := [], alts := [], laidByText := true, laidKinds := [.data], laidTests := true, laidLooks := .later }
def LoopsReachingUptoCardSaid : Prop := Claim7.holds Tryz.pinned (.plain (OpenSpec.upto loopsReachingSpec)) loopsReachingUptoCard

/-- THE SECOND FORM's CARD OF 'nameplanlaw17.LoopsLeast'. -/
def loopsLeastUptoCard : Claim7 := { stood := { row := loopsLeastUptoRow, standIns := [], harness := (true, "b00e6d4bbe2a53928a6247debdab295eff0530b030090f467dc99833be4c2e6e"), looks := false }, kinds := [], alts := [], laidByText := true, laidKinds := [.data], laidTests := true, laidLooks := .later }
def LoopsLeastUptoCardSaid : Prop := Claim7.holds Tryz.pinned (.plain (OpenSpec.upto loopsLeastSpec)) loopsLeastUptoCard

/-- THE SECOND FORM's CARD OF 'nameplanlaw17.LoopsOrder'. -/
def loopsOrderUptoCard : Claim7 := { stood := { row := loopsOrderUptoRow, standIns := [], harness := (true, "b00e6d4bbe2a53928a6247debdab295eff0530b030090f467dc99833be4c2e6e"), looks := false }, kinds := [], alts := [], laidByText := true, laidKinds := [.data], laidTests := true, laidLooks := .later }
def LoopsOrderUptoCardSaid : Prop := Claim7.holds Tryz.pinned (.plain (OpenSpec.upto loopsOrderSpec)) loopsOrderUptoCard

/-- THE SECOND FORM's CARD OF 'nameplanlaw18.LameServers'. -/
def lameServersUptoCard : Claim7 := { stood := { row := lameServersUptoRow, standIns := [], harness := (true, "b00e6d4bbe2a53928a6247debdab295eff0530b030090f467dc99833be4c2e6e"), looks := false }, kinds := [], alts := [], laidByText := true, laidKinds := [.data], laidTests := true, laidLooks := .later }
def LameServersUptoCardSaid : Prop := Claim7.holds Tryz.pinned (.plain (OpenSpec.upto lameServersSpec)) lameServersUptoCard

/-- THE SECOND FORM's CARD OF 'nameplanlaw18.LameShown'. -/
def lameShownUptoCard : Claim7 := { stood := { row := lameShownUptoRow, standIns := [], harness := (true, "b00e6d4bbe2a53928a6247debdab295eff0530b030090f467dc99833be4c2e6e"), looks := false }, kinds := [], alts := [], laidByText := true, laidKinds := [.data], laidTests := true, laidLooks := .later }
def LameShownUptoCardSaid : Prop := Claim7.holds Tryz.pinned (.plain (OpenSpec.upto lameShownSpec)) lameShownUptoCard

/-- THE SECOND FORM's CARD OF 'nameplanlaw18.LameNone'. -/
def lameNoneUptoCard : Claim7 := { stood := { row := lameNoneUptoRow, standIns := [], harness := (true, "b00e6d4bbe2a53928a6247debdab295eff0530b030090f467dc99833be4c2e6e"), looks := false }, kinds := [], alts := [], laidByText := true, laidKinds := [.data], laidTests := true, laidLooks := .later }
def LameNoneUptoCardSaid : Prop := Claim7.holds Tryz.pinned (.plain (OpenSpec.upto lameNoneSpec)) lameNoneUptoCard

/-- THE SECOND FORM's CARD OF 'nameplanlaw17.LoopsNeeds'. -/
def loopsNeedsUptoCard : Claim7 := { stood := { row := loopsNeedsUptoRow, standIns := [], harness := (true, "b00e6d4bbe2a53928a6247debdab295eff0530b030090f467dc99833be4c2e6e"), looks := false }, kinds := [], alts := [], laidByText := true, laidKinds := [.data], laidTests := true, laidLooks := .later }
def LoopsNeedsUptoCardSaid : Prop := Claim7.holds Tryz.pinned (.plain (OpenSpec.upto loopsNeedsSpec)) loopsNeedsUptoCard

/-- THE SECOND FORM's CARD OF 'nameplanlaw17.LoopsAliases'. -/
def loopsAliasesUptoCard : Claim7 := { stood := { row := loopsAliasesUptoRow, standIns := [], harness := (true, "b00e6d4bbe2a53928a6247debdab295eff0530b030090f467dc99833be4c2e6e"), looks := false }, kinds := [], alts := [], laidByText := true, laidKinds := [.data], laidTests := true, laidLooks := .later }
def LoopsAliasesUptoCardSaid : Prop := Claim7.holds Tryz.pinned (.plain (OpenSpec.upto loopsAliasesSpec)) loopsAliasesUptoCard

/-- THE SECOND FORM's CARD OF 'nameplanlaw17.LoopsTruth'. -/
def loopsTruthUptoCard : Claim7 := { stood := { row := loopsTruthUptoRow, standIns := [], harness := (true, "b00e6d4bbe2a53928a6247debdab295eff0530b030090f467dc99833be4c2e6e"), looks := false }, kinds := [], alts := [], laidByText := true, laidKinds := [.data], laidTests := true, laidLooks := .later }
def LoopsTruthUptoCardSaid : Prop := Claim7.holds Tryz.pinned (.plain (OpenSpec.upto loopsTruthSpec)) loopsTruthUptoCard
end Rows
end Go.Proofs.YtcecidfnchcagaaGreatDoor
