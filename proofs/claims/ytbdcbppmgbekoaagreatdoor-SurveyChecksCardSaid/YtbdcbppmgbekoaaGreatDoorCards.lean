/-
  DERIVED. GIVEN WITH THE SEED: THE CARDS: each row of YtbdcbppmgbekoaaGreatDoorRows.lean that lists a variable, with what it lists TIED to the program's text (the seventh form; the later family's looks); each row that meets fmt, with fmt's text TOLD by the authors' own Lean function (tested against real Go, not proved from fmt's source: count such statements apart). THE CARD IS WHAT COUNTS. Prove the row's statement (the work); the ties are given (YtbdcbppmgbekoaaGreatDoorTie.lean); close each card by the builder's one call (the guide's Derived/Test/ToyasCard.lean, 'card_holds'). Laid BY PROGRAM, IN A SANDBOX (cutbox-door.mjs). By AI agents, Wed Nov 11 2026. No macro, syntax, notation, axiom, sorry.
-/
import Derived.Test.YtbdcbppmgbekoaaGreatDoorRows
import GoSem.ClaimSeven
namespace Go.Proofs.YtbdcbppmgbekoaaGreatDoor
namespace Rows

/-- THE TIED CARD OF 'gangsawlaw13.SurveyChecks'. -/
def surveyChecksCard : Claim7 := { stood := { row := surveyChecksRow, standIns := [], harness := (true, "60d416c8d7752619dc88d71870016820ddc8a8180336959418d3d2a19f3cb3a1"), looks := false }, kinds := [], alts := [], laidByText := true, laidKinds := [.widerDeep, .widerDeep], laidTests := true, laidLooks := .later }
def SurveyChecksCardSaid : Prop := Claim7.holds Tryz.pinned (.plain (OpenSpec.ofChange surveyChecksSpec)) surveyChecksCard

/-- THE TIED CARD OF 'gangsawlaw13.SurveyLoads'. -/
def surveyLoadsCard : Claim7 := { stood := { row := surveyLoadsRow, standIns := [], harness := (true, "60d416c8d7752619dc88d71870016820ddc8a8180336959418d3d2a19f3cb3a1"), looks := false }, kinds := [], alts := [], laidByText := true, laidKinds := [.widerDeep, .widerDeep], laidTests := true, laidLooks := .later }
def SurveyLoadsCardSaid : Prop := Claim7.holds Tryz.pinned (.plain (OpenSpec.ofChange surveyLoadsSpec)) surveyLoadsCard

/-- THE TIED CARD OF 'gangsawlaw13.SurveyBack'. -/
def surveyBackCard : Claim7 := { stood := { row := surveyBackRow, standIns := [], harness := (true, "60d416c8d7752619dc88d71870016820ddc8a8180336959418d3d2a19f3cb3a1"), looks := false }, kinds := [], alts := [], laidByText := true, laidKinds := [.widerDeep, .widerDeep], laidTests := true, laidLooks := .later }
def SurveyBackCardSaid : Prop := Claim7.holds Tryz.pinned (.plain (OpenSpec.ofChange surveyBackSpec)) surveyBackCard

/-- THE SECOND FORM's CARD OF 'gangsawlaw13.SurveyChecks'. -/
def surveyChecksUptoCard : Claim7 := { stood := { row := surveyChecksUptoRow, standIns := [], harness := (true, "60d416c8d7752619dc88d71870016820ddc8a8180336959418d3d2a19f3cb3a1"), looks := false }, kinds := [], alts := [], laidByText := true, laidKinds := [.widerDeep, .widerDeep], laidTests := true, laidLooks := .later }
def SurveyChecksUptoCardSaid : Prop := Claim7.holds Tryz.pinned (.plain (OpenSpec.upto surveyChecksSpec)) surveyChecksUptoCard

/-- THE SECOND FORM's CARD OF 'gangsawlaw13.SurveyLoads'. -/
def surveyLoadsUptoCard : Claim7 := { stood := { row := surveyLoadsUptoRow, standIns := [], harness := (true, "60d416c8d7752619dc88d71870016820ddc8a8180336959418d3d2a19f3cb3a1"), looks := false }, kinds := [], alts := [], laidByText := true, laidKinds := [.widerDeep, .widerDeep], laidTests := true, laidLooks := .later }
def SurveyLoadsUptoCardSaid : Prop := Claim7.holds Tryz.pinned (.plain (OpenSpec.upto surveyLoadsSpec)) surveyLoadsUptoCard

/-- THE SECOND FORM's CARD OF 'gangsawlaw13.SurveyBack'. -/
def surveyBackUptoCard : Claim7 := { stood := { row := surveyBackUptoRow, standIns := [], harness := (true, "60d416c8d7752619dc88d71870016820ddc8a8180336959418d3d2a19f3cb3a1"), looks := false }, kinds := [], alts := [], laidByText := true, laidKinds := [.widerDeep, .widerDeep], laidTests := true, laidLooks := .later }
def SurveyBackUptoCardSaid : Prop := Claim7.holds Tryz.pinned (.plain (OpenSpec.upto surveyBackSpec)) surveyBackUptoCard
end Rows
end Go.Proofs.YtbdcbppmgbekoaaGreatDoor
