/-
  DERIVED. GIVEN WITH THE SEED: THE PROGRAM's TIES (one call each: nine closed facts by the kernel) AND EACH ROW's TIE, after the 31st guide's Derived/Test/Toyas{Tie, Card}.lean. No idea stands in it: it is a product of the set-up. Laid BY PROGRAM, IN A SANDBOX (cutbox-door.mjs). By AI agents, Wed Nov 11 2026. No macro, syntax, notation, axiom, sorry.
-/
import Derived.Test.YtbdcbppmgbekoaaGreatDoorRows
import Derived.LaidByTextLater
import Derived.SevenTiedAt
import Derived.LaidSub
import Derived.LaidOnce
namespace Go.Proofs.YtbdcbppmgbekoaaGreatDoor
open Go
set_option maxRecDepth 100000
theorem seatTie1 : Tryz.prog.laidByTextLater [("gangsaw/survey.sideWords", Rows.laid_gangsaw_survey_sideWords), ("gangsaw/survey.axisWords", Rows.laid_gangsaw_survey_axisWords)] [.widerDeep, .widerDeep] true :=
  Program.laidByTextLater_by_one 19 8 5 (by kernel_rfl) (by kernel_rfl) (by kernel_rfl) (by kernel_rfl) (by kernel_rfl) (by kernel_rfl) (fun _ _ => by kernel_rfl)
theorem noOwnUnsafe : Tryz.pinned.checked.prog.headLifts.contains "ownunsafe" = false := by kernel_rfl
theorem tie : Tryz.prog.laidByTextLater [("gangsaw/survey.sideWords", Rows.laid_gangsaw_survey_sideWords), ("gangsaw/survey.axisWords", Rows.laid_gangsaw_survey_axisWords)] [.widerDeep, .widerDeep] true :=
  Program.laidByTextLater.sub seatTie1 ["gangsaw/survey.sideWords", "gangsaw/survey.axisWords"] (by kernel_rfl) (by kernel_rfl)
theorem surveyChecks_row_tie : Rows.surveyChecksRow.laidByTextAt .later Tryz.pinned [.widerDeep, .widerDeep] true :=
  OpenClaim.laidByTextAt_later rfl rfl tie noOwnUnsafe
theorem surveyLoads_row_tie : Rows.surveyLoadsRow.laidByTextAt .later Tryz.pinned [.widerDeep, .widerDeep] true :=
  OpenClaim.laidByTextAt_later rfl rfl tie noOwnUnsafe
theorem surveyBack_row_tie : Rows.surveyBackRow.laidByTextAt .later Tryz.pinned [.widerDeep, .widerDeep] true :=
  OpenClaim.laidByTextAt_later rfl rfl tie noOwnUnsafe
theorem surveyChecksUpto_row_tie : Rows.surveyChecksUptoRow.laidByTextAt .later Tryz.pinned [.widerDeep, .widerDeep] true :=
  OpenClaim.laidByTextAt_later rfl rfl tie noOwnUnsafe
theorem surveyLoadsUpto_row_tie : Rows.surveyLoadsUptoRow.laidByTextAt .later Tryz.pinned [.widerDeep, .widerDeep] true :=
  OpenClaim.laidByTextAt_later rfl rfl tie noOwnUnsafe
theorem surveyBackUpto_row_tie : Rows.surveyBackUptoRow.laidByTextAt .later Tryz.pinned [.widerDeep, .widerDeep] true :=
  OpenClaim.laidByTextAt_later rfl rfl tie noOwnUnsafe
end Go.Proofs.YtbdcbppmgbekoaaGreatDoor
