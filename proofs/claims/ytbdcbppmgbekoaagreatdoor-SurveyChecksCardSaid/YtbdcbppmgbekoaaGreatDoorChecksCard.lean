/- gangsawlaw13.SurveyChecks returns true at every input, as a card whose listed word tables are tied to the program text; no conditions. -/
import Derived.Test.YtbdcbppmgbekoaaGreatDoorX12
import Derived.Test.YtbdcbppmgbekoaaGreatDoorCards
import Derived.Test.YtbdcbppmgbekoaaGreatDoorTie
import Derived.SevenTiedAt
set_option linter.unusedVariables false
set_option linter.unusedSimpArgs false
set_option linter.unusedSectionVars false
set_option linter.defProp false
set_option linter.deprecated false
namespace Go.Proofs.YtbdcbppmgbekoaaGreatDoor
open Go
theorem surveyChecks_card : Rows.SurveyChecksCardSaid :=
  Claim7.holds_tied_plain_at .later [] [.widerDeep, .widerDeep] true (true, "60d416c8d7752619dc88d71870016820ddc8a8180336959418d3d2a19f3cb3a1") false
    surveyChecks_holds (fun _ h => by cases h) (by kernel_rfl) (fun _ h => by cases h) surveyChecks_row_tie rfl ⟨rfl, rfl⟩ (by kernel_rfl) rfl
    (fun f fn hf hfn => by
      obtain rfl : f = 3 := Option.some.inj ((show Tryz.prog.funcNamed "gangsaw/gangsawlaw13.SurveyChecks" = some 3 by kernel_rfl).symm.trans hf) |>.symm
      obtain rfl : fn = Tryz.f3 := (Option.some.inj (Tryz.func3.symm.trans hfn)).symm
      exact ⟨by kernel_rfl, fun j t ht => by
        rw [Tryz.params3] at ht
        have h3 : t = 31 := by
          rcases j with _ | _ | j
          · simpa using ht.symm
          · simpa using ht.symm
          · simp at ht
        subst h3
        exact (show Tryz.prog.wantsStandIn 31 = false by kernel_rfl)⟩)
    (by kernel_rfl)
#print axioms surveyChecks_card
end Go.Proofs.YtbdcbppmgbekoaaGreatDoor
