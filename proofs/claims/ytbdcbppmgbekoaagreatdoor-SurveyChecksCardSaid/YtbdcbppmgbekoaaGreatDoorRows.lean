/-
  NARROWER THAN 'FOR EVERY INPUT', by the rows' own cells (each row's printed sentence says how): SurveyChecks: laid · SurveyLoads: loops, laid · SurveyBack: laid.
  DERIVED. THE GIVEN ROWS OF THIS SEAT. 3 by the template 'for every input the law returns true; each argument reads behind the call as it read before'; 0 by the template 'total and deterministic' (their statements: YtbdcbppmgbekoaaGreatDoorTotals.lean).
  GIVEN WITH THE SEED: the statements are not yours to turn. If you find one false, say at which input.
  Laid BY PROGRAM, IN A SANDBOX (cutbox-rows.mjs): the forced cells as the released guide's own fill.sh prints them over the translation 8107be4f4308b572… (all of the seat's roots in one cut). By AI agents, Wed Nov 11 2026. No macro, syntax, notation, axiom, sorry.
-/
import Derived.Test.YtbdcbppmgbekoaaGreatDoorChecked
import GoSem.Claim
import GoSem.ClaimJoined
import GoSem.ClaimMapViews
import Derived.JoinedTies
import Derived.KernelRfl
namespace Go.Proofs.YtbdcbppmgbekoaaGreatDoor
/- THE CELL 'sum', in the pinned program and in every row, IS THE sha256 OF THE DUMP (.gsa) THAT YtbdcbppmgbekoaaGreatDoorProg.lean LOADS. Nothing in Lean hashes anything: it is a label: what it is worth is what the hold of that sum in a sandbox is worth. -/
noncomputable def Tryz.pinned : Pinned := { name := "ytbdcbppmgbekoaagreatdoor", sum := "8107be4f4308b5728ac8208b3caa3b93dc60c31eaf2f3c40f82229749d088e88", checked := Tryz.checked }
namespace Rows
def none {H : Type} : Left H := { results := [], args := [] }

/- WHAT THE LISTED PACKAGE-LEVEL VARIABLES READ AS WHEN THE CALL BEGINS. Each datum BY PROGRAM (the guide's laid-datum.mjs) off the statement by which the dump's own 'gosem.cut.vars' lays the variable. In a bare row this is a premise. The card (YtbdcbppmgbekoaaGreatDoorCards.lean) ties it to the program's text. -/
def laid_gangsaw_survey_sideWords {H : Type} : DataW H := .slice [.lit (.string [101, 97, 115, 116]), .lit (.string [119, 101, 115, 116]), .lit (.string [110, 111, 114, 116, 104]), .lit (.string [115, 111, 117, 116, 104])] []
def laid_gangsaw_survey_axisWords {H : Type} : DataW H := .slice [.lit (.string [120]), .lit (.string [121])] []

/-- 'gangsawlaw13.SurveyChecks': WHATEVER THE INPUT: true; the input reads as it did. -/
def surveyChecksSpec : ChangeSpec := { name := "surveyChecks", fn := fun _ => fun
  | [d1, d2] => { results := [.lit (.bool true)], args := [d1, d2] }
  | _ => none }
def surveyChecksRow : OpenClaim := { program := "ytbdcbppmgbekoaagreatdoor", sum := "8107be4f4308b5728ac8208b3caa3b93dc60c31eaf2f3c40f82229749d088e88", func := "gangsaw/gangsawlaw13.SurveyChecks", spec := "surveyChecks", unfollowed := true, recurses := true, named := ["gangsaw/survey.sideWords", "gangsaw/survey.axisWords"], apart := false, laid := [("gangsaw/survey.sideWords", laid_gangsaw_survey_sideWords), ("gangsaw/survey.axisWords", laid_gangsaw_survey_axisWords)] }
def SurveyChecksSaid : Prop := surveyChecksRow.holds Tryz.pinned (OpenSpec.ofChange surveyChecksSpec)

/-- ITS FALSE NEIGHBOUR: 'it returns false'. Refute it at one input. -/
def surveyChecksWrong : ChangeSpec := { name := "surveyChecks", fn := fun _ => fun
  | [d1, d2] => { results := [.lit (.bool false)], args := [d1, d2] }
  | _ => none }
def SurveyChecksWrongFalsely : Prop := surveyChecksRow.holds Tryz.pinned (OpenSpec.ofChange surveyChecksWrong)

/-- 'gangsawlaw13.SurveyLoads': WHATEVER THE INPUT: true; the input reads as it did. -/
def surveyLoadsSpec : ChangeSpec := { name := "surveyLoads", fn := fun _ => fun
  | [d] => { results := [.lit (.bool true)], args := [d] }
  | _ => none }
def surveyLoadsRow : OpenClaim := { program := "ytbdcbppmgbekoaagreatdoor", sum := "8107be4f4308b5728ac8208b3caa3b93dc60c31eaf2f3c40f82229749d088e88", func := "gangsaw/gangsawlaw13.SurveyLoads", spec := "surveyLoads", unfollowed := true, recurses := true, named := ["gangsaw/survey.sideWords", "gangsaw/survey.axisWords"], loops := true, apart := false, laid := [("gangsaw/survey.sideWords", laid_gangsaw_survey_sideWords), ("gangsaw/survey.axisWords", laid_gangsaw_survey_axisWords)] }
def SurveyLoadsSaid : Prop := surveyLoadsRow.holds Tryz.pinned (OpenSpec.ofChange surveyLoadsSpec)

/-- ITS FALSE NEIGHBOUR: 'it returns false'. Refute it at one input. -/
def surveyLoadsWrong : ChangeSpec := { name := "surveyLoads", fn := fun _ => fun
  | [d] => { results := [.lit (.bool false)], args := [d] }
  | _ => none }
def SurveyLoadsWrongFalsely : Prop := surveyLoadsRow.holds Tryz.pinned (OpenSpec.ofChange surveyLoadsWrong)

/-- 'gangsawlaw13.SurveyBack': WHATEVER THE INPUT: true; the input reads as it did. -/
def surveyBackSpec : ChangeSpec := { name := "surveyBack", fn := fun _ => fun
  | [d1, d2] => { results := [.lit (.bool true)], args := [d1, d2] }
  | _ => none }
def surveyBackRow : OpenClaim := { program := "ytbdcbppmgbekoaagreatdoor", sum := "8107be4f4308b5728ac8208b3caa3b93dc60c31eaf2f3c40f82229749d088e88", func := "gangsaw/gangsawlaw13.SurveyBack", spec := "surveyBack", unfollowed := true, recurses := true, named := ["gangsaw/survey.sideWords", "gangsaw/survey.axisWords"], apart := false, laid := [("gangsaw/survey.sideWords", laid_gangsaw_survey_sideWords), ("gangsaw/survey.axisWords", laid_gangsaw_survey_axisWords)] }
def SurveyBackSaid : Prop := surveyBackRow.holds Tryz.pinned (OpenSpec.ofChange surveyBackSpec)

/-- ITS FALSE NEIGHBOUR: 'it returns false'. Refute it at one input. -/
def surveyBackWrong : ChangeSpec := { name := "surveyBack", fn := fun _ => fun
  | [d1, d2] => { results := [.lit (.bool false)], args := [d1, d2] }
  | _ => none }
def SurveyBackWrongFalsely : Prop := surveyBackRow.holds Tryz.pinned (OpenSpec.ofChange surveyBackWrong)

/- THE SECOND FORM. 'bulk': how many values and letters a reading holds, each counted each time it is reached (what is shared counts as often as it is met; a slice's spare places count too). A statement '..UptoSaid' is the law's where the arguments, and the package variables that the reading takes, are together of bulk at most 1048576: NARROWER than '..Said'. Prove '..Said' where nothing that the law and all that it calls make is longer than what came in: it says more and counts as full. Else prove '..UptoSaid'. A law counts once. -/
mutual
def uptoBulk {H : Type} : DataW H → Nat
  | .lit (.string bytes) => bytes.length + 1
  | .lit _ => 1
  | .nil => 1
  | .ptr d => uptoBulk d + 1
  | .slice elems spare => uptoBulkAll elems + uptoBulkAll spare + 1
  | .agg parts => uptoBulkAll parts + 1
  | .iface _ d => uptoBulk d + 1
  | .map entries => uptoBulkEntries entries + 1
  | .held _ => 1
def uptoBulkAll {H : Type} : List (DataW H) → Nat
  | [] => 0
  | d :: r => uptoBulk d + uptoBulkAll r
def uptoBulkEntries {H : Type} : List (Lit × DataW H) → Nat
  | [] => 0
  | x :: r => uptoBulkEntry x + uptoBulkEntries r
def uptoBulkEntry {H : Type} : Lit × DataW H → Nat
  | (.string bytes, d) => bytes.length + uptoBulk d + 1
  | (_, d) => uptoBulk d + 1
 end
def uptoSmall : (H : Type) → List (DataW H) → Bool := fun _ ds => decide (uptoBulkAll ds ≤ 1048576)
def OpenSpec.upto (s : _root_.Go.ChangeSpec) : _root_.Go.OpenSpec := { _root_.Go.OpenSpec.ofChange s with cond := some uptoSmall }

/-- 'gangsawlaw13.SurveyChecks', WHERE WHAT IT READS IS OF BULK AT MOST 1048576: true; the input reads as it did. -/
def surveyChecksUptoRow : OpenClaim := { program := "ytbdcbppmgbekoaagreatdoor", sum := "8107be4f4308b5728ac8208b3caa3b93dc60c31eaf2f3c40f82229749d088e88", func := "gangsaw/gangsawlaw13.SurveyChecks", spec := "surveyChecks", unfollowed := true, recurses := true, named := ["gangsaw/survey.sideWords", "gangsaw/survey.axisWords"], apart := false, laid := [("gangsaw/survey.sideWords", laid_gangsaw_survey_sideWords), ("gangsaw/survey.axisWords", laid_gangsaw_survey_axisWords)], narrowed := true }
def SurveyChecksUptoSaid : Prop := surveyChecksUptoRow.holds Tryz.pinned (OpenSpec.upto surveyChecksSpec)

/-- 'gangsawlaw13.SurveyLoads', WHERE WHAT IT READS IS OF BULK AT MOST 1048576: true; the input reads as it did. -/
def surveyLoadsUptoRow : OpenClaim := { program := "ytbdcbppmgbekoaagreatdoor", sum := "8107be4f4308b5728ac8208b3caa3b93dc60c31eaf2f3c40f82229749d088e88", func := "gangsaw/gangsawlaw13.SurveyLoads", spec := "surveyLoads", unfollowed := true, recurses := true, named := ["gangsaw/survey.sideWords", "gangsaw/survey.axisWords"], loops := true, apart := false, laid := [("gangsaw/survey.sideWords", laid_gangsaw_survey_sideWords), ("gangsaw/survey.axisWords", laid_gangsaw_survey_axisWords)], narrowed := true }
def SurveyLoadsUptoSaid : Prop := surveyLoadsUptoRow.holds Tryz.pinned (OpenSpec.upto surveyLoadsSpec)

/-- 'gangsawlaw13.SurveyBack', WHERE WHAT IT READS IS OF BULK AT MOST 1048576: true; the input reads as it did. -/
def surveyBackUptoRow : OpenClaim := { program := "ytbdcbppmgbekoaagreatdoor", sum := "8107be4f4308b5728ac8208b3caa3b93dc60c31eaf2f3c40f82229749d088e88", func := "gangsaw/gangsawlaw13.SurveyBack", spec := "surveyBack", unfollowed := true, recurses := true, named := ["gangsaw/survey.sideWords", "gangsaw/survey.axisWords"], apart := false, laid := [("gangsaw/survey.sideWords", laid_gangsaw_survey_sideWords), ("gangsaw/survey.axisWords", laid_gangsaw_survey_axisWords)], narrowed := true }
def SurveyBackUptoSaid : Prop := surveyBackUptoRow.holds Tryz.pinned (OpenSpec.upto surveyBackSpec)

end Rows
end Go.Proofs.YtbdcbppmgbekoaaGreatDoor
