/-
  No cell of these rows narrows 'for every input' (looked for: loops, veiled, ifaces, maps, wideKeys, modest, calm, conditions, laid).
  DERIVED. THE GIVEN ROWS OF THIS SEAT. 3 by the template 'for every input the law returns true; each argument reads behind the call as it read before'; 0 by the template 'total and deterministic' (their statements: YtbdcbppmgbekoaaGreatTotals.lean).
  GIVEN WITH THE SEED: the statements are not yours to turn. If you find one false, say at which input.
  Laid BY PROGRAM, IN A SANDBOX (cutbox-rows.mjs): the forced cells as the released guide's own fill.sh prints them over the translation fcab504635d5adb8… (all of the seat's roots in one cut). By AI agents, Wed Nov 11 2026. No macro, syntax, notation, axiom, sorry.
-/
import Derived.Test.YtbdcbppmgbekoaaGreatChecked
import GoSem.Claim
import GoSem.ClaimJoined
import GoSem.ClaimMapViews
import Derived.JoinedTies
import Derived.KernelRfl
namespace Go.Proofs.YtbdcbppmgbekoaaGreat
/- THE CELL 'sum', in the pinned program and in every row, IS THE sha256 OF THE DUMP (.gsa) THAT YtbdcbppmgbekoaaGreatProg.lean LOADS. Nothing in Lean hashes anything: it is a label: what it is worth is what the hold of that sum in a sandbox is worth. -/
noncomputable def Tryz.pinned : Pinned := { name := "ytbdcbppmgbekoaagreat", sum := "fcab504635d5adb8f5edd4841b5a7f42a6c01ce501a8954d41160b2c2dcd3b42", checked := Tryz.checked }
namespace Rows
def none {H : Type} : Left H := { results := [], args := [] }

/-- 'gangsawlaw13.SurveySides': WHATEVER THE INPUT: true; the input reads as it did. -/
def surveySidesSpec : ChangeSpec := { name := "surveySides", fn := fun _ => fun
  | [d1, d2, d3] => { results := [.lit (.bool true)], args := [d1, d2, d3] }
  | _ => none }
def surveySidesRow : OpenClaim := { program := "ytbdcbppmgbekoaagreat", sum := "fcab504635d5adb8f5edd4841b5a7f42a6c01ce501a8954d41160b2c2dcd3b42", func := "gangsaw/gangsawlaw13.SurveySides", spec := "surveySides", unfollowed := true, recurses := true, apart := false }
def SurveySidesSaid : Prop := surveySidesRow.holds Tryz.pinned (OpenSpec.ofChange surveySidesSpec)

/-- ITS FALSE NEIGHBOUR: 'it returns false'. Refute it at one input. -/
def surveySidesWrong : ChangeSpec := { name := "surveySides", fn := fun _ => fun
  | [d1, d2, d3] => { results := [.lit (.bool false)], args := [d1, d2, d3] }
  | _ => none }
def SurveySidesWrongFalsely : Prop := surveySidesRow.holds Tryz.pinned (OpenSpec.ofChange surveySidesWrong)

/-- 'gangsawlaw13.SurveyConcerns': WHATEVER THE INPUT: true; the input reads as it did. -/
def surveyConcernsSpec : ChangeSpec := { name := "surveyConcerns", fn := fun _ => fun
  | [d1, d2, d3] => { results := [.lit (.bool true)], args := [d1, d2, d3] }
  | _ => none }
def surveyConcernsRow : OpenClaim := { program := "ytbdcbppmgbekoaagreat", sum := "fcab504635d5adb8f5edd4841b5a7f42a6c01ce501a8954d41160b2c2dcd3b42", func := "gangsaw/gangsawlaw13.SurveyConcerns", spec := "surveyConcerns", unfollowed := true, recurses := true, apart := false }
def SurveyConcernsSaid : Prop := surveyConcernsRow.holds Tryz.pinned (OpenSpec.ofChange surveyConcernsSpec)

/-- ITS FALSE NEIGHBOUR: 'it returns false'. Refute it at one input. -/
def surveyConcernsWrong : ChangeSpec := { name := "surveyConcerns", fn := fun _ => fun
  | [d1, d2, d3] => { results := [.lit (.bool false)], args := [d1, d2, d3] }
  | _ => none }
def SurveyConcernsWrongFalsely : Prop := surveyConcernsRow.holds Tryz.pinned (OpenSpec.ofChange surveyConcernsWrong)

/-- 'gangsawlaw13.SurveyParts': WHATEVER THE INPUT: true; the input reads as it did. -/
def surveyPartsSpec : ChangeSpec := { name := "surveyParts", fn := fun _ => fun
  | [d1, d2, d3, d4] => { results := [.lit (.bool true)], args := [d1, d2, d3, d4] }
  | _ => none }
def surveyPartsRow : OpenClaim := { program := "ytbdcbppmgbekoaagreat", sum := "fcab504635d5adb8f5edd4841b5a7f42a6c01ce501a8954d41160b2c2dcd3b42", func := "gangsaw/gangsawlaw13.SurveyParts", spec := "surveyParts", unfollowed := true, recurses := true, apart := false }
def SurveyPartsSaid : Prop := surveyPartsRow.holds Tryz.pinned (OpenSpec.ofChange surveyPartsSpec)

/-- ITS FALSE NEIGHBOUR: 'it returns false'. Refute it at one input. -/
def surveyPartsWrong : ChangeSpec := { name := "surveyParts", fn := fun _ => fun
  | [d1, d2, d3, d4] => { results := [.lit (.bool false)], args := [d1, d2, d3, d4] }
  | _ => none }
def SurveyPartsWrongFalsely : Prop := surveyPartsRow.holds Tryz.pinned (OpenSpec.ofChange surveyPartsWrong)

/- THE SECOND FORM. 'bulk': how many values and letters a reading holds, each counted each time it is reached (what is shared counts as often as it is met; a slice's spare places count too). A statement '..UptoSaid' is the law's where the arguments, and the package variables that the reading takes, are together of bulk at most 1048576: NARROWER than '..Said'. Prove '..Said' where nothing that the law and all that it calls make is longer than what came in: it says more and counts as full. Else prove '..UptoSaid'. A law counts once. -/
mutual
def uptoBulk {H : Type} : DataW H → Nat
  | .lit (.string bytes) => bytes.length + 1
  | .lit _ => 1
  | .nil => 1
  | .ptr d => uptoBulk d + 1
  | .slice elems spare => uptoBulkAll elems + uptoBulkAll spare + 1
  | .agg parts => uptoBulkAll parts + 1
  | .iface _ d => uptoBulk d + 1
  | .map entries => uptoBulkEntries entries + 1
  | .held _ => 1
def uptoBulkAll {H : Type} : List (DataW H) → Nat
  | [] => 0
  | d :: r => uptoBulk d + uptoBulkAll r
def uptoBulkEntries {H : Type} : List (Lit × DataW H) → Nat
  | [] => 0
  | x :: r => uptoBulkEntry x + uptoBulkEntries r
def uptoBulkEntry {H : Type} : Lit × DataW H → Nat
  | (.string bytes, d) => bytes.length + uptoBulk d + 1
  | (_, d) => uptoBulk d + 1
 end
def uptoSmall : (H : Type) → List (DataW H) → Bool := fun _ ds => decide (uptoBulkAll ds ≤ 1048576)
def OpenSpec.upto (s : _root_.Go.ChangeSpec) : _root_.Go.OpenSpec := { _root_.Go.OpenSpec.ofChange s with cond := some uptoSmall }

/-- 'gangsawlaw13.SurveySides', WHERE WHAT IT READS IS OF BULK AT MOST 1048576: true; the input reads as it did. -/
def surveySidesUptoRow : OpenClaim := { program := "ytbdcbppmgbekoaagreat", sum := "fcab504635d5adb8f5edd4841b5a7f42a6c01ce501a8954d41160b2c2dcd3b42", func := "gangsaw/gangsawlaw13.SurveySides", spec := "surveySides", unfollowed := true, recurses := true, apart := false, narrowed := true }
def SurveySidesUptoSaid : Prop := surveySidesUptoRow.holds Tryz.pinned (OpenSpec.upto surveySidesSpec)

/-- 'gangsawlaw13.SurveyConcerns', WHERE WHAT IT READS IS OF BULK AT MOST 1048576: true; the input reads as it did. -/
def surveyConcernsUptoRow : OpenClaim := { program := "ytbdcbppmgbekoaagreat", sum := "fcab504635d5adb8f5edd4841b5a7f42a6c01ce501a8954d41160b2c2dcd3b42", func := "gangsaw/gangsawlaw13.SurveyConcerns", spec := "surveyConcerns", unfollowed := true, recurses := true, apart := false, narrowed := true }
def SurveyConcernsUptoSaid : Prop := surveyConcernsUptoRow.holds Tryz.pinned (OpenSpec.upto surveyConcernsSpec)

/-- 'gangsawlaw13.SurveyParts', WHERE WHAT IT READS IS OF BULK AT MOST 1048576: true; the input reads as it did. -/
def surveyPartsUptoRow : OpenClaim := { program := "ytbdcbppmgbekoaagreat", sum := "fcab504635d5adb8f5edd4841b5a7f42a6c01ce501a8954d41160b2c2dcd3b42", func := "gangsaw/gangsawlaw13.SurveyParts", spec := "surveyParts", unfollowed := true, recurses := true, apart := false, narrowed := true }
def SurveyPartsUptoSaid : Prop := surveyPartsUptoRow.holds Tryz.pinned (OpenSpec.upto surveyPartsSpec)

end Rows
end Go.Proofs.YtbdcbppmgbekoaaGreat
