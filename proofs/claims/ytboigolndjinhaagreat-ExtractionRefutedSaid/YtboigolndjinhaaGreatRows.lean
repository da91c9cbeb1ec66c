/-
  No cell of these rows narrows 'for every input' (looked for: loops, veiled, ifaces, maps, wideKeys, modest, calm, conditions, laid).
  DERIVED. THE GIVEN ROWS OF THIS SEAT. 8 by the template 'for every input the law returns true; each argument reads behind the call as it read before'; 0 by the template 'total and deterministic' (their statements: YtboigolndjinhaaGreatTotals.lean).
  GIVEN WITH THE SEED: the statements are not yours to turn. If you find one false, say at which input.
  Laid BY PROGRAM, IN A SANDBOX (cutbox-rows.mjs): the forced cells as the released guide's own fill.sh prints them over the translation f7ccd6ebf5357c79… (all of the seat's roots in one cut). By AI agents, Wed Nov 11 2026. No macro, syntax, notation, axiom, sorry.
-/
import Derived.Test.YtboigolndjinhaaGreatChecked
import GoSem.Claim
import GoSem.ClaimJoined
import GoSem.ClaimMapViews
import Derived.JoinedTies
import Derived.KernelRfl
namespace Go.Proofs.YtboigolndjinhaaGreat
/- THE CELL 'sum', in the pinned program and in every row, IS THE sha256 OF THE DUMP (.gsa) THAT YtboigolndjinhaaGreatProg.lean LOADS. Nothing in Lean hashes anything: it is a label: what it is worth is what the hold of that sum in a sandbox is worth. -/
noncomputable def Tryz.pinned : Pinned := { name := "ytboigolndjinhaagreat", sum := "f7ccd6ebf5357c7910609bc2f9d58c7cbd2a8465b2d333354362d939afdcf23e", checked := Tryz.checked }
namespace Rows
def none {H : Type} : Left H := { results := [], args := [] }

/-- 'gangsawlaw21.ExtractionRefuses': WHATEVER THE INPUT: true; the input reads as it did. -/
def extractionRefusesSpec : ChangeSpec := { name := "extractionRefuses", fn := fun _ => fun
  | [d] => { results := [.lit (.bool true)], args := [d] }
  | _ => none }
def extractionRefusesRow : OpenClaim := { program := "ytboigolndjinhaagreat", sum := "f7ccd6ebf5357c7910609bc2f9d58c7cbd2a8465b2d333354362d939afdcf23e", func := "gangsaw/gangsawlaw21.ExtractionRefuses", spec := "extractionRefuses", unfollowed := true, recurses := true, apart := false }
def ExtractionRefusesSaid : Prop := extractionRefusesRow.holds Tryz.pinned (OpenSpec.ofChange extractionRefusesSpec)

/-- ITS FALSE NEIGHBOUR: 'it returns false'. Refute it at one input. -/
def extractionRefusesWrong : ChangeSpec := { name := "extractionRefuses", fn := fun _ => fun
  | [d] => { results := [.lit (.bool false)], args := [d] }
  | _ => none }
def ExtractionRefusesWrongFalsely : Prop := extractionRefusesRow.holds Tryz.pinned (OpenSpec.ofChange extractionRefusesWrong)

/-- 'gangsawlaw21.ExtractionProves': WHATEVER THE INPUT: true; the input reads as it did. -/
def extractionProvesSpec : ChangeSpec := { name := "extractionProves", fn := fun _ => fun
  | [d1, d2, d3, d4] => { results := [.lit (.bool true)], args := [d1, d2, d3, d4] }
  | _ => none }
def extractionProvesRow : OpenClaim := { program := "ytboigolndjinhaagreat", sum := "f7ccd6ebf5357c7910609bc2f9d58c7cbd2a8465b2d333354362d939afdcf23e", func := "gangsaw/gangsawlaw21.ExtractionProves", spec := "extractionProves", unfollowed := true, recurses := true, apart := false }
def ExtractionProvesSaid : Prop := extractionProvesRow.holds Tryz.pinned (OpenSpec.ofChange extractionProvesSpec)

/-- ITS FALSE NEIGHBOUR: 'it returns false'. Refute it at one input. -/
def extractionProvesWrong : ChangeSpec := { name := "extractionProves", fn := fun _ => fun
  | [d1, d2, d3, d4] => { results := [.lit (.bool false)], args := [d1, d2, d3, d4] }
  | _ => none }
def ExtractionProvesWrongFalsely : Prop := extractionProvesRow.holds Tryz.pinned (OpenSpec.ofChange extractionProvesWrong)

/-- 'gangsawlaw21.ExtractionGreatest': WHATEVER THE INPUT: true; the input reads as it did. -/
def extractionGreatestSpec : ChangeSpec := { name := "extractionGreatest", fn := fun _ => fun
  | [d1, d2] => { results := [.lit (.bool true)], args := [d1, d2] }
  | _ => none }
def extractionGreatestRow : OpenClaim := { program := "ytboigolndjinhaagreat", sum := "f7ccd6ebf5357c7910609bc2f9d58c7cbd2a8465b2d333354362d939afdcf23e", func := "gangsaw/gangsawlaw21.ExtractionGreatest", spec := "extractionGreatest", unfollowed := true, recurses := true, apart := false }
def ExtractionGreatestSaid : Prop := extractionGreatestRow.holds Tryz.pinned (OpenSpec.ofChange extractionGreatestSpec)

/-- ITS FALSE NEIGHBOUR: 'it returns false'. Refute it at one input. -/
def extractionGreatestWrong : ChangeSpec := { name := "extractionGreatest", fn := fun _ => fun
  | [d1, d2] => { results := [.lit (.bool false)], args := [d1, d2] }
  | _ => none }
def ExtractionGreatestWrongFalsely : Prop := extractionGreatestRow.holds Tryz.pinned (OpenSpec.ofChange extractionGreatestWrong)

/-- 'gangsawlaw21.ExtractionPlans': WHATEVER THE INPUT: true; the input reads as it did. -/
def extractionPlansSpec : ChangeSpec := { name := "extractionPlans", fn := fun _ => fun
  | [d1, d2] => { results := [.lit (.bool true)], args := [d1, d2] }
  | _ => none }
def extractionPlansRow : OpenClaim := { program := "ytboigolndjinhaagreat", sum := "f7ccd6ebf5357c7910609bc2f9d58c7cbd2a8465b2d333354362d939afdcf23e", func := "gangsaw/gangsawlaw21.ExtractionPlans", spec := "extractionPlans", unfollowed := true, recurses := true, apart := false }
def ExtractionPlansSaid : Prop := extractionPlansRow.holds Tryz.pinned (OpenSpec.ofChange extractionPlansSpec)

/-- ITS FALSE NEIGHBOUR: 'it returns false'. Refute it at one input. -/
def extractionPlansWrong : ChangeSpec := { name := "extractionPlans", fn := fun _ => fun
  | [d1, d2] => { results := [.lit (.bool false)], args := [d1, d2] }
  | _ => none }
def ExtractionPlansWrongFalsely : Prop := extractionPlansRow.holds Tryz.pinned (OpenSpec.ofChange extractionPlansWrong)

/-- 'gangsawlaw21.ExtractionLeast': WHATEVER THE INPUT: true; the input reads as it did. -/
def extractionLeastSpec : ChangeSpec := { name := "extractionLeast", fn := fun _ => fun
  | [d1, d2] => { results := [.lit (.bool true)], args := [d1, d2] }
  | _ => none }
def extractionLeastRow : OpenClaim := { program := "ytboigolndjinhaagreat", sum := "f7ccd6ebf5357c7910609bc2f9d58c7cbd2a8465b2d333354362d939afdcf23e", func := "gangsaw/gangsawlaw21.ExtractionLeast", spec := "extractionLeast", unfollowed := true, recurses := true, apart := false }
def ExtractionLeastSaid : Prop := extractionLeastRow.holds Tryz.pinned (OpenSpec.ofChange extractionLeastSpec)

/-- ITS FALSE NEIGHBOUR: 'it returns false'. Refute it at one input. -/
def extractionLeastWrong : ChangeSpec := { name := "extractionLeast", fn := fun _ => fun
  | [d1, d2] => { results := [.lit (.bool false)], args := [d1, d2] }
  | _ => none }
def ExtractionLeastWrongFalsely : Prop := extractionLeastRow.holds Tryz.pinned (OpenSpec.ofChange extractionLeastWrong)

/-- 'gangsawlaw21.ExtractionRefuted': WHATEVER THE INPUT: true; the input reads as it did. -/
def extractionRefutedSpec : ChangeSpec := { name := "extractionRefuted", fn := fun _ => fun
  | [d1, d2, d3, d4, d5] => { results := [.lit (.bool true)], args := [d1, d2, d3, d4, d5] }
  | _ => none }
def extractionRefutedRow : OpenClaim := { program := "ytboigolndjinhaagreat", sum := "f7ccd6ebf5357c7910609bc2f9d58c7cbd2a8465b2d333354362d939afdcf23e", func := "gangsaw/gangsawlaw21.ExtractionRefuted", spec := "extractionRefuted", unfollowed := true, recurses := true, apart := false }
def ExtractionRefutedSaid : Prop := extractionRefutedRow.holds Tryz.pinned (OpenSpec.ofChange extractionRefutedSpec)

/-- ITS FALSE NEIGHBOUR: 'it returns false'. Refute it at one input. -/
def extractionRefutedWrong : ChangeSpec := { name := "extractionRefuted", fn := fun _ => fun
  | [d1, d2, d3, d4, d5] => { results := [.lit (.bool false)], args := [d1, d2, d3, d4, d5] }
  | _ => none }
def ExtractionRefutedWrongFalsely : Prop := extractionRefutedRow.holds Tryz.pinned (OpenSpec.ofChange extractionRefutedWrong)

/-- 'gangsawlaw21.ExtractionOrders': WHATEVER THE INPUT: true; the input reads as it did. -/
def extractionOrdersSpec : ChangeSpec := { name := "extractionOrders", fn := fun _ => fun
  | [d1, d2, d3] => { results := [.lit (.bool true)], args := [d1, d2, d3] }
  | _ => none }
def extractionOrdersRow : OpenClaim := { program := "ytboigolndjinhaagreat", sum := "f7ccd6ebf5357c7910609bc2f9d58c7cbd2a8465b2d333354362d939afdcf23e", func := "gangsaw/gangsawlaw21.ExtractionOrders", spec := "extractionOrders", unfollowed := true, recurses := true, apart := false }
def ExtractionOrdersSaid : Prop := extractionOrdersRow.holds Tryz.pinned (OpenSpec.ofChange extractionOrdersSpec)

/-- ITS FALSE NEIGHBOUR: 'it returns false'. Refute it at one input. -/
def extractionOrdersWrong : ChangeSpec := { name := "extractionOrders", fn := fun _ => fun
  | [d1, d2, d3] => { results := [.lit (.bool false)], args := [d1, d2, d3] }
  | _ => none }
def ExtractionOrdersWrongFalsely : Prop := extractionOrdersRow.holds Tryz.pinned (OpenSpec.ofChange extractionOrdersWrong)

/-- 'gangsawlaw21.ExtractionSafe': WHATEVER THE INPUT: true; the input reads as it did. -/
def extractionSafeSpec : ChangeSpec := { name := "extractionSafe", fn := fun _ => fun
  | [d1, d2] => { results := [.lit (.bool true)], args := [d1, d2] }
  | _ => none }
def extractionSafeRow : OpenClaim := { program := "ytboigolndjinhaagreat", sum := "f7ccd6ebf5357c7910609bc2f9d58c7cbd2a8465b2d333354362d939afdcf23e", func := "gangsaw/gangsawlaw21.ExtractionSafe", spec := "extractionSafe", unfollowed := true, recurses := true, apart := false }
def ExtractionSafeSaid : Prop := extractionSafeRow.holds Tryz.pinned (OpenSpec.ofChange extractionSafeSpec)

/-- ITS FALSE NEIGHBOUR: 'it returns false'. Refute it at one input. -/
def extractionSafeWrong : ChangeSpec := { name := "extractionSafe", fn := fun _ => fun
  | [d1, d2] => { results := [.lit (.bool false)], args := [d1, d2] }
  | _ => none }
def ExtractionSafeWrongFalsely : Prop := extractionSafeRow.holds Tryz.pinned (OpenSpec.ofChange extractionSafeWrong)

/- THE SECOND FORM. 'bulk': how many values and letters a reading holds, each counted each time it is reached (what is shared counts as often as it is met; a slice's spare places count too). A statement '..UptoSaid' is the law's where the arguments, and the package variables that the reading takes, are together of bulk at most 1048576: NARROWER than '..Said'. Prove '..Said' where nothing that the law and all that it calls make is longer than what came in: it says more and counts as full. Else prove '..UptoSaid'. A law counts once. -/
mutual
def uptoBulk {H : Type} : DataW H → Nat
  | .lit (.string bytes) => bytes.length + 1
  | .lit _ => 1
  | .nil => 1
  | .ptr d => uptoBulk d + 1
  | .slice elems spare => uptoBulkAll elems + uptoBulkAll spare + 1
  | .agg parts => uptoBulkAll parts + 1
  | .iface _ d => uptoBulk d + 1
  | .map entries => uptoBulkEntries entries + 1
  | .held _ => 1
def uptoBulkAll {H : Type} : List (DataW H) → Nat
  | [] => 0
  | d :: r => uptoBulk d + uptoBulkAll r
def uptoBulkEntries {H : Type} : List (Lit × DataW H) → Nat
  | [] => 0
  | x :: r => uptoBulkEntry x + uptoBulkEntries r
def uptoBulkEntry {H : Type} : Lit × DataW H → Nat
  | (.string bytes, d) => bytes.length + uptoBulk d + 1
  | (_, d) => uptoBulk d + 1
 end
def uptoSmall : (H : Type) → List (DataW H) → Bool := fun _ ds => decide (uptoBulkAll ds ≤ 1048576)
def OpenSpec.upto (s : _root_.Go.ChangeSpec) : _root_.Go.OpenSpec := { _root_.Go.OpenSpec.ofChange s with cond := some uptoSmall }

/-- 'gangsawlaw21.ExtractionRefuses', WHERE WHAT IT READS IS OF BULK AT MOST 1048576: true; the input reads as it did. -/
def extractionRefusesUptoRow : OpenClaim := { program := "ytboigolndjinhaagreat", sum := "f7ccd6ebf5357c7910609bc2f9d58c7cbd2a8465b2d333354362d939afdcf23e", func := "gangsaw/gangsawlaw21.ExtractionRefuses", spec := "extractionRefuses", unfollowed := true, recurses := true, apart := false, narrowed := true }
def ExtractionRefusesUptoSaid : Prop := extractionRefusesUptoRow.holds Tryz.pinned (OpenSpec.upto extractionRefusesSpec)

/-- 'gangsawlaw21.ExtractionProves', WHERE WHAT IT READS IS OF BULK AT MOST 1048576: true; the input reads as it did. -/
def extractionProvesUptoRow : OpenClaim := { program := "ytboigolndjinhaagreat", sum := "f7ccd6ebf5357c7910609bc2f9d58c7cbd2a8465b2d333354362d939afdcf23e", func := "gangsaw/gangsawlaw21.ExtractionProves", spec := "extractionProves", unfollowed := true, recurses := true, apart := false, narrowed := true }
def ExtractionProvesUptoSaid : Prop := extractionProvesUptoRow.holds Tryz.pinned (OpenSpec.upto extractionProvesSpec)

/-- 'gangsawlaw21.ExtractionGreatest', WHERE WHAT IT READS IS OF BULK AT MOST 1048576: true; the input reads as it did. -/
def extractionGreatestUptoRow : OpenClaim := { program := "ytboigolndjinhaagreat", sum := "f7ccd6ebf5357c7910609bc2f9d58c7cbd2a8465b2d333354362d939afdcf23e", func := "gangsaw/gangsawlaw21.ExtractionGreatest", spec := "extractionGreatest", unfollowed := true, recurses := true, apart := false, narrowed := true }
def ExtractionGreatestUptoSaid : Prop := extractionGreatestUptoRow.holds Tryz.pinned (OpenSpec.upto extractionGreatestSpec)

/-- 'gangsawlaw21.ExtractionPlans', WHERE WHAT IT READS IS OF BULK AT MOST 1048576: true; the input reads as it did. -/
def extractionPlansUptoRow : OpenClaim := { program := "ytboigolndjinhaagreat", sum := "f7ccd6ebf5357c7910609bc2f9d58c7cbd2a8465b2d333354362d939afdcf23e", func := "gangsaw/gangsawlaw21.ExtractionPlans", spec := "extractionPlans", unfollowed := true, recurses := true, apart := false, narrowed := true }
def ExtractionPlansUptoSaid : Prop := extractionPlansUptoRow.holds Tryz.pinned (OpenSpec.upto extractionPlansSpec)

/-- 'gangsawlaw21.ExtractionLeast', WHERE WHAT IT READS IS OF BULK AT MOST 1048576: true; the input reads as it did. -/
def extractionLeastUptoRow : OpenClaim := { program := "ytboigolndjinhaagreat", sum := "f7ccd6ebf5357c7910609bc2f9d58c7cbd2a8465b2d333354362d939afdcf23e", func := "gangsaw/gangsawlaw21.ExtractionLeast", spec := "extractionLeast", unfollowed := true, recurses := true, apart := false, narrowed := true }
def ExtractionLeastUptoSaid : Prop := extractionLeastUptoRow.holds Tryz.pinned (OpenSpec.upto extractionLeastSpec)

/-- 'gangsawlaw21.ExtractionRefuted', WHERE WHAT IT READS IS OF BULK AT MOST 1048576: true; the input reads as it did. -/
def extractionRefutedUptoRow : OpenClaim := { program := "ytboigolndjinhaagreat", sum := "f7ccd6ebf5357c7910609bc2f9d58c7cbd2a8465b2d333354362d939afdcf23e", func := "gangsaw/gangsawlaw21.ExtractionRefuted", spec := "extractionRefuted", unfollowed := true, recurses := true, apart := false, narrowed := true }
def ExtractionRefutedUptoSaid : Prop := extractionRefutedUptoRow.holds Tryz.pinned (OpenSpec.upto extractionRefutedSpec)

/-- 'gangsawlaw21.ExtractionOrders', WHERE WHAT IT READS IS OF BULK AT MOST 1048576: true; the input reads as it did. -/
def extractionOrdersUptoRow : OpenClaim := { program := "ytboigolndjinhaagreat", sum := "f7ccd6ebf5357c7910609bc2f9d58c7cbd2a8465b2d333354362d939afdcf23e", func := "gangsaw/gangsawlaw21.ExtractionOrders", spec := "extractionOrders", unfollowed := true, recurses := true, apart := false, narrowed := true }
def ExtractionOrdersUptoSaid : Prop := extractionOrdersUptoRow.holds Tryz.pinned (OpenSpec.upto extractionOrdersSpec)

/-- 'gangsawlaw21.ExtractionSafe', WHERE WHAT IT READS IS OF BULK AT MOST 1048576: true; the input reads as it did. -/
def extractionSafeUptoRow : OpenClaim := { program := "ytboigolndjinhaagreat", sum := "f7ccd6ebf5357c7910609bc2f9d58c7cbd2a8465b2d333354362d939afdcf23e", func := "gangsaw/gangsawlaw21.ExtractionSafe", spec := "extractionSafe", unfollowed := true, recurses := true, apart := false, narrowed := true }
def ExtractionSafeUptoSaid : Prop := extractionSafeUptoRow.holds Tryz.pinned (OpenSpec.upto extractionSafeSpec)

end Rows
end Go.Proofs.YtboigolndjinhaaGreat
