/-
  No cell of these rows narrows 'for every input' (looked for: loops, veiled, ifaces, maps, wideKeys, modest, calm, conditions, laid).
  DERIVED. THE GIVEN ROWS OF THIS SEAT. 7 by the template 'for every input the law returns true; each argument reads behind the call as it read before'; 0 by the template 'total and deterministic' (their statements: YthndcpffehneaaaGreatTotals.lean).
  GIVEN WITH THE SEED: the statements are not yours to turn. If you find one false, say at which input.
  Laid BY PROGRAM, IN A SANDBOX (cutbox-rows.mjs): the forced cells as the released guide's own fill.sh prints them over the translation 5ec2208a9ca85801… (all of the seat's roots in one cut). By AI agents, Wed Nov 11 2026. No macro, syntax, notation, axiom, sorry.
-/
import Derived.Test.YthndcpffehneaaaGreatChecked
import GoSem.Claim
import GoSem.ClaimJoined
import GoSem.ClaimMapViews
import Derived.JoinedTies
import Derived.KernelRfl
namespace Go.Proofs.YthndcpffehneaaaGreat
/- THE CELL 'sum', in the pinned program and in every row, IS THE sha256 OF THE DUMP (.gsa) THAT YthndcpffehneaaaGreatProg.lean LOADS. Nothing in Lean hashes anything: it is a label: what it is worth is what the hold of that sum in a sandbox is worth. -/
noncomputable def Tryz.pinned : Pinned := { name := "ythndcpffehneaaagreat", sum := "5ec2208a9ca85801e45f1955762c4abffebc0514ef21dcdbf44ba93062a1f013", checked := Tryz.checked }
namespace Rows
def none {H : Type} : Left H := { results := [], args := [] }

/-- 'gangsawlaw18.SupportLeans': WHATEVER THE INPUT: true; the input reads as it did. -/
def supportLeansSpec : ChangeSpec := { name := "supportLeans", fn := fun _ => fun
  | [d1, d2] => { results := [.lit (.bool true)], args := [d1, d2] }
  | _ => none }
def supportLeansRow : OpenClaim := { program := "ythndcpffehneaaagreat", sum := "5ec2208a9ca85801e45f1955762c4abffebc0514ef21dcdbf44ba93062a1f013", func := "gangsaw/gangsawlaw18.SupportLeans", spec := "supportLeans", unfollowed := true, recurses := true, apart := false }
def SupportLeansSaid : Prop := supportLeansRow.holds Tryz.pinned (OpenSpec.ofChange supportLeansSpec)

/-- ITS FALSE NEIGHBOUR: 'it returns false'. Refute it at one input. -/
def supportLeansWrong : ChangeSpec := { name := "supportLeans", fn := fun _ => fun
  | [d1, d2] => { results := [.lit (.bool false)], args := [d1, d2] }
  | _ => none }
def SupportLeansWrongFalsely : Prop := supportLeansRow.holds Tryz.pinned (OpenSpec.ofChange supportLeansWrong)

/-- 'gangsawlaw18.SupportClears': WHATEVER THE INPUT: true; the input reads as it did. -/
def supportClearsSpec : ChangeSpec := { name := "supportClears", fn := fun _ => fun
  | [d1, d2, d3] => { results := [.lit (.bool true)], args := [d1, d2, d3] }
  | _ => none }
def supportClearsRow : OpenClaim := { program := "ythndcpffehneaaagreat", sum := "5ec2208a9ca85801e45f1955762c4abffebc0514ef21dcdbf44ba93062a1f013", func := "gangsaw/gangsawlaw18.SupportClears", spec := "supportClears", unfollowed := true, recurses := true, apart := false }
def SupportClearsSaid : Prop := supportClearsRow.holds Tryz.pinned (OpenSpec.ofChange supportClearsSpec)

/-- ITS FALSE NEIGHBOUR: 'it returns false'. Refute it at one input. -/
def supportClearsWrong : ChangeSpec := { name := "supportClears", fn := fun _ => fun
  | [d1, d2, d3] => { results := [.lit (.bool false)], args := [d1, d2, d3] }
  | _ => none }
def SupportClearsWrongFalsely : Prop := supportClearsRow.holds Tryz.pinned (OpenSpec.ofChange supportClearsWrong)

/-- 'gangsawlaw18.SupportWhys': WHATEVER THE INPUT: true; the input reads as it did. -/
def supportWhysSpec : ChangeSpec := { name := "supportWhys", fn := fun _ => fun
  | [d1, d2, d3] => { results := [.lit (.bool true)], args := [d1, d2, d3] }
  | _ => none }
def supportWhysRow : OpenClaim := { program := "ythndcpffehneaaagreat", sum := "5ec2208a9ca85801e45f1955762c4abffebc0514ef21dcdbf44ba93062a1f013", func := "gangsaw/gangsawlaw18.SupportWhys", spec := "supportWhys", unfollowed := true, recurses := true, apart := false }
def SupportWhysSaid : Prop := supportWhysRow.holds Tryz.pinned (OpenSpec.ofChange supportWhysSpec)

/-- ITS FALSE NEIGHBOUR: 'it returns false'. Refute it at one input. -/
def supportWhysWrong : ChangeSpec := { name := "supportWhys", fn := fun _ => fun
  | [d1, d2, d3] => { results := [.lit (.bool false)], args := [d1, d2, d3] }
  | _ => none }
def SupportWhysWrongFalsely : Prop := supportWhysRow.holds Tryz.pinned (OpenSpec.ofChange supportWhysWrong)

/-- 'gangsawlaw18.SupportHangs': WHATEVER THE INPUT: true; the input reads as it did. -/
def supportHangsSpec : ChangeSpec := { name := "supportHangs", fn := fun _ => fun
  | [d1, d2] => { results := [.lit (.bool true)], args := [d1, d2] }
  | _ => none }
def supportHangsRow : OpenClaim := { program := "ythndcpffehneaaagreat", sum := "5ec2208a9ca85801e45f1955762c4abffebc0514ef21dcdbf44ba93062a1f013", func := "gangsaw/gangsawlaw18.SupportHangs", spec := "supportHangs", unfollowed := true, recurses := true, apart := false }
def SupportHangsSaid : Prop := supportHangsRow.holds Tryz.pinned (OpenSpec.ofChange supportHangsSpec)

/-- ITS FALSE NEIGHBOUR: 'it returns false'. Refute it at one input. -/
def supportHangsWrong : ChangeSpec := { name := "supportHangs", fn := fun _ => fun
  | [d1, d2] => { results := [.lit (.bool false)], args := [d1, d2] }
  | _ => none }
def SupportHangsWrongFalsely : Prop := supportHangsRow.holds Tryz.pinned (OpenSpec.ofChange supportHangsWrong)

/-- 'gangsawlaw18.SupportGrows': WHATEVER THE INPUT: true; the input reads as it did. -/
def supportGrowsSpec : ChangeSpec := { name := "supportGrows", fn := fun _ => fun
  | [d1, d2, d3, d4] => { results := [.lit (.bool true)], args := [d1, d2, d3, d4] }
  | _ => none }
def supportGrowsRow : OpenClaim := { program := "ythndcpffehneaaagreat", sum := "5ec2208a9ca85801e45f1955762c4abffebc0514ef21dcdbf44ba93062a1f013", func := "gangsaw/gangsawlaw18.SupportGrows", spec := "supportGrows", unfollowed := true, recurses := true, apart := false }
def SupportGrowsSaid : Prop := supportGrowsRow.holds Tryz.pinned (OpenSpec.ofChange supportGrowsSpec)

/-- ITS FALSE NEIGHBOUR: 'it returns false'. Refute it at one input. -/
def supportGrowsWrong : ChangeSpec := { name := "supportGrows", fn := fun _ => fun
  | [d1, d2, d3, d4] => { results := [.lit (.bool false)], args := [d1, d2, d3, d4] }
  | _ => none }
def SupportGrowsWrongFalsely : Prop := supportGrowsRow.holds Tryz.pinned (OpenSpec.ofChange supportGrowsWrong)

/-- 'gangsawlaw18.SupportSafe': WHATEVER THE INPUT: true; the input reads as it did. -/
def supportSafeSpec : ChangeSpec := { name := "supportSafe", fn := fun _ => fun
  | [d1, d2] => { results := [.lit (.bool true)], args := [d1, d2] }
  | _ => none }
def supportSafeRow : OpenClaim := { program := "ythndcpffehneaaagreat", sum := "5ec2208a9ca85801e45f1955762c4abffebc0514ef21dcdbf44ba93062a1f013", func := "gangsaw/gangsawlaw18.SupportSafe", spec := "supportSafe", unfollowed := true, recurses := true, apart := false }
def SupportSafeSaid : Prop := supportSafeRow.holds Tryz.pinned (OpenSpec.ofChange supportSafeSpec)

/-- ITS FALSE NEIGHBOUR: 'it returns false'. Refute it at one input. -/
def supportSafeWrong : ChangeSpec := { name := "supportSafe", fn := fun _ => fun
  | [d1, d2] => { results := [.lit (.bool false)], args := [d1, d2] }
  | _ => none }
def SupportSafeWrongFalsely : Prop := supportSafeRow.holds Tryz.pinned (OpenSpec.ofChange supportSafeWrong)

/-- 'gangsawlaw18.SupportAgrees': WHATEVER THE INPUT: true; the input reads as it did. -/
def supportAgreesSpec : ChangeSpec := { name := "supportAgrees", fn := fun _ => fun
  | [d1, d2, d3] => { results := [.lit (.bool true)], args := [d1, d2, d3] }
  | _ => none }
def supportAgreesRow : OpenClaim := { program := "ythndcpffehneaaagreat", sum := "5ec2208a9ca85801e45f1955762c4abffebc0514ef21dcdbf44ba93062a1f013", func := "gangsaw/gangsawlaw18.SupportAgrees", spec := "supportAgrees", unfollowed := true, recurses := true, apart := false }
def SupportAgreesSaid : Prop := supportAgreesRow.holds Tryz.pinned (OpenSpec.ofChange supportAgreesSpec)

/-- ITS FALSE NEIGHBOUR: 'it returns false'. Refute it at one input. -/
def supportAgreesWrong : ChangeSpec := { name := "supportAgrees", fn := fun _ => fun
  | [d1, d2, d3] => { results := [.lit (.bool false)], args := [d1, d2, d3] }
  | _ => none }
def SupportAgreesWrongFalsely : Prop := supportAgreesRow.holds Tryz.pinned (OpenSpec.ofChange supportAgreesWrong)

/- THE SECOND FORM. 'bulk': how many values and letters a reading holds, each counted each time it is reached (what is shared counts as often as it is met; a slice's spare places count too). A statement '..UptoSaid' is the law's where the arguments, and the package variables that the reading takes, are together of bulk at most 1048576: NARROWER than '..Said'. Prove '..Said' where nothing that the law and all that it calls make is longer than what came in: it says more and counts as full. Else prove '..UptoSaid'. A law counts once. -/
mutual
def uptoBulk {H : Type} : DataW H → Nat
  | .lit (.string bytes) => bytes.length + 1
  | .lit _ => 1
  | .nil => 1
  | .ptr d => uptoBulk d + 1
  | .slice elems spare => uptoBulkAll elems + uptoBulkAll spare + 1
  | .agg parts => uptoBulkAll parts + 1
  | .iface _ d => uptoBulk d + 1
  | .map entries => uptoBulkEntries entries + 1
  | .held _ => 1
def uptoBulkAll {H : Type} : List (DataW H) → Nat
  | [] => 0
  | d :: r => uptoBulk d + uptoBulkAll r
def uptoBulkEntries {H : Type} : List (Lit × DataW H) → Nat
  | [] => 0
  | x :: r => uptoBulkEntry x + uptoBulkEntries r
def uptoBulkEntry {H : Type} : Lit × DataW H → Nat
  | (.string bytes, d) => bytes.length + uptoBulk d + 1
  | (_, d) => uptoBulk d + 1
 end
def uptoSmall : (H : Type) → List (DataW H) → Bool := fun _ ds => decide (uptoBulkAll ds ≤ 1048576)
def OpenSpec.upto (s : _root_.Go.ChangeSpec) : _root_.Go.OpenSpec := { _root_.Go.OpenSpec.ofChange s with cond := some uptoSmall }

/-- 'gangsawlaw18.SupportLeans', WHERE WHAT IT READS IS OF BULK AT MOST 1048576: true; the input reads as it did. -/
def supportLeansUptoRow : OpenClaim := { program := "ythndcpffehneaaagreat", sum := "5ec2208a9ca85801e45f1955762c4abffebc0514ef21dcdbf44ba93062a1f013", func := "gangsaw/gangsawlaw18.SupportLeans", spec := "supportLeans", unfollowed := true, recurses := true, apart := false, narrowed := true }
def SupportLeansUptoSaid : Prop := supportLeansUptoRow.holds Tryz.pinned (OpenSpec.upto supportLeansSpec)

/-- 'gangsawlaw18.SupportClears', WHERE WHAT IT READS IS OF BULK AT MOST 1048576: true; the input reads as it did. -/
def supportClearsUptoRow : OpenClaim := { program := "ythndcpffehneaaagreat", sum := "5ec2208a9ca85801e45f1955762c4abffebc0514ef21dcdbf44ba93062a1f013", func := "gangsaw/gangsawlaw18.SupportClears", spec := "supportClears", unfollowed := true, recurses := true, apart := false, narrowed := true }
def SupportClearsUptoSaid : Prop := supportClearsUptoRow.holds Tryz.pinned (OpenSpec.upto supportClearsSpec)

/-- 'gangsawlaw18.SupportWhys', WHERE WHAT IT READS IS OF BULK AT MOST 1048576: true; the input reads as it did. -/
def supportWhysUptoRow : OpenClaim := { program := "ythndcpffehneaaagreat", sum := "5ec2208a9ca85801e45f1955762c4abffebc0514ef21dcdbf44ba93062a1f013", func := "gangsaw/gangsawlaw18.SupportWhys", spec := "supportWhys", unfollowed := true, recurses := true, apart := false, narrowed := true }
def SupportWhysUptoSaid : Prop := supportWhysUptoRow.holds Tryz.pinned (OpenSpec.upto supportWhysSpec)

/-- 'gangsawlaw18.SupportHangs', WHERE WHAT IT READS IS OF BULK AT MOST 1048576: true; the input reads as it did. -/
def supportHangsUptoRow : OpenClaim := { program := "ythndcpffehneaaagreat", sum := "5ec2208a9ca85801e45f1955762c4abffebc0514ef21dcdbf44ba93062a1f013", func := "gangsaw/gangsawlaw18.SupportHangs", spec := "supportHangs", unfollowed := true, recurses := true, apart := false, narrowed := true }
def SupportHangsUptoSaid : Prop := supportHangsUptoRow.holds Tryz.pinned (OpenSpec.upto supportHangsSpec)

/-- 'gangsawlaw18.SupportGrows', WHERE WHAT IT READS IS OF BULK AT MOST 1048576: true; the input reads as it did. -/
def supportGrowsUptoRow : OpenClaim := { program := "ythndcpffehneaaagreat", sum := "5ec2208a9ca85801e45f1955762c4abffebc0514ef21dcdbf44ba93062a1f013", func := "gangsaw/gangsawlaw18.SupportGrows", spec := "supportGrows", unfollowed := true, recurses := true, apart := false, narrowed := true }
def SupportGrowsUptoSaid : Prop := supportGrowsUptoRow.holds Tryz.pinned (OpenSpec.upto supportGrowsSpec)

/-- 'gangsawlaw18.SupportSafe', WHERE WHAT IT READS IS OF BULK AT MOST 1048576: true; the input reads as it did. -/
def supportSafeUptoRow : OpenClaim := { program := "ythndcpffehneaaagreat", sum := "5ec2208a9ca85801e45f1955762c4abffebc0514ef21dcdbf44ba93062a1f013", func := "gangsaw/gangsawlaw18.SupportSafe", spec := "supportSafe", unfollowed := true, recurses := true, apart := false, narrowed := true }
def SupportSafeUptoSaid : Prop := supportSafeUptoRow.holds Tryz.pinned (OpenSpec.upto supportSafeSpec)

/-- 'gangsawlaw18.SupportAgrees', WHERE WHAT IT READS IS OF BULK AT MOST 1048576: true; the input reads as it did. -/
def supportAgreesUptoRow : OpenClaim := { program := "ythndcpffehneaaagreat", sum := "5ec2208a9ca85801e45f1955762c4abffebc0514ef21dcdbf44ba93062a1f013", func := "gangsaw/gangsawlaw18.SupportAgrees", spec := "supportAgrees", unfollowed := true, recurses := true, apart := false, narrowed := true }
def SupportAgreesUptoSaid : Prop := supportAgreesUptoRow.holds Tryz.pinned (OpenSpec.upto supportAgreesSpec)

end Rows
end Go.Proofs.YthndcpffehneaaaGreat
