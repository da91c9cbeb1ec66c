/-
  No cell of these rows narrows 'for every input' (looked for: loops, veiled, ifaces, maps, wideKeys, modest, calm, conditions, laid).
  DERIVED. THE GIVEN ROWS OF THIS SEAT. 8 by the template 'for every input the law returns true; each argument reads behind the call as it read before'; 0 by the template 'total and deterministic' (their statements: YtogfagkjndoefaaGreatTotals.lean).
  GIVEN WITH THE SEED: the statements are not yours to turn. If you find one false, say at which input.
  Laid BY PROGRAM, IN A SANDBOX (cutbox-rows.mjs): the forced cells as the released guide's own fill.sh prints them over the translation 262dbeae545bc482… (all of the seat's roots in one cut). By AI agents, Wed Nov 11 2026. No macro, syntax, notation, axiom, sorry.
-/
import Derived.Test.YtogfagkjndoefaaGreatChecked
import GoSem.Claim
import GoSem.ClaimJoined
import GoSem.ClaimMapViews
import Derived.JoinedTies
import Derived.KernelRfl
namespace Go.Proofs.YtogfagkjndoefaaGreat
/- THE CELL 'sum', in the pinned program and in every row, IS THE sha256 OF THE DUMP (.gsa) THAT YtogfagkjndoefaaGreatProg.lean LOADS. Nothing in Lean hashes anything: it is a label: what it is worth is what the hold of that sum in a sandbox is worth. -/
noncomputable def Tryz.pinned : Pinned := { name := "ytogfagkjndoefaagreat", sum := "262dbeae545bc482ab777e8d783d671cbea14fc99d24ea86f1b7166fc2f362af", checked := Tryz.checked }
namespace Rows
def none {H : Type} : Left H := { results := [], args := [] }

/-- 'gangsawlaw16.SoundFinds': WHATEVER THE INPUT: true; the input reads as it did. -/
def soundFindsSpec : ChangeSpec := { name := "soundFinds", fn := fun _ => fun
  | [d1, d2, d3] => { results := [.lit (.bool true)], args := [d1, d2, d3] }
  | _ => none }
def soundFindsRow : OpenClaim := { program := "ytogfagkjndoefaagreat", sum := "262dbeae545bc482ab777e8d783d671cbea14fc99d24ea86f1b7166fc2f362af", func := "gangsaw/gangsawlaw16.SoundFinds", spec := "soundFinds", unfollowed := true, recurses := true, apart := false }
def SoundFindsSaid : Prop := soundFindsRow.holds Tryz.pinned (OpenSpec.ofChange soundFindsSpec)

/-- ITS FALSE NEIGHBOUR: 'it returns false'. Refute it at one input. -/
def soundFindsWrong : ChangeSpec := { name := "soundFinds", fn := fun _ => fun
  | [d1, d2, d3] => { results := [.lit (.bool false)], args := [d1, d2, d3] }
  | _ => none }
def SoundFindsWrongFalsely : Prop := soundFindsRow.holds Tryz.pinned (OpenSpec.ofChange soundFindsWrong)

/-- 'gangsawlaw16.SoundRanges': WHATEVER THE INPUT: true; the input reads as it did. -/
def soundRangesSpec : ChangeSpec := { name := "soundRanges", fn := fun _ => fun
  | [d1, d2, d3, d4] => { results := [.lit (.bool true)], args := [d1, d2, d3, d4] }
  | _ => none }
def soundRangesRow : OpenClaim := { program := "ytogfagkjndoefaagreat", sum := "262dbeae545bc482ab777e8d783d671cbea14fc99d24ea86f1b7166fc2f362af", func := "gangsaw/gangsawlaw16.SoundRanges", spec := "soundRanges", unfollowed := true, recurses := true, apart := false }
def SoundRangesSaid : Prop := soundRangesRow.holds Tryz.pinned (OpenSpec.ofChange soundRangesSpec)

/-- ITS FALSE NEIGHBOUR: 'it returns false'. Refute it at one input. -/
def soundRangesWrong : ChangeSpec := { name := "soundRanges", fn := fun _ => fun
  | [d1, d2, d3, d4] => { results := [.lit (.bool false)], args := [d1, d2, d3, d4] }
  | _ => none }
def SoundRangesWrongFalsely : Prop := soundRangesRow.holds Tryz.pinned (OpenSpec.ofChange soundRangesWrong)

/-- 'gangsawlaw16.SoundLongest': WHATEVER THE INPUT: true; the input reads as it did. -/
def soundLongestSpec : ChangeSpec := { name := "soundLongest", fn := fun _ => fun
  | [d1, d2, d3, d4] => { results := [.lit (.bool true)], args := [d1, d2, d3, d4] }
  | _ => none }
def soundLongestRow : OpenClaim := { program := "ytogfagkjndoefaagreat", sum := "262dbeae545bc482ab777e8d783d671cbea14fc99d24ea86f1b7166fc2f362af", func := "gangsaw/gangsawlaw16.SoundLongest", spec := "soundLongest", unfollowed := true, recurses := true, apart := false }
def SoundLongestSaid : Prop := soundLongestRow.holds Tryz.pinned (OpenSpec.ofChange soundLongestSpec)

/-- ITS FALSE NEIGHBOUR: 'it returns false'. Refute it at one input. -/
def soundLongestWrong : ChangeSpec := { name := "soundLongest", fn := fun _ => fun
  | [d1, d2, d3, d4] => { results := [.lit (.bool false)], args := [d1, d2, d3, d4] }
  | _ => none }
def SoundLongestWrongFalsely : Prop := soundLongestRow.holds Tryz.pinned (OpenSpec.ofChange soundLongestWrong)

/-- 'gangsawlaw16.SoundParts': WHATEVER THE INPUT: true; the input reads as it did. -/
def soundPartsSpec : ChangeSpec := { name := "soundParts", fn := fun _ => fun
  | [d1, d2, d3] => { results := [.lit (.bool true)], args := [d1, d2, d3] }
  | _ => none }
def soundPartsRow : OpenClaim := { program := "ytogfagkjndoefaagreat", sum := "262dbeae545bc482ab777e8d783d671cbea14fc99d24ea86f1b7166fc2f362af", func := "gangsaw/gangsawlaw16.SoundParts", spec := "soundParts", unfollowed := true, recurses := true, apart := false }
def SoundPartsSaid : Prop := soundPartsRow.holds Tryz.pinned (OpenSpec.ofChange soundPartsSpec)

/-- ITS FALSE NEIGHBOUR: 'it returns false'. Refute it at one input. -/
def soundPartsWrong : ChangeSpec := { name := "soundParts", fn := fun _ => fun
  | [d1, d2, d3] => { results := [.lit (.bool false)], args := [d1, d2, d3] }
  | _ => none }
def SoundPartsWrongFalsely : Prop := soundPartsRow.holds Tryz.pinned (OpenSpec.ofChange soundPartsWrong)

/-- 'gangsawlaw16.SoundInside': WHATEVER THE INPUT: true; the input reads as it did. -/
def soundInsideSpec : ChangeSpec := { name := "soundInside", fn := fun _ => fun
  | [d1, d2, d3, d4] => { results := [.lit (.bool true)], args := [d1, d2, d3, d4] }
  | _ => none }
def soundInsideRow : OpenClaim := { program := "ytogfagkjndoefaagreat", sum := "262dbeae545bc482ab777e8d783d671cbea14fc99d24ea86f1b7166fc2f362af", func := "gangsaw/gangsawlaw16.SoundInside", spec := "soundInside", unfollowed := true, recurses := true, apart := false }
def SoundInsideSaid : Prop := soundInsideRow.holds Tryz.pinned (OpenSpec.ofChange soundInsideSpec)

/-- ITS FALSE NEIGHBOUR: 'it returns false'. Refute it at one input. -/
def soundInsideWrong : ChangeSpec := { name := "soundInside", fn := fun _ => fun
  | [d1, d2, d3, d4] => { results := [.lit (.bool false)], args := [d1, d2, d3, d4] }
  | _ => none }
def SoundInsideWrongFalsely : Prop := soundInsideRow.holds Tryz.pinned (OpenSpec.ofChange soundInsideWrong)

/-- 'gangsawlaw16.SoundGrows': WHATEVER THE INPUT: true; the input reads as it did. -/
def soundGrowsSpec : ChangeSpec := { name := "soundGrows", fn := fun _ => fun
  | [d1, d2, d3, d4] => { results := [.lit (.bool true)], args := [d1, d2, d3, d4] }
  | _ => none }
def soundGrowsRow : OpenClaim := { program := "ytogfagkjndoefaagreat", sum := "262dbeae545bc482ab777e8d783d671cbea14fc99d24ea86f1b7166fc2f362af", func := "gangsaw/gangsawlaw16.SoundGrows", spec := "soundGrows", unfollowed := true, recurses := true, apart := false }
def SoundGrowsSaid : Prop := soundGrowsRow.holds Tryz.pinned (OpenSpec.ofChange soundGrowsSpec)

/-- ITS FALSE NEIGHBOUR: 'it returns false'. Refute it at one input. -/
def soundGrowsWrong : ChangeSpec := { name := "soundGrows", fn := fun _ => fun
  | [d1, d2, d3, d4] => { results := [.lit (.bool false)], args := [d1, d2, d3, d4] }
  | _ => none }
def SoundGrowsWrongFalsely : Prop := soundGrowsRow.holds Tryz.pinned (OpenSpec.ofChange soundGrowsWrong)

/-- 'gangsawlaw16.SoundVerifies': WHATEVER THE INPUT: true; the input reads as it did. -/
def soundVerifiesSpec : ChangeSpec := { name := "soundVerifies", fn := fun _ => fun
  | [d1, d2, d3, d4] => { results := [.lit (.bool true)], args := [d1, d2, d3, d4] }
  | _ => none }
def soundVerifiesRow : OpenClaim := { program := "ytogfagkjndoefaagreat", sum := "262dbeae545bc482ab777e8d783d671cbea14fc99d24ea86f1b7166fc2f362af", func := "gangsaw/gangsawlaw16.SoundVerifies", spec := "soundVerifies", unfollowed := true, recurses := true, apart := false }
def SoundVerifiesSaid : Prop := soundVerifiesRow.holds Tryz.pinned (OpenSpec.ofChange soundVerifiesSpec)

/-- ITS FALSE NEIGHBOUR: 'it returns false'. Refute it at one input. -/
def soundVerifiesWrong : ChangeSpec := { name := "soundVerifies", fn := fun _ => fun
  | [d1, d2, d3, d4] => { results := [.lit (.bool false)], args := [d1, d2, d3, d4] }
  | _ => none }
def SoundVerifiesWrongFalsely : Prop := soundVerifiesRow.holds Tryz.pinned (OpenSpec.ofChange soundVerifiesWrong)

/-- 'gangsawlaw16.SoundWitness': WHATEVER THE INPUT: true; the input reads as it did. -/
def soundWitnessSpec : ChangeSpec := { name := "soundWitness", fn := fun _ => fun
  | [d1, d2, d3] => { results := [.lit (.bool true)], args := [d1, d2, d3] }
  | _ => none }
def soundWitnessRow : OpenClaim := { program := "ytogfagkjndoefaagreat", sum := "262dbeae545bc482ab777e8d783d671cbea14fc99d24ea86f1b7166fc2f362af", func := "gangsaw/gangsawlaw16.SoundWitness", spec := "soundWitness", unfollowed := true, recurses := true, apart := false }
def SoundWitnessSaid : Prop := soundWitnessRow.holds Tryz.pinned (OpenSpec.ofChange soundWitnessSpec)

/-- ITS FALSE NEIGHBOUR: 'it returns false'. Refute it at one input. -/
def soundWitnessWrong : ChangeSpec := { name := "soundWitness", fn := fun _ => fun
  | [d1, d2, d3] => { results := [.lit (.bool false)], args := [d1, d2, d3] }
  | _ => none }
def SoundWitnessWrongFalsely : Prop := soundWitnessRow.holds Tryz.pinned (OpenSpec.ofChange soundWitnessWrong)

/- THE SECOND FORM. 'bulk': how many values and letters a reading holds, each counted each time it is reached (what is shared counts as often as it is met; a slice's spare places count too). A statement '..UptoSaid' is the law's where the arguments, and the package variables that the reading takes, are together of bulk at most 1048576: NARROWER than '..Said'. Prove '..Said' where nothing that the law and all that it calls make is longer than what came in: it says more and counts as full. Else prove '..UptoSaid'. A law counts once. -/
mutual
def uptoBulk {H : Type} : DataW H → Nat
  | .lit (.string bytes) => bytes.length + 1
  | .lit _ => 1
  | .nil => 1
  | .ptr d => uptoBulk d + 1
  | .slice elems spare => uptoBulkAll elems + uptoBulkAll spare + 1
  | .agg parts => uptoBulkAll parts + 1
  | .iface _ d => uptoBulk d + 1
  | .map entries => uptoBulkEntries entries + 1
  | .held _ => 1
def uptoBulkAll {H : Type} : List (DataW H) → Nat
  | [] => 0
  | d :: r => uptoBulk d + uptoBulkAll r
def uptoBulkEntries {H : Type} : List (Lit × DataW H) → Nat
  | [] => 0
  | x :: r => uptoBulkEntry x + uptoBulkEntries r
def uptoBulkEntry {H : Type} : Lit × DataW H → Nat
  | (.string bytes, d) => bytes.length + uptoBulk d + 1
  | (_, d) => uptoBulk d + 1
 end
def uptoSmall : (H : Type) → List (DataW H) → Bool := fun _ ds => decide (uptoBulkAll ds ≤ 1048576)
def OpenSpec.upto (s : _root_.Go.ChangeSpec) : _root_.Go.OpenSpec := { _root_.Go.OpenSpec.ofChange s with cond := some uptoSmall }

/-- 'gangsawlaw16.SoundFinds', WHERE WHAT IT READS IS OF BULK AT MOST 1048576: true; the input reads as it did. -/
def soundFindsUptoRow : OpenClaim := { program := "ytogfagkjndoefaagreat", sum := "262dbeae545bc482ab777e8d783d671cbea14fc99d24ea86f1b7166fc2f362af", func := "gangsaw/gangsawlaw16.SoundFinds", spec := "soundFinds", unfollowed := true, recurses := true, apart := false, narrowed := true }
def SoundFindsUptoSaid : Prop := soundFindsUptoRow.holds Tryz.pinned (OpenSpec.upto soundFindsSpec)

/-- 'gangsawlaw16.SoundRanges', WHERE WHAT IT READS IS OF BULK AT MOST 1048576: true; the input reads as it did. -/
def soundRangesUptoRow : OpenClaim := { program := "ytogfagkjndoefaagreat", sum := "262dbeae545bc482ab777e8d783d671cbea14fc99d24ea86f1b7166fc2f362af", func := "gangsaw/gangsawlaw16.SoundRanges", spec := "soundRanges", unfollowed := true, recurses := true, apart := false, narrowed := true }
def SoundRangesUptoSaid : Prop := soundRangesUptoRow.holds Tryz.pinned (OpenSpec.upto soundRangesSpec)

/-- 'gangsawlaw16.SoundLongest', WHERE WHAT IT READS IS OF BULK AT MOST 1048576: true; the input reads as it did. -/
def soundLongestUptoRow : OpenClaim := { program := "ytogfagkjndoefaagreat", sum := "262dbeae545bc482ab777e8d783d671cbea14fc99d24ea86f1b7166fc2f362af", func := "gangsaw/gangsawlaw16.SoundLongest", spec := "soundLongest", unfollowed := true, recurses := true, apart := false, narrowed := true }
def SoundLongestUptoSaid : Prop := soundLongestUptoRow.holds Tryz.pinned (OpenSpec.upto soundLongestSpec)

/-- 'gangsawlaw16.SoundParts', WHERE WHAT IT READS IS OF BULK AT MOST 1048576: true; the input reads as it did. -/
def soundPartsUptoRow : OpenClaim := { program := "ytogfagkjndoefaagreat", sum := "262dbeae545bc482ab777e8d783d671cbea14fc99d24ea86f1b7166fc2f362af", func := "gangsaw/gangsawlaw16.SoundParts", spec := "soundParts", unfollowed := true, recurses := true, apart := false, narrowed := true }
def SoundPartsUptoSaid : Prop := soundPartsUptoRow.holds Tryz.pinned (OpenSpec.upto soundPartsSpec)

/-- 'gangsawlaw16.SoundInside', WHERE WHAT IT READS IS OF BULK AT MOST 1048576: true; the input reads as it did. -/
def soundInsideUptoRow : OpenClaim := { program := "ytogfagkjndoefaagreat", sum := "262dbeae545bc482ab777e8d783d671cbea14fc99d24ea86f1b7166fc2f362af", func := "gangsaw/gangsawlaw16.SoundInside", spec := "soundInside", unfollowed := true, recurses := true, apart := false, narrowed := true }
def SoundInsideUptoSaid : Prop := soundInsideUptoRow.holds Tryz.pinned (OpenSpec.upto soundInsideSpec)

/-- 'gangsawlaw16.SoundGrows', WHERE WHAT IT READS IS OF BULK AT MOST 1048576: true; the input reads as it did. -/
def soundGrowsUptoRow : OpenClaim := { program := "ytogfagkjndoefaagreat", sum := "262dbeae545bc482ab777e8d783d671cbea14fc99d24ea86f1b7166fc2f362af", func := "gangsaw/gangsawlaw16.SoundGrows", spec := "soundGrows", unfollowed := true, recurses := true, apart := false, narrowed := true }
def SoundGrowsUptoSaid : Prop := soundGrowsUptoRow.holds Tryz.pinned (OpenSpec.upto soundGrowsSpec)

/-- 'gangsawlaw16.SoundVerifies', WHERE WHAT IT READS IS OF BULK AT MOST 1048576: true; the input reads as it did. -/
def soundVerifiesUptoRow : OpenClaim := { program := "ytogfagkjndoefaagreat", sum := "262dbeae545bc482ab777e8d783d671cbea14fc99d24ea86f1b7166fc2f362af", func := "gangsaw/gangsawlaw16.SoundVerifies", spec := "soundVerifies", unfollowed := true, recurses := true, apart := false, narrowed := true }
def SoundVerifiesUptoSaid : Prop := soundVerifiesUptoRow.holds Tryz.pinned (OpenSpec.upto soundVerifiesSpec)

/-- 'gangsawlaw16.SoundWitness', WHERE WHAT IT READS IS OF BULK AT MOST 1048576: true; the input reads as it did. -/
def soundWitnessUptoRow : OpenClaim := { program := "ytogfagkjndoefaagreat", sum := "262dbeae545bc482ab777e8d783d671cbea14fc99d24ea86f1b7166fc2f362af", func := "gangsaw/gangsawlaw16.SoundWitness", spec := "soundWitness", unfollowed := true, recurses := true, apart := false, narrowed := true }
def SoundWitnessUptoSaid : Prop := soundWitnessUptoRow.holds Tryz.pinned (OpenSpec.upto soundWitnessSpec)

end Rows
end Go.Proofs.YtogfagkjndoefaaGreat
