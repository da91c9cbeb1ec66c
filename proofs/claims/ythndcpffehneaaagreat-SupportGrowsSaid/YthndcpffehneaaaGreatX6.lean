/- The comparison handed to slices.SortFunc; no conditions. -/
import Derived.Test.YthndcpffehneaaaGreatX5
set_option linter.unusedVariables false
set_option linter.unusedSimpArgs false
set_option linter.unusedSectionVars false
set_option linter.defProp false
set_option linter.deprecated false
namespace Go.Proofs
open Go.Shelf Go.RowKit Go.Lib Go.Sort
def Tryz.encIv (x : Int × Int) : List Value := [.int .i64 x.1, .int .i64 x.2]
theorem Tryz.ltLo (x y : Int × Int) : ltOf (fun x y : Int × Int => Lib.compareInt x.1 y.1) x y = decide (x.1 < y.1) := by
  unfold ltOf Lib.compareInt
  by_cases h1 : x.1 < y.1
  · simp [h1]
  · by_cases h2 : y.1 < x.1 <;> simp [h1, h2]
theorem Tryz.swoLo : SWO (ltOf fun x y : Int × Int => Lib.compareInt x.1 y.1) where
  irrefl x := by rw [Tryz.ltLo]; simp
  trans x y z h1 h2 := by rw [Tryz.ltLo] at *; simp at *; omega
  ntrans x y z h1 h2 := by rw [Tryz.ltLo] at *; simp at *; omega
set_option maxHeartbeats 1000000 in
theorem Tryz.closure206 (x y : Int × Int) (W : World) : Calls Tryz.prog 206 #[.agg #[.int .i64 x.1, .int .i64 x.2], .agg #[.int .i64 y.1, .int .i64 y.2]] W fun e w' => e = .returned (.int .i64 (Lib.compareInt x.1 y.1)) ∧ ∃ q os', w' = grow (W.drewN q) os' := by
  have hcon := fun W' => AnyG.cmp_Compare_int Tryz.cmpInt x.1 y.1 W'
  change ∀ W', Calls Tryz.prog 207 _ _ _ at hcon
  generalize Lib.compareInt x.1 y.1 = r at hcon ⊢
  go_enter Tryz.func206, Tryz.ntmps206
  go_wp2_with (go_at_call 207; refine (hcon _).mono ?_; rintro e w' ⟨rfl, rfl⟩)
  go_ret
  exact ⟨rfl, 0, _, by rw [alloc_eq_grow, alloc_eq_grow, grow_grow]; rfl⟩
theorem Tryz.cmpLays206 (blk off size : Nat) (w : World) : CmpLays Tryz.prog 206 #[] Tryz.encIv 2 (fun x y => Lib.compareInt x.1 y.1) blk off size w :=
  fun _ _ _ _ x y => Tryz.closure206 x y _
end Go.Proofs
