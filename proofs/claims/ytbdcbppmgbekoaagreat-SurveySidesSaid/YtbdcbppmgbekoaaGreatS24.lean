/- SurveySides of every survey; no conditions. -/
import Derived.Test.YtbdcbppmgbekoaaGreatS23
set_option linter.unusedVariables false
set_option linter.unusedSimpArgs false
set_option linter.unusedSectionVars false
set_option linter.defProp false
set_option linter.deprecated false
open Gs Go
namespace Tz
def sizeOver (s : Survey) : Bool := decide (70 < (s.beds.length : Int)) || decide (140 < (s.joints.length : Int)) || decide (70 < (s.flaws.length : Int))
theorem e_small_over (s : Survey) (h : sizeOver s = true) : L.call 7 [s.enc] [] = some (.bool false, []) :=
  call_eq rfl rfl (by
    have h' := h
    simp only [sizeOver] at h'
    simp only [↓eA, eB, reduceIte, Nat.reduceBEq, Int.reduceNeg, Int.reduceLT, Int.reduceLE, Int.reduceAdd, Int.reduceSub, Int.reduceMul, Int.reduceEq, Int.reduceToNat, Nat.reduceLT, Nat.reduceAdd, Nat.reduceMul, Nat.reduceSub, c7, h']
    skip)
theorem small_fit {s : Survey} (h0 : sizeOver s = false) (h : smallB s = true) : s.Fit := by
  simp only [sizeOver, Bool.or_eq_false_iff, decide_eq_false_iff_not] at h0
  unfold smallB at h
  simp only [Bool.and_eq_true, Bool.not_eq_true'] at h
  obtain ⟨_, h1, h2⟩ := h
  refine ⟨⟨by omega, by omega, by omega⟩, fun f hf => ?_, fun n hn => ?_⟩
  · have := List.any_eq_false.1 h1 f hf
    simp only [smallF, decide_eq_true_eq] at this
    omega
  · have := List.any_eq_false.1 h2 n hn
    simp only [decide_eq_true_eq] at this
    omega
theorem e_sides_out (s : Survey) (b : Box) (d : Int) (e2 : L.call 7 [s.enc] [] = some (.bool false, [])) : L.call 3 [s.enc, b.enc, int d] [] = some (.bool true, []) := by
  have e1 := e_awake
  exact call_eq rfl rfl (by simp only [↓eA, eB, reduceIte, Nat.reduceBEq, Int.reduceNeg, Int.reduceLT, Int.reduceLE, Int.reduceAdd, Int.reduceSub, Int.reduceMul, Int.reduceEq, Int.reduceToNat, Nat.reduceLT, Nat.reduceAdd, Nat.reduceMul, Nat.reduceSub, c3, e1, e2])
/-- SurveySides, whatever comes in. -/
theorem e_sides_all (s : Survey) (b : Box) (d : Int) : L.call 3 [s.enc, b.enc, int d] [] = some (.bool true, []) := by
  cases h0 : sizeOver s with
  | true => exact e_sides_out s b d (e_small_over s h0)
  | false =>
    cases hs : smallB s with
    | true => exact e_sides s (small_fit h0 hs) b d
    | false =>
      have h1 := h0
      simp only [sizeOver, Bool.or_eq_false_iff, decide_eq_false_iff_not] at h1
      have e2 := e_small s ⟨by omega, by omega, by omega⟩
      rw [hs] at e2
      exact e_sides_out s b d e2
end Tz
