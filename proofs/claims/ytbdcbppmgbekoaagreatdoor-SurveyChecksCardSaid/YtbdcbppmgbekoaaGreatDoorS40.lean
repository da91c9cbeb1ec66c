/- SurveyChecks of every two surveys; no conditions. -/
import Derived.Test.YtbdcbppmgbekoaaGreatDoorS39
set_option linter.unusedVariables false
set_option linter.unusedSimpArgs false
set_option linter.unusedSectionVars false
set_option linter.defProp false
set_option linter.deprecated false
open Gs Go
namespace Tz
def sizeOver (s : Survey) : Bool := decide (70 < (s.beds.length : Int)) || decide (140 < (s.joints.length : Int)) || decide (70 < (s.flaws.length : Int))
theorem e_small_over (s : Survey) (h : sizeOver s = true) : L.call 7 [s.enc] [] = some (.bool false, []) :=
  call_eq rfl rfl (by
    have h' := h
    simp only [sizeOver] at h'
    simp only [↓eA, eB, reduceIte, Nat.reduceBEq, Int.reduceNeg, Int.reduceLT, Int.reduceLE, Int.reduceAdd, Int.reduceSub, Int.reduceMul, Int.reduceEq, Int.reduceToNat, Nat.reduceLT, Nat.reduceAdd, Nat.reduceMul, Nat.reduceSub, c7, h'])
theorem small_fit {s : Survey} (h0 : sizeOver s = false) (h : smallB s = true) : s.Fit ∧ ∀ f ∈ s.flaws, f.base.length < 1000000 := by
  simp only [sizeOver, Bool.or_eq_false_iff, decide_eq_false_iff_not] at h0
  unfold smallB at h
  simp only [Bool.and_eq_true, Bool.not_eq_true'] at h
  obtain ⟨_, h1, h2⟩ := h
  have hbb : ∀ f ∈ s.flaws, f.base.length ≤ 10 := fun f hf => by
    have := List.any_eq_false.1 h1 f hf
    simp only [smallF, decide_eq_true_eq] at this
    omega
  refine ⟨⟨⟨by omega, by omega, by omega⟩, fun f hf => ?_, fun n hn => ?_⟩, fun f hf => ?_⟩
  · have := hbb f hf; omega
  · have := List.any_eq_false.1 h2 n hn
    simp only [decide_eq_true_eq] at this
    omega
  · have := hbb f hf; omega
/-- Small, whatever comes in. -/
theorem e_smallAll (s : Survey) : L.call 7 [s.enc] [] = some (.bool (!sizeOver s && smallB s), []) := by
  cases h0 : sizeOver s with
  | true => exact e_small_over s h0
  | false =>
    have h1 := h0
    simp only [sizeOver, Bool.or_eq_false_iff, decide_eq_false_iff_not] at h1
    exact e_small s ⟨by omega, by omega, by omega⟩
theorem smallAll_fit {s : Survey} (h : (!sizeOver s && smallB s) = true) : s.Fit ∧ ∀ f ∈ s.flaws, f.base.length < 1000000 := by
  simp only [Bool.and_eq_true, Bool.not_eq_true'] at h
  exact small_fit h.1 h.2
theorem e_checks (s t : Survey) : L.call 3 [s.enc, t.enc] [] = some (.bool true, []) :=
  call_eq rfl rfl (by
    have ea : L.call 6 [] [] = some (.bool true, []) := lim_call.2 ⟨100, aw_run⟩
    have es := e_smallAll s
    have et := e_smallAll t
    cases hs : (!sizeOver s && smallB s) with
    | false => rw [hs] at es; simp only [↓eA, eB, reduceIte, Nat.reduceBEq, Int.reduceNeg, Int.reduceLT, Int.reduceLE, Int.reduceAdd, Int.reduceSub, Int.reduceMul, Int.reduceEq, Int.reduceToNat, Nat.reduceLT, Nat.reduceAdd, Nat.reduceMul, Nat.reduceSub, c3, ea, es]
    | true =>
    rw [hs] at es
    cases ht : (!sizeOver t && smallB t) with
    | false => rw [ht] at et; simp only [↓eA, eB, reduceIte, Nat.reduceBEq, Int.reduceNeg, Int.reduceLT, Int.reduceLE, Int.reduceAdd, Int.reduceSub, Int.reduceMul, Int.reduceEq, Int.reduceToNat, Nat.reduceLT, Nat.reduceAdd, Nat.reduceMul, Nat.reduceSub, c3, ea, es, et]
    | true =>
    rw [ht] at et
    obtain ⟨hF, hbb⟩ := smallAll_fit hs
    obtain ⟨hG, _⟩ := smallAll_fit ht
    have k1 := e_rCheck s hF
    rw [← check_eq] at k1
    have k2 := e_pCheck s hF
    have k3 := e_equal s t hF hG
    have k4 := e_rEqual s t hF hG
    have k5 := e_equal s s hF hF
    rw [surveyEq_self] at k5
    have k6 := e_line s hF hbb
    cases hc : decide (surveyErr s = 0) with
    | false =>
      rw [hc] at k6
      have k7 := same_no
      simp only [cond_false] at k6
      simp only [↓eA, eB, reduceIte, Nat.reduceBEq, Int.reduceNeg, Int.reduceLT, Int.reduceLE, Int.reduceAdd, Int.reduceSub, Int.reduceMul, Int.reduceEq, Int.reduceToNat, Nat.reduceLT, Nat.reduceAdd, Nat.reduceMul, Nat.reduceSub, c3, ea, es, et, k1, k2, k3, k4, k5, k6, k7, hc, decide_true, beq_self_eq_true]
    | true =>
      rw [hc] at k6
      have h0 := of_decide_eq_true hc
      obtain ⟨_, _, _, _, _, _, k7⟩ := same_line s (survey_ok h0) hbb
      have k8 := e_rLine s hF hbb h0
      have hld : lineD s = .agg [.fz false 4 [(wd bSurvey).enc], .bool true, .fz true 4 (kidsD s), int 0] := rfl
      simp only [cond_true] at k6
      rw [hld] at k6 k7 k8
      simp only [↓eA, eB, reduceIte, Nat.reduceBEq, Int.reduceNeg, Int.reduceLT, Int.reduceLE, Int.reduceAdd, Int.reduceSub, Int.reduceMul, Int.reduceEq, Int.reduceToNat, Nat.reduceLT, Nat.reduceAdd, Nat.reduceMul, Nat.reduceSub, c3, ea, es, et, k1, k2, k3, k4, k5, k6, k7, k8, hc, decide_true, beq_self_eq_true])
end Tz
