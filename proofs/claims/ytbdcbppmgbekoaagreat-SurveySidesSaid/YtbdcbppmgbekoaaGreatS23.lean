/- SurveySides of a small survey; no conditions. -/
import Derived.Test.YtbdcbppmgbekoaaGreatS22
import Derived.Test.YtbdcbppmgbekoaaGreatP3
import Derived.Test.YtbdcbppmgbekoaaGreatS0A
set_option linter.unusedVariables false
set_option linter.unusedSimpArgs false
set_option linter.unusedSectionVars false
set_option linter.defProp false
set_option linter.deprecated false
set_option maxHeartbeats 2000000
open Gs Go
namespace Tz
theorem e_awake : L.call 6 [] [] = some (.bool true, []) := lim_call.2 ⟨100, aw_run⟩
theorem e_sides (s : Survey) (hF : s.Fit) (b : Box) (d : Int) : L.call 3 [s.enc, b.enc, int d] [] = some (.bool true, []) := by
  have e1 := e_awake
  have e2 := e_small s hF.toFit0
  cases hsm : smallB s with
  | false => rw [hsm] at e2; exact call_eq rfl rfl (by simp only [↓eA, eB, reduceIte, Nat.reduceBEq, Int.reduceNeg, Int.reduceLT, Int.reduceLE, Int.reduceAdd, Int.reduceSub, Int.reduceMul, Int.reduceEq, Int.reduceToNat, Nat.reduceLT, Nat.reduceAdd, Nat.reduceMul, Nat.reduceSub, c3, e1, e2])
  | true =>
  rw [hsm] at e2
  have e3 := e_open s hF b d
  have e4 := e_jointed s hF b d
  have e5 := e_rCheck s hF
  have e6 := e_rBoxed s hF b
  rw [← check_eq] at e5
  rw [boxed_eq] at e6
  cases hc : decide (surveyErr s = 0) with
  | false =>
    have hc' := of_decide_eq_false hc
    have hse : sidedErr s b d = surveyErr s := by unfold sidedErr; rw [hc]; rfl
    have hn : decide (sidedErr s b d = 0) = false := by rw [hse]; exact hc
    rw [hn, Bool.false_and, hse] at e3
    unfold jointedR at e4
    rw [hn, hse] at e4
    simp only [cond_false, List.map_nil] at e4
    exact call_eq rfl rfl (by simp only [↓eA, eB, reduceIte, Nat.reduceBEq, Int.reduceNeg, Int.reduceLT, Int.reduceLE, Int.reduceAdd, Int.reduceSub, Int.reduceMul, Int.reduceEq, Int.reduceToNat, Nat.reduceLT, Nat.reduceAdd, Nat.reduceMul, Nat.reduceSub, c3, e1, e2, e3, e4, e5, hc])
  | true =>
  rw [of_decide_eq_true hc] at e5
  rw [hc] at e6
  simp only [Bool.not_true, cond_false] at e6
  cases hs : sideBad d with
  | true =>
    have hse : sidedErr s b d = 6 := by unfold sidedErr; rw [hc, hs]; rfl
    have hs' := hs; simp only [sideBad] at hs'
    rw [hse] at e3
    unfold jointedR at e4
    rw [hse] at e4
    have e3' : L.call 8 [s.enc, b.enc, int d] [] = some (.tup [.bool false, int 6], []) := e3
    have e4' : L.call 9 [s.enc, b.enc, int d] [] = some (.tup [.fz true 2 [], int 6], []) := e4
    exact call_eq rfl rfl (by simp only [↓eA, eB, reduceIte, Nat.reduceBEq, Int.reduceNeg, Int.reduceLT, Int.reduceLE, Int.reduceAdd, Int.reduceSub, Int.reduceMul, Int.reduceEq, Int.reduceToNat, Nat.reduceLT, Nat.reduceAdd, Nat.reduceMul, Nat.reduceSub, c3, e1, e2, e3', e4', e5, hs'])
  | false =>
  have hs' := hs; simp only [sideBad] at hs'
  have hse : sidedErr s b d = boxedErr s b := by unfold sidedErr; rw [hc, hs]; rfl
  cases hb : decide (boxedErr s b = 0) with
  | false =>
    have hn : decide (sidedErr s b d = 0) = false := by rw [hse]; exact hb
    rw [hn, Bool.false_and, hse] at e3
    unfold jointedR at e4
    rw [hn, hse] at e4
    simp only [cond_false, List.map_nil] at e4
    exact call_eq rfl rfl (by simp only [↓eA, eB, reduceIte, Nat.reduceBEq, Int.reduceNeg, Int.reduceLT, Int.reduceLE, Int.reduceAdd, Int.reduceSub, Int.reduceMul, Int.reduceEq, Int.reduceToNat, Nat.reduceLT, Nat.reduceAdd, Nat.reduceMul, Nat.reduceSub, c3, e1, e2, e3, e4, e5, e6, hs', hb])
  | true =>
  have hb0 := of_decide_eq_true hb
  have hok := survey_ok (of_decide_eq_true hc)
  have hJ := jb_of hok hb0
  have hsz := hok.size
  simp only [sizeBad, Bool.or_eq_false_iff, decide_eq_false_iff_not] at hsz
  obtain ⟨j1, j2, j3⟩ := jl_ok (d := d) hok hb0
  have hjl := jList_len s b (planeAx d) (planeAt b d)
  have e7 := e_rOpen s b d hs
  obtain ⟨z, e8⟩ := e_rJointed s hF (by omega) b d hs hJ
  rw [jointed_eq hok hb0] at e8
  have hml : (merged (pJointed s b d)).length < 4000000000 := by
    have : ∀ (l acc : List (Int × Int)), (l.foldl mstep acc).length ≤ acc.length + l.length := by
      intro l
      induction l with
      | nil => intro acc; simp
      | cons x r ih => intro acc; have := ih (mstep acc x); have := mstep_len (acc := acc) (x := x); simp only [List.foldl_cons, List.length_cons]; omega
    have h1 := this (sortIv (pJointed s b d)) []
    have h2 := (sortIv_all (pJointed s b d)).1.length_eq
    unfold merged pJointed at *
    simp only [List.length_nil] at h1
    omega
  have e9 := e_same true z (merged (pJointed s b d)) (merged (pJointed s b d)) hml
  have hn : sidedErr s b d = 0 := by rw [hse]; exact hb0
  rw [hn] at e3
  unfold jointedR at e4
  rw [hn, j1] at e4
  rw [hb0] at e6
  have e3' : L.call 8 [s.enc, b.enc, int d] [] = some (.tup [.bool (openB s b d), int 0], []) := e3
  have e4' : L.call 9 [s.enc, b.enc, int d] [] = some (.tup [.fz true 2 ((merged (pJointed s b d)).map ivD), int 0], []) := e4
  have hdd : decide (merged (pJointed s b d) = merged (pJointed s b d)) = true := by simp
  rw [hdd] at e9
  exact call_eq rfl rfl (by simp only [↓eA, eB, reduceIte, Nat.reduceBEq, Int.reduceNeg, Int.reduceLT, Int.reduceLE, Int.reduceAdd, Int.reduceSub, Int.reduceMul, Int.reduceEq, Int.reduceToNat, Nat.reduceLT, Nat.reduceAdd, Nat.reduceMul, Nat.reduceSub, c3, e1, e2, e3', e4', e5, e6, hs', e7, e8, e9]; simp)
end Tz
