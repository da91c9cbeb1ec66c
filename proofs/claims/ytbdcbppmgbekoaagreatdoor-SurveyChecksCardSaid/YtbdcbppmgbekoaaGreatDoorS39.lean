/- Both lines are one; no conditions. -/
import Derived.Test.YtbdcbppmgbekoaaGreatDoorS38
import Derived.Test.YtbdcbppmgbekoaaGreatDoorS34
import Derived.Test.YtbdcbppmgbekoaaGreatDoorP3
import Derived.Test.YtbdcbppmgbekoaaGreatDoorS0A
set_option linter.unusedVariables false
set_option linter.unusedSimpArgs false
set_option linter.unusedSectionVars false
set_option linter.defProp false
set_option linter.deprecated false
open Gs Go
namespace Tz
theorem e_rLine (s : Survey) (hF : s.Fit) (hbb : ∀ f ∈ s.flaws, f.base.length < 1000000) (h0 : surveyErr s = 0) : L.call 14 [s.enc] [] = some (lineD s, []) :=
  call_eq rfl rfl (by
    have hok := survey_ok h0
    have hsz := hok.size
    simp only [sizeBad, Bool.or_eq_false_iff, decide_eq_false_iff_not] at hsz
    have hk3 : L.call 57 [.fz false 4 [(wd bPit).enc, (nu s.pit.x0).enc, (nu s.pit.y0).enc, (nu s.pit.z0).enc, (nu s.pit.x1).enc, (nu s.pit.y1).enc, (nu s.pit.z1).enc]] [] = some (.agg [.fz false 4 [(wd bPit).enc, (nu s.pit.x0).enc, (nu s.pit.y0).enc, (nu s.pit.z0).enc, (nu s.pit.x1).enc, (nu s.pit.y1).enc, (nu s.pit.z1).enc], .bool false, .fz true 4 [], int 0], []) := e_rline false (pitT s.pit)
    have hk4 := e_rline false (openT s)
    have hf1 : fits (0 + 1) 64 = true := fits_of (by omega)
    have hf2 : fits (0 + 1 + (0 + 1)) 64 = true := fits_of (by omega)
    simp only [↓eA, eB, reduceIte, Nat.reduceBEq, Int.reduceNeg, Int.reduceLT, Int.reduceLE, Int.reduceAdd, Int.reduceSub, Int.reduceMul, Int.reduceEq, Int.reduceToNat, Nat.reduceLT, Nat.reduceAdd, Nat.reduceMul, Nat.reduceSub, c14, hk3, e_rw, e_rn, hf1]
    generalize hE : (lim T).loop 14007 _ _ = R
    obtain ⟨X, e', H', rfl, rfl, ⟨g1, g2, g3, g5⟩, rfl⟩ := Ends.at hE (lp_rlOpen s (lfD (pitT s.pit)) _ _ ⟨⟨rfl, rfl, rfl⟩, rfl, rfl, rfl, rfl⟩ rfl rfl rfl rfl)
    have hcnt : decide ((1 : Int) < ((openT s).length : Int)) = decide (1 < (openT s).length) := by rw [decide_eq_decide]; omega
    cases ho : decide (1 < (openT s).length) with
    | true =>
      rw [ho] at hcnt
      have hod : openD s = [leaf (openT s)] := by unfold openD; rw [ho]; rfl
      simp only [↓eA, eB, reduceIte, Nat.reduceBEq, Int.reduceNeg, Int.reduceLT, Int.reduceLE, Int.reduceAdd, Int.reduceSub, Int.reduceMul, Int.reduceEq, Int.reduceToNat, Nat.reduceLT, Nat.reduceAdd, Nat.reduceMul, Nat.reduceSub, g1, g2, g3, g5, hcnt, hf2, hk4, get_killE, killD]
      generalize hE : (lim T).loop 14014 _ _ = R
      obtain ⟨X, e', H', rfl, rfl, ⟨g1, g2, g3⟩, rfl⟩ := Ends.at hE (lp_rlBed s hF [lfD (pitT s.pit), leaf (openT s)] (by simp) _ _ ⟨⟨by simp only [↓eA, eB, reduceIte, Nat.reduceBEq, Int.reduceNeg, Int.reduceLT, Int.reduceLE, Int.reduceAdd, Int.reduceSub, Int.reduceMul, Int.reduceEq, Int.reduceToNat, Nat.reduceLT, Nat.reduceAdd, Nat.reduceMul, Nat.reduceSub, g1, get_killE, killD], by simp only [↓eA, eB, reduceIte, Nat.reduceBEq, Int.reduceNeg, Int.reduceLT, Int.reduceLE, Int.reduceAdd, Int.reduceSub, Int.reduceMul, Int.reduceEq, Int.reduceToNat, Nat.reduceLT, Nat.reduceAdd, Nat.reduceMul, Nat.reduceSub, g2, get_killE, killD], by simp only [↓eA, eB, reduceIte, Nat.reduceBEq, Int.reduceNeg, Int.reduceLT, Int.reduceLE, Int.reduceAdd, Int.reduceSub, Int.reduceMul, Int.reduceEq, Int.reduceToNat, Nat.reduceLT, Nat.reduceAdd, Nat.reduceMul, Nat.reduceSub, g3, get_killE, killD]⟩, rfl, rfl, rfl, rfl⟩ (by simp only [↓eA, eB, reduceIte, Nat.reduceBEq, Int.reduceNeg, Int.reduceLT, Int.reduceLE, Int.reduceAdd, Int.reduceSub, Int.reduceMul, Int.reduceEq, Int.reduceToNat, Nat.reduceLT, Nat.reduceAdd, Nat.reduceMul, Nat.reduceSub]))
      simp only [↓eA, eB, reduceIte, Nat.reduceBEq, Int.reduceNeg, Int.reduceLT, Int.reduceLE, Int.reduceAdd, Int.reduceSub, Int.reduceMul, Int.reduceEq, Int.reduceToNat, Nat.reduceLT, Nat.reduceAdd, Nat.reduceMul, Nat.reduceSub, g1, g2, g3]
      generalize hE : (lim T).loop 14018 _ _ = R
      obtain ⟨X, e', H', rfl, rfl, ⟨g1, g2, g3⟩, rfl⟩ := Ends.at hE (lp_rlJoint s hF (axis_of hok) _ (by simp; omega) _ _ ⟨⟨by simp only [↓eA, eB, reduceIte, Nat.reduceBEq, Int.reduceNeg, Int.reduceLT, Int.reduceLE, Int.reduceAdd, Int.reduceSub, Int.reduceMul, Int.reduceEq, Int.reduceToNat, Nat.reduceLT, Nat.reduceAdd, Nat.reduceMul, Nat.reduceSub, g1], by simp only [↓eA, eB, reduceIte, Nat.reduceBEq, Int.reduceNeg, Int.reduceLT, Int.reduceLE, Int.reduceAdd, Int.reduceSub, Int.reduceMul, Int.reduceEq, Int.reduceToNat, Nat.reduceLT, Nat.reduceAdd, Nat.reduceMul, Nat.reduceSub, g2], by simp only [↓eA, eB, reduceIte, Nat.reduceBEq, Int.reduceNeg, Int.reduceLT, Int.reduceLE, Int.reduceAdd, Int.reduceSub, Int.reduceMul, Int.reduceEq, Int.reduceToNat, Nat.reduceLT, Nat.reduceAdd, Nat.reduceMul, Nat.reduceSub, g3]⟩, rfl, rfl, rfl, rfl⟩ (by simp only [↓eA, eB, reduceIte, Nat.reduceBEq, Int.reduceNeg, Int.reduceLT, Int.reduceLE, Int.reduceAdd, Int.reduceSub, Int.reduceMul, Int.reduceEq, Int.reduceToNat, Nat.reduceLT, Nat.reduceAdd, Nat.reduceMul, Nat.reduceSub]))
      simp only [↓eA, eB, reduceIte, Nat.reduceBEq, Int.reduceNeg, Int.reduceLT, Int.reduceLE, Int.reduceAdd, Int.reduceSub, Int.reduceMul, Int.reduceEq, Int.reduceToNat, Nat.reduceLT, Nat.reduceAdd, Nat.reduceMul, Nat.reduceSub, g1, g2, g3]
      generalize hE : (lim T).loop 14026 _ _ = R
      obtain ⟨X, e', H', rfl, rfl, ⟨g1, g2, g3⟩, rfl⟩ := Ends.at hE (lp_rlFlaw s hF hbb _ (by simp; omega) _ _ ⟨⟨by simp only [↓eA, eB, reduceIte, Nat.reduceBEq, Int.reduceNeg, Int.reduceLT, Int.reduceLE, Int.reduceAdd, Int.reduceSub, Int.reduceMul, Int.reduceEq, Int.reduceToNat, Nat.reduceLT, Nat.reduceAdd, Nat.reduceMul, Nat.reduceSub, g1], by simp only [↓eA, eB, reduceIte, Nat.reduceBEq, Int.reduceNeg, Int.reduceLT, Int.reduceLE, Int.reduceAdd, Int.reduceSub, Int.reduceMul, Int.reduceEq, Int.reduceToNat, Nat.reduceLT, Nat.reduceAdd, Nat.reduceMul, Nat.reduceSub, g2], by simp only [↓eA, eB, reduceIte, Nat.reduceBEq, Int.reduceNeg, Int.reduceLT, Int.reduceLE, Int.reduceAdd, Int.reduceSub, Int.reduceMul, Int.reduceEq, Int.reduceToNat, Nat.reduceLT, Nat.reduceAdd, Nat.reduceMul, Nat.reduceSub, g3]⟩, rfl, rfl, rfl, rfl⟩ (by simp only [↓eA, eB, reduceIte, Nat.reduceBEq, Int.reduceNeg, Int.reduceLT, Int.reduceLE, Int.reduceAdd, Int.reduceSub, Int.reduceMul, Int.reduceEq, Int.reduceToNat, Nat.reduceLT, Nat.reduceAdd, Nat.reduceMul, Nat.reduceSub]))
      have hkd : lineD s = .agg [.fz false 4 [(wd bSurvey).enc], .bool true, .fz true 4 ((([lfD (pitT s.pit), leaf (openT s)] ++ s.beds.map fun b => lfD (bedT b)) ++ s.joints.map fun j => lfD (jointT j)) ++ s.flaws.map flawD), int 0] := by
        unfold lineD kidsD; rw [hod]; rfl
      simp only [↓eA, eB, reduceIte, Nat.reduceBEq, Int.reduceNeg, Int.reduceLT, Int.reduceLE, Int.reduceAdd, Int.reduceSub, Int.reduceMul, Int.reduceEq, Int.reduceToNat, Nat.reduceLT, Nat.reduceAdd, Nat.reduceMul, Nat.reduceSub, g1, g2, g3, hkd]
      done
    | false =>
      rw [ho] at hcnt
      have hod : openD s = [] := by unfold openD; rw [ho]; rfl
      simp only [↓eA, eB, reduceIte, Nat.reduceBEq, Int.reduceNeg, Int.reduceLT, Int.reduceLE, Int.reduceAdd, Int.reduceSub, Int.reduceMul, Int.reduceEq, Int.reduceToNat, Nat.reduceLT, Nat.reduceAdd, Nat.reduceMul, Nat.reduceSub, g1, g2, g3, g5, hcnt]
      generalize hE : (lim T).loop 14014 _ _ = R
      obtain ⟨X, e', H', rfl, rfl, ⟨g1, g2, g3⟩, rfl⟩ := Ends.at hE (lp_rlBed s hF [lfD (pitT s.pit)] (by simp) _ _ ⟨⟨by simp only [↓eA, eB, reduceIte, Nat.reduceBEq, Int.reduceNeg, Int.reduceLT, Int.reduceLE, Int.reduceAdd, Int.reduceSub, Int.reduceMul, Int.reduceEq, Int.reduceToNat, Nat.reduceLT, Nat.reduceAdd, Nat.reduceMul, Nat.reduceSub, g1], by simp only [↓eA, eB, reduceIte, Nat.reduceBEq, Int.reduceNeg, Int.reduceLT, Int.reduceLE, Int.reduceAdd, Int.reduceSub, Int.reduceMul, Int.reduceEq, Int.reduceToNat, Nat.reduceLT, Nat.reduceAdd, Nat.reduceMul, Nat.reduceSub, g2], by simp only [↓eA, eB, reduceIte, Nat.reduceBEq, Int.reduceNeg, Int.reduceLT, Int.reduceLE, Int.reduceAdd, Int.reduceSub, Int.reduceMul, Int.reduceEq, Int.reduceToNat, Nat.reduceLT, Nat.reduceAdd, Nat.reduceMul, Nat.reduceSub, g3]⟩, rfl, rfl, rfl, rfl⟩ (by simp only [↓eA, eB, reduceIte, Nat.reduceBEq, Int.reduceNeg, Int.reduceLT, Int.reduceLE, Int.reduceAdd, Int.reduceSub, Int.reduceMul, Int.reduceEq, Int.reduceToNat, Nat.reduceLT, Nat.reduceAdd, Nat.reduceMul, Nat.reduceSub]))
      simp only [↓eA, eB, reduceIte, Nat.reduceBEq, Int.reduceNeg, Int.reduceLT, Int.reduceLE, Int.reduceAdd, Int.reduceSub, Int.reduceMul, Int.reduceEq, Int.reduceToNat, Nat.reduceLT, Nat.reduceAdd, Nat.reduceMul, Nat.reduceSub, g1, g2, g3]
      generalize hE : (lim T).loop 14018 _ _ = R
      obtain ⟨X, e', H', rfl, rfl, ⟨g1, g2, g3⟩, rfl⟩ := Ends.at hE (lp_rlJoint s hF (axis_of hok) _ (by simp; omega) _ _ ⟨⟨by simp only [↓eA, eB, reduceIte, Nat.reduceBEq, Int.reduceNeg, Int.reduceLT, Int.reduceLE, Int.reduceAdd, Int.reduceSub, Int.reduceMul, Int.reduceEq, Int.reduceToNat, Nat.reduceLT, Nat.reduceAdd, Nat.reduceMul, Nat.reduceSub, g1], by simp only [↓eA, eB, reduceIte, Nat.reduceBEq, Int.reduceNeg, Int.reduceLT, Int.reduceLE, Int.reduceAdd, Int.reduceSub, Int.reduceMul, Int.reduceEq, Int.reduceToNat, Nat.reduceLT, Nat.reduceAdd, Nat.reduceMul, Nat.reduceSub, g2], by simp only [↓eA, eB, reduceIte, Nat.reduceBEq, Int.reduceNeg, Int.reduceLT, Int.reduceLE, Int.reduceAdd, Int.reduceSub, Int.reduceMul, Int.reduceEq, Int.reduceToNat, Nat.reduceLT, Nat.reduceAdd, Nat.reduceMul, Nat.reduceSub, g3]⟩, rfl, rfl, rfl, rfl⟩ (by simp only [↓eA, eB, reduceIte, Nat.reduceBEq, Int.reduceNeg, Int.reduceLT, Int.reduceLE, Int.reduceAdd, Int.reduceSub, Int.reduceMul, Int.reduceEq, Int.reduceToNat, Nat.reduceLT, Nat.reduceAdd, Nat.reduceMul, Nat.reduceSub]))
      simp only [↓eA, eB, reduceIte, Nat.reduceBEq, Int.reduceNeg, Int.reduceLT, Int.reduceLE, Int.reduceAdd, Int.reduceSub, Int.reduceMul, Int.reduceEq, Int.reduceToNat, Nat.reduceLT, Nat.reduceAdd, Nat.reduceMul, Nat.reduceSub, g1, g2, g3]
      generalize hE : (lim T).loop 14026 _ _ = R
      obtain ⟨X, e', H', rfl, rfl, ⟨g1, g2, g3⟩, rfl⟩ := Ends.at hE (lp_rlFlaw s hF hbb _ (by simp; omega) _ _ ⟨⟨by simp only [↓eA, eB, reduceIte, Nat.reduceBEq, Int.reduceNeg, Int.reduceLT, Int.reduceLE, Int.reduceAdd, Int.reduceSub, Int.reduceMul, Int.reduceEq, Int.reduceToNat, Nat.reduceLT, Nat.reduceAdd, Nat.reduceMul, Nat.reduceSub, g1], by simp only [↓eA, eB, reduceIte, Nat.reduceBEq, Int.reduceNeg, Int.reduceLT, Int.reduceLE, Int.reduceAdd, Int.reduceSub, Int.reduceMul, Int.reduceEq, Int.reduceToNat, Nat.reduceLT, Nat.reduceAdd, Nat.reduceMul, Nat.reduceSub, g2], by simp only [↓eA, eB, reduceIte, Nat.reduceBEq, Int.reduceNeg, Int.reduceLT, Int.reduceLE, Int.reduceAdd, Int.reduceSub, Int.reduceMul, Int.reduceEq, Int.reduceToNat, Nat.reduceLT, Nat.reduceAdd, Nat.reduceMul, Nat.reduceSub, g3]⟩, rfl, rfl, rfl, rfl⟩ (by simp only [↓eA, eB, reduceIte, Nat.reduceBEq, Int.reduceNeg, Int.reduceLT, Int.reduceLE, Int.reduceAdd, Int.reduceSub, Int.reduceMul, Int.reduceEq, Int.reduceToNat, Nat.reduceLT, Nat.reduceAdd, Nat.reduceMul, Nat.reduceSub]))
      have hkd : lineD s = .agg [.fz false 4 [(wd bSurvey).enc], .bool true, .fz true 4 ((([lfD (pitT s.pit)] ++ s.beds.map fun b => lfD (bedT b)) ++ s.joints.map fun j => lfD (jointT j)) ++ s.flaws.map flawD), int 0] := by
        unfold lineD kidsD; rw [hod, List.append_nil]
      simp only [↓eA, eB, reduceIte, Nat.reduceBEq, Int.reduceNeg, Int.reduceLT, Int.reduceLE, Int.reduceAdd, Int.reduceSub, Int.reduceMul, Int.reduceEq, Int.reduceToNat, Nat.reduceLT, Nat.reduceAdd, Nat.reduceMul, Nat.reduceSub, g1, g2, g3, hkd]
      done)
theorem open_len (s : Survey) : (openT s).length ≤ 5 := by
  unfold openT sideL openG
  cases s.o0 <;> cases s.o1 <;> cases s.o2 <;> cases s.o3 <;> simp
theorem joint_len (j : Joint) : (jointT j).length < 4000000000 := by simp [jointT]
theorem same_line (s : Survey) (hok : SurveyOk s) (hbb : ∀ f ∈ s.flaws, f.base.length < 1000000) : SameD (lineD s) := by
  have hsz := hok.size
  simp only [sizeBad, Bool.or_eq_false_iff, decide_eq_false_iff_not] at hsz
  have hol : (openD s).length ≤ 1 := by unfold openD; cases decide (1 < (openT s).length) <;> simp
  refine e_sameD false true [wd bSurvey] true (kidsD s) 0 (by simp) (by unfold kidsD; simp; omega) fun k hk => ?_
  unfold kidsD at hk
  rcases List.mem_append.1 hk with hk | hk
  · rcases List.mem_append.1 hk with hk | hk
    · rcases List.mem_append.1 hk with hk | hk
      · rcases List.mem_append.1 hk with hk | hk
        · rw [List.mem_singleton] at hk; subst hk
          exact same_leaf _ (by simp [pitT])
        · unfold openD at hk
          cases ho : decide (1 < (openT s).length) with
          | false => rw [ho] at hk; simp at hk
          | true =>
            rw [ho] at hk
            simp only [cond_true, List.mem_singleton] at hk; subst hk
            exact same_leaf _ (by have := open_len s; omega)
      · obtain ⟨b, _, rfl⟩ := List.mem_map.1 hk
        exact same_leaf _ (by simp [bedT])
    · obtain ⟨b, _, rfl⟩ := List.mem_map.1 hk
      exact same_leaf _ (joint_len b)
  · obtain ⟨f, hf, rfl⟩ := List.mem_map.1 hk
    refine e_sameD false true (flawT f) true _ 0 (by simp [flawT]) (by have := hbb f hf; simp; omega) fun k hk => ?_
    obtain ⟨p, _, rfl⟩ := List.mem_map.1 hk
    exact same_leaf _ (by simp [cornerT])
theorem same_no : L.call 13 [noLine, noLine] [] = some (.bool true, []) := by
  obtain ⟨a, b, c, e, _, _, h⟩ := e_sameD true true [] false [] 0 (by simp) (by simp) (by simp)
  exact h
end Tz
