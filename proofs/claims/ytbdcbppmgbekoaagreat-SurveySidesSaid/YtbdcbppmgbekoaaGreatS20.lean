/- Interval ends, reference; no conditions. -/
import Derived.Test.YtbdcbppmgbekoaaGreatS19
set_option linter.unusedVariables false
set_option linter.unusedSimpArgs false
set_option linter.unusedSectionVars false
set_option linter.defProp false
set_option linter.deprecated false
open Gs Go
namespace Tz
/-! gangsawref01. -/
def ivFarR (x : Int × Int) : Bool := decide (x.1 < -1000000000000) || decide (1000000000000 < x.1) || decide (x.2 < -1000000000000) || decide (1000000000000 < x.2)
theorem e_rIvOut (x : Int × Int) : L.call 133 [.agg [int x.1, int x.2]] [] = some (.bool (ivFarR x), []) :=
  call_eq rfl rfl (by simp only [↓eA, eB, reduceIte, Nat.reduceBEq, Int.reduceNeg, Int.reduceLT, Int.reduceLE, Int.reduceAdd, Int.reduceSub, Int.reduceMul, Int.reduceEq, Int.reduceToNat, Nat.reduceLT, Nat.reduceAdd, Nat.reduceMul, Nat.reduceSub, c133]; rfl)
theorem ivFarR_eq (x : Int × Int) : ivFarR x = ivFar x := by
  unfold ivFarR ivFar
  rw [Bool.eq_iff_iff]
  simp only [Bool.or_eq_true, decide_eq_true_eq, Bool.not_eq_true', Bool.and_eq_false_iff, decide_eq_false_iff_not]
  omega
theorem lp_a1 (nz : Bool) (l : List (Int × Int)) (hb : l.length < 4000000000) (e : Env) (H : Heap) (h0 : Gs.get e 0 = .fz nz 2 (l.map ivD)) (h3 : Gs.get e 3 = int 0) :
    Ends T 102002 e H (fun X e' H' => match l.any ivFarR with | true => X = .ret ∧ Gs.get e' 2 = int 6 | false => X = .ex 0 ∧ Gs.get e' 0 = .fz nz 2 (l.map ivD) ∧ H' = []) := by
  refine loop_anyH (T := T) (key := 102002) (li := l102002) rfl l ivFarR (fun i e H => Gs.get e 0 = .fz nz 2 (l.map ivD) ∧ Gs.get e 3 = int i) (fun X e' H' => X = .ret ∧ Gs.get e' 2 = int 6) (fun X e' H' => X = .ex 0 ∧ Gs.get e' 0 = .fz nz 2 (l.map ivD) ∧ H' = []) ?_ ?_ e H ⟨h0, h3⟩
  · rintro i x e H hx hi ⟨h0, h3⟩
    have hx' : (l.map ivD)[i]? = some (.agg [int x.1, int x.2]) := by simp [hx, ivD]
    simp only [↓eA, eB, reduceIte, Nat.reduceBEq, Int.reduceNeg, Int.reduceLT, Int.reduceLE, Int.reduceAdd, Int.reduceSub, Int.reduceMul, Int.reduceEq, Int.reduceToNat, Nat.reduceLT, Nat.reduceAdd, Nat.reduceMul, Nat.reduceSub, l102002, h0, h3, hi, hx', e_rIvOut, wrap_succ (show i < 4611686018427387904 by omega)]
    cases hc : ivFarR x <;> simp only [↓eA, eB, reduceIte, Nat.reduceBEq, Int.reduceNeg, Int.reduceLT, Int.reduceLE, Int.reduceAdd, Int.reduceSub, Int.reduceMul, Int.reduceEq, Int.reduceToNat, Nat.reduceLT, Nat.reduceAdd, Nat.reduceMul, Nat.reduceSub, hc] <;> and_intros <;> first | trivial | rfl
  · rintro e H ⟨h0, h3⟩
    simp only [↓eA, eB, reduceIte, Nat.reduceBEq, Int.reduceNeg, Int.reduceLT, Int.reduceLE, Int.reduceAdd, Int.reduceSub, Int.reduceMul, Int.reduceEq, Int.reduceToNat, Nat.reduceLT, Nat.reduceAdd, Nat.reduceMul, Nat.reduceSub, l102002, h0, h3, Nat.lt_irrefl]
    and_intros <;> first | trivial | rfl
theorem lp_a2 (nz : Bool) (l : List (Int × Int)) (hb : l.length < 4000000000) (e : Env) (H : Heap) (h0 : Gs.get e 0 = .fz nz 2 (l.map ivD)) (h3 : Gs.get e 4 = int 0) :
    Ends T 102007 e H (fun X e' H' => match l.any ivRev with | true => X = .ret ∧ Gs.get e' 2 = int 1 | false => X = .ex 2) := by
  refine loop_anyH (T := T) (key := 102007) (li := l102007) rfl l ivRev (fun i e H => Gs.get e 0 = .fz nz 2 (l.map ivD) ∧ Gs.get e 4 = int i) (fun X e' H' => X = .ret ∧ Gs.get e' 2 = int 1) (fun X e' H' => X = .ex 2) ?_ ?_ e H ⟨h0, h3⟩
  · rintro i x e H hx hi ⟨h0, h3⟩
    have hx' : (l.map ivD)[i]? = some (.agg [int x.1, int x.2]) := by simp [hx, ivD]
    simp only [↓eA, eB, reduceIte, Nat.reduceBEq, Int.reduceNeg, Int.reduceLT, Int.reduceLE, Int.reduceAdd, Int.reduceSub, Int.reduceMul, Int.reduceEq, Int.reduceToNat, Nat.reduceLT, Nat.reduceAdd, Nat.reduceMul, Nat.reduceSub, l102007, h0, h3, hi, hx', wrap_succ (show i < 4611686018427387904 by omega)]
    cases hc : ivRev x <;> simp only [ivRev] at hc <;> simp only [↓eA, eB, reduceIte, Nat.reduceBEq, Int.reduceNeg, Int.reduceLT, Int.reduceLE, Int.reduceAdd, Int.reduceSub, Int.reduceMul, Int.reduceEq, Int.reduceToNat, Nat.reduceLT, Nat.reduceAdd, Nat.reduceMul, Nat.reduceSub, hc] <;> and_intros <;> first | trivial | rfl
  · rintro e H ⟨h0, h3⟩
    simp only [↓eA, eB, reduceIte, Nat.reduceBEq, Int.reduceNeg, Int.reduceLT, Int.reduceLE, Int.reduceAdd, Int.reduceSub, Int.reduceMul, Int.reduceEq, Int.reduceToNat, Nat.reduceLT, Nat.reduceAdd, Nat.reduceMul, Nat.reduceSub, l102007, h0, h3, Nat.lt_irrefl]
    and_intros <;> first | trivial | rfl
theorem any_far (l : List (Int × Int)) : l.any ivFarR = l.any ivFar := by congr 1; funext x; exact ivFarR_eq x
theorem e_all (nz : Bool) (l : List (Int × Int)) (hb : l.length < 4000000000) : L.call 102 [.fz nz 2 (l.map ivD)] [] = some (int (ivErr l), []) :=
  call_eq rfl rfl (by
    unfold ivErr
    simp only [↓eA, eB, reduceIte, Nat.reduceBEq, Int.reduceNeg, Int.reduceLT, Int.reduceLE, Int.reduceAdd, Int.reduceSub, Int.reduceMul, Int.reduceEq, Int.reduceToNat, Nat.reduceLT, Nat.reduceAdd, Nat.reduceMul, Nat.reduceSub, c102]
    generalize hE : (lim T).loop 102002 _ _ = R
    obtain ⟨X, e', H', rfl, hP⟩ := Ends.at hE (lp_a1 nz l hb _ _ rfl rfl)
    rw [any_far] at hP
    cases hc : l.any ivFar with
    | true => rw [hc] at hP; obtain ⟨rfl, g⟩ := hP; simp only [↓eA, eB, reduceIte, Nat.reduceBEq, Int.reduceNeg, Int.reduceLT, Int.reduceLE, Int.reduceAdd, Int.reduceSub, Int.reduceMul, Int.reduceEq, Int.reduceToNat, Nat.reduceLT, Nat.reduceAdd, Nat.reduceMul, Nat.reduceSub, g]
    | false =>
      rw [hc] at hP; obtain ⟨rfl, g0, rfl⟩ := hP
      simp only [↓eA, eB, reduceIte, Nat.reduceBEq, Int.reduceNeg, Int.reduceLT, Int.reduceLE, Int.reduceAdd, Int.reduceSub, Int.reduceMul, Int.reduceEq, Int.reduceToNat, Nat.reduceLT, Nat.reduceAdd, Nat.reduceMul, Nat.reduceSub, g0]
      generalize hE : (lim T).loop 102007 _ _ = R
      obtain ⟨X, e', H', rfl, hP⟩ := Ends.at hE (lp_a2 nz l hb _ _ (by simp only [↓eA, eB, reduceIte, Nat.reduceBEq, Int.reduceNeg, Int.reduceLT, Int.reduceLE, Int.reduceAdd, Int.reduceSub, Int.reduceMul, Int.reduceEq, Int.reduceToNat, Nat.reduceLT, Nat.reduceAdd, Nat.reduceMul, Nat.reduceSub, g0]) (by simp only [↓eA, eB, reduceIte, Nat.reduceBEq, Int.reduceNeg, Int.reduceLT, Int.reduceLE, Int.reduceAdd, Int.reduceSub, Int.reduceMul, Int.reduceEq, Int.reduceToNat, Nat.reduceLT, Nat.reduceAdd, Nat.reduceMul, Nat.reduceSub]))
      cases hc : l.any ivRev with
      | true => rw [hc] at hP; obtain ⟨rfl, g⟩ := hP; simp only [↓eA, eB, reduceIte, Nat.reduceBEq, Int.reduceNeg, Int.reduceLT, Int.reduceLE, Int.reduceAdd, Int.reduceSub, Int.reduceMul, Int.reduceEq, Int.reduceToNat, Nat.reduceLT, Nat.reduceAdd, Nat.reduceMul, Nat.reduceSub, g]
      | false => rw [hc] at hP; subst hP; simp only [↓eA, eB, reduceIte, Nat.reduceBEq, Int.reduceNeg, Int.reduceLT, Int.reduceLE, Int.reduceAdd, Int.reduceSub, Int.reduceMul, Int.reduceEq, Int.reduceToNat, Nat.reduceLT, Nat.reduceAdd, Nat.reduceMul, Nat.reduceSub])
def listsErr (a b : List (Int × Int)) : Int := bif decide (10000 < (a.length : Int)) || decide (10000 < (b.length : Int)) then 7 else ivErr (a ++ b)
theorem e_rLists (n1 n2 : Bool) (a b : List (Int × Int)) (hb : a.length + b.length < 4000000000) : L.call 68 [.fz n1 2 (a.map ivD), .fz n2 2 (b.map ivD)] [] = some (int (listsErr a b), []) :=
  call_eq rfl rfl (by
    have h1 : fits (0 + a.length) 16 = true := by simp [fits]; omega
    have h2 : fits (a.length + b.length) 16 = true := by simp [fits]; omega
    have hm : List.map ivD a ++ List.map ivD b = List.map ivD (a ++ b) := by simp
    unfold listsErr
    have hal := e_all false (a ++ b) (by simp; omega)
    cases hc : (decide (10000 < (a.length : Int)) || decide (10000 < (b.length : Int))) with
    | true => simp only [↓eA, eB, reduceIte, Nat.reduceBEq, Int.reduceNeg, Int.reduceLT, Int.reduceLE, Int.reduceAdd, Int.reduceSub, Int.reduceMul, Int.reduceEq, Int.reduceToNat, Nat.reduceLT, Nat.reduceAdd, Nat.reduceMul, Nat.reduceSub, c68, hc]
    | false => simp only [↓eA, eB, reduceIte, Nat.reduceBEq, Int.reduceNeg, Int.reduceLT, Int.reduceLE, Int.reduceAdd, Int.reduceSub, Int.reduceMul, Int.reduceEq, Int.reduceToNat, Nat.reduceLT, Nat.reduceAdd, Nat.reduceMul, Nat.reduceSub, c68, hc, h1, h2, hm, hal])
/-! add. -/
def tw (l : List Int) (x : Int) : Nat := (l.takeWhile fun y => decide (y < x)).length
def addL (l : List Int) (x : Int) : List Int := if l[tw l x]? = some x then l else l.take (tw l x) ++ [x] ++ l.drop (tw l x)
abbrev ints (l : List Int) : List D := l.map int
theorem lp_ad (nz : Bool) (l : List Int) (x : Int) (hb : l.length < 4000000000) (e : Env) (H : Heap) (h0 : Gs.get e 0 = .fz nz 1 (ints l)) (h1 : Gs.get e 1 = int x) (h5 : Gs.get e 5 = int (0 : Nat)) :
    Ends T 134002 e H (fun X e' H' => X = .ex 0 ∧ Gs.get e' 0 = .fz nz 1 (ints l) ∧ Gs.get e' 1 = int x ∧ Gs.get e' 5 = int (tw l x) ∧ H' = []) := by
  refine (loop_thru (T := T) (key := 134002) (li := l134002) rfl (S := Nat) (R := Nat) (fun n y => bif decide (y < x) then .inr (n + 1) else .inl n) l (fun i n e H => n = i ∧ Gs.get e 0 = .fz nz 1 (ints l) ∧ Gs.get e 1 = int x ∧ Gs.get e 5 = int n) (fun n X e' H' => X = .ex 0 ∧ Gs.get e' 0 = .fz nz 1 (ints l) ∧ Gs.get e' 1 = int x ∧ Gs.get e' 5 = int n ∧ H' = []) (fun n X e' H' => X = .ex 0 ∧ Gs.get e' 0 = .fz nz 1 (ints l) ∧ Gs.get e' 1 = int x ∧ Gs.get e' 5 = int n ∧ H' = []) ?_ ?_ ?_ l [] 0 e H rfl ⟨rfl, h0, h1, h5⟩).mono ?_
  · rintro i y n n' e H hx ⟨rfl, h0, h1, h5⟩ hf
    have hi : n < l.length := (List.getElem?_eq_some_iff.1 hx).1
    have hx' : (ints l)[n]? = some (int y) := by simp [ints, hx]
    cases hc : decide (y < x) with
    | false => rw [hc] at hf; cases hf
    | true =>
      rw [hc] at hf; injection hf with hf; subst hf
      simp only [↓eA, eB, reduceIte, Nat.reduceBEq, Int.reduceNeg, Int.reduceLT, Int.reduceLE, Int.reduceAdd, Int.reduceSub, Int.reduceMul, Int.reduceEq, Int.reduceToNat, Nat.reduceLT, Nat.reduceAdd, Nat.reduceMul, Nat.reduceSub, l134002, h0, h1, h5, hi, hx', hc, wrap_succ (show n < 4611686018427387904 by omega)]
      and_intros <;> first | trivial | rfl
  · rintro i y n n' e H hx ⟨rfl, h0, h1, h5⟩ hf
    have hi : n < l.length := (List.getElem?_eq_some_iff.1 hx).1
    have hx' : (ints l)[n]? = some (int y) := by simp [ints, hx]
    cases hc : decide (y < x) with
    | true => rw [hc] at hf; cases hf
    | false =>
      rw [hc] at hf; injection hf with hf; subst hf
      simp only [↓eA, eB, reduceIte, Nat.reduceBEq, Int.reduceNeg, Int.reduceLT, Int.reduceLE, Int.reduceAdd, Int.reduceSub, Int.reduceMul, Int.reduceEq, Int.reduceToNat, Nat.reduceLT, Nat.reduceAdd, Nat.reduceMul, Nat.reduceSub, l134002, h0, h1, h5, hi, hx', hc]
      and_intros <;> first | trivial | rfl
  · rintro n e H ⟨rfl, h0, h1, h5⟩
    simp only [↓eA, eB, reduceIte, Nat.reduceBEq, Int.reduceNeg, Int.reduceLT, Int.reduceLE, Int.reduceAdd, Int.reduceSub, Int.reduceMul, Int.reduceEq, Int.reduceToNat, Nat.reduceLT, Nat.reduceAdd, Nat.reduceMul, Nat.reduceSub, l134002, h0, h1, h5, Nat.lt_irrefl]
    and_intros <;> first | trivial | rfl
  · intro X e' H' h
    have : ∀ (l : List Int) (s : Nat), thru (S := Nat) (R := Nat) (fun n y => bif decide (y < x) then .inr (n + 1) else .inl n) l s = .inl (s + tw l x) ∨ thru (S := Nat) (R := Nat) (fun n y => bif decide (y < x) then .inr (n + 1) else .inl n) l s = .inr (s + tw l x) := by
      intro l
      induction l with
      | nil => intro s; exact .inr rfl
      | cons y r ih =>
        intro s
        cases hc : decide (y < x) with
        | false => left; simp [thru, hc, tw, List.takeWhile]
        | true =>
          have h2 : s + tw (y :: r) x = s + 1 + tw r x := by simp [tw, List.takeWhile, hc]; omega
          rw [h2]
          simpa [thru, hc] using ih (s + 1)
    rcases this l 0 with h2 | h2 <;> rw [h2] at h <;> simpa using h
theorem tw_le (l : List Int) (x : Int) : tw l x ≤ l.length := (List.takeWhile_sublist _).length_le
theorem e_add (nz : Bool) (l : List Int) (x : Int) (hb : l.length < 4000000000) : ∃ nz', L.call 134 [.fz nz 1 (ints l), int x] [] = some (.fz nz' 1 (ints (addL l x)), []) := by
  have htl := tw_le l x
  have hinc : inc 0 (tw l x) = true := by simp [inc]
  have hcA : cut (ints l) 0 (tw l x) = ints (l.take (tw l x)) := by simp [cut, ints, List.map_take]
  have hcB : cut (ints l) (tw l x) (l.length - tw l x) = ints (l.drop (tw l x)) := by
    simp only [cut, ints, List.map_drop]
    rw [List.take_of_length_le (by simp)]
  have hAl : (l.take (tw l x)).length = tw l x := by simp; omega
  have hBl : (l.drop (tw l x)).length = l.length - tw l x := by simp
  have hlx : (ints (l.take (tw l x)) ++ [int x]).length = tw l x + 1 := by simp; omega
  have hf1 : fits (0 + tw l x) 8 = true := by simp [fits]; omega
  have hf2 : fits (tw l x + 1) 8 = true := by simp [fits]; omega
  have hf3 : fits (tw l x + 1 + (l.length - tw l x)) 8 = true := by simp [fits]; omega
  have hmm : ints (l.take (tw l x)) ++ [int x] ++ ints (l.drop (tw l x)) = ints (l.take (tw l x) ++ [x] ++ l.drop (tw l x)) := by simp [ints]
  generalize hE : (lim T).loop 134002 [(0, .fz nz 1 (ints l)), (1, int x), (4, .fz true 1 []), (5, .int .i64 0)] [] = R
  obtain ⟨X, e', H', rfl, rfl, g0, g1, g5, rfl⟩ := Ends.at hE (lp_ad nz l x hb _ _ rfl rfl rfl)
  by_cases hlt : tw l x < l.length
  · obtain ⟨y, hy⟩ : ∃ y, l[tw l x]? = some y := ⟨_, List.getElem?_eq_getElem hlt⟩
    have hx' : (ints l)[tw l x]? = some (int y) := by simp [ints, hy]
    cases hc : decide (y = x) with
    | true =>
      have hyx : y = x := of_decide_eq_true hc
      refine ⟨nz, call_eq rfl rfl ?_⟩
      have ha : addL l x = l := by unfold addL; rw [hy, hyx, if_pos rfl]
      rw [ha]
      simp only [↓eA, eB, reduceIte, Nat.reduceBEq, Int.reduceNeg, Int.reduceLT, Int.reduceLE, Int.reduceAdd, Int.reduceSub, Int.reduceMul, Int.reduceEq, Int.reduceToNat, Nat.reduceLT, Nat.reduceAdd, Nat.reduceMul, Nat.reduceSub, c134, hE, g0, g1, g5, get_wipeB, get_killE, killD, hlt, hx', hc]
    | false =>
      have hyx : ¬ y = x := of_decide_eq_false hc
      refine ⟨false, call_eq rfl rfl ?_⟩
      have ha : addL l x = l.take (tw l x) ++ [x] ++ l.drop (tw l x) := by unfold addL; rw [hy, if_neg (by simpa using hyx)]
      rw [ha]
      simp only [↓eA, eB, reduceIte, Nat.reduceBEq, Int.reduceNeg, Int.reduceLT, Int.reduceLE, Int.reduceAdd, Int.reduceSub, Int.reduceMul, Int.reduceEq, Int.reduceToNat, Nat.reduceLT, Nat.reduceAdd, Nat.reduceMul, Nat.reduceSub, c134, hE, g0, g1, g5, get_wipeB, get_killE, killD, hlt, hx', hc, htl, hinc, hcA, hcB, hf1, hf2, hf3, hlx, hAl, Nat.sub_zero, Nat.le_refl, hBl]
      rw [hmm]
  · refine ⟨false, call_eq rfl rfl ?_⟩
    have hte : tw l x = l.length := by omega
    have ha : addL l x = l.take (tw l x) ++ [x] ++ l.drop (tw l x) := by unfold addL; rw [hte, List.getElem?_eq_none (Nat.le_refl _), if_neg (by simp)]
    rw [ha]
    simp only [↓eA, eB, reduceIte, Nat.reduceBEq, Int.reduceNeg, Int.reduceLT, Int.reduceLE, Int.reduceAdd, Int.reduceSub, Int.reduceMul, Int.reduceEq, Int.reduceToNat, Nat.reduceLT, Nat.reduceAdd, Nat.reduceMul, Nat.reduceSub, c134, hE, g0, g1, g5, get_wipeB, get_killE, killD, hlt, htl, hinc, hcA, hcB, hf1, hf2, hf3, hlx, hAl, Nat.sub_zero, Nat.le_refl, hBl]
    rw [hmm]
end Tz
