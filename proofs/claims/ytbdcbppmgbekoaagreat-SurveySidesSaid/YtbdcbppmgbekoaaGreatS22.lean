/- Set and Same, reference; no conditions. -/
import Derived.Test.YtbdcbppmgbekoaaGreatS21
set_option linter.unusedVariables false
set_option linter.unusedSimpArgs false
set_option linter.unusedSectionVars false
set_option linter.defProp false
set_option linter.deprecated false
set_option maxHeartbeats 2000000
open Gs Go
namespace Tz
def formL (op : Int) (a b : List (Int × Int)) : List (Int × Int) := (List.range ((endsL (a ++ b)).length - 1)).foldl (fstep op a b (endsL (a ++ b))) []
theorem wrap_in1 {n : Int} (h : -1000000000002 ≤ n) (h' : n ≤ 1000000000002) : IntKind.i64.wrap n = n := wrap_in (by omega) (by omega)
theorem lp_fo (op : Int) (n1 n2 z : Bool) (a b : List (Int × Int)) (ha : a.length < 4000000000) (hb : b.length < 4000000000) (es : List Int) (hes : es.length < 4000000000) (hein : ∀ y ∈ es, -1000000000000 ≤ y ∧ y ≤ 1000000000001) (e : Env) (H : Heap) (h0 : Gs.get e 0 = .fz n1 2 (a.map ivD)) (h1 : Gs.get e 1 = .fz n2 2 (b.map ivD)) (h2 : Gs.get e 2 = int op) (h7 : Gs.get e 7 = .fz z 1 (ints es)) (h8 : Gs.get e 8 = .ow 1008) (h9 : Gs.get e 9 = int 0) (hH : hget H 1008 = some (.row false 2 [] 0 true)) :
    Ends T 69004 e H (fun X e' H' => X = .ex 0 ∧ Gs.get e' 8 = .ow 1008 ∧ hget H' 1008 = some (.row false 2 (((List.range (es.length - 1)).foldl (fstep op a b es) []).map ivD) 0 true)) := by
  refine loop_fold (T := T) (key := 69004) (li := l69004) rfl (List.range (es.length - 1)) (fstep op a b es) (fun i acc e H => acc.length ≤ i ∧ (∀ q ∈ acc, hiB q) ∧ Gs.get e 0 = .fz n1 2 (a.map ivD) ∧ Gs.get e 1 = .fz n2 2 (b.map ivD) ∧ Gs.get e 2 = int op ∧ Gs.get e 7 = .fz z 1 (ints es) ∧ Gs.get e 8 = .ow 1008 ∧ Gs.get e 9 = int i ∧ hget H 1008 = some (.row false 2 (acc.map ivD) 0 true)) (fun acc X e' H' => X = .ex 0 ∧ Gs.get e' 8 = .ow 1008 ∧ hget H' 1008 = some (.row false 2 (acc.map ivD) 0 true)) ?_ ?_ [] e H ⟨Nat.le_refl _, by simp, h0, h1, h2, h7, h8, h9, hH⟩
  · rintro i k acc e H hx hi' ⟨hal, hain, h0, h1, h2, h7, h8, h9, hH⟩
    have hi : i < es.length - 1 := by simpa using hi'
    rw [List.getElem?_range hi] at hx; injection hx with hx; subst hx
    have hi1 : i < es.length := by omega
    have hi2 : i + 1 < es.length := by omega
    have m1 := hein _ (at0_mem hi1); have m2 := hein _ (at0_mem hi2)
    have hA := e_rIn n1 a (at0 es i) ha
    have hB := e_rIn n2 b (at0 es i) hb
    have hws := wrap_succ (show i < 4611686018427387904 by omega)
    have hwn : IntKind.i64.wrap (at0 es (i + 1) - 1) = at0 es (i + 1) - 1 := wrap_in1 (by omega) (by omega)
    have hst : fstep op a b es acc i = bif skipO op (a.any (hasIv (at0 es i))) (b.any (hasIv (at0 es i))) then acc else fput acc (at0 es i) (at0 es (i + 1)) := rfl
    rw [hst]
    have hpl := fput_len acc (at0 es i) (at0 es (i + 1))
    have hpi := fput_in (acc := acc) (lo := at0 es i) hain m2.1 m2.2
    cases hs : skipO op (a.any (hasIv (at0 es i))) (b.any (hasIv (at0 es i))) with
    | true =>
      have hs' := hs; simp only [skipO] at hs'
      simp only [↓eA, eB, reduceIte, Nat.reduceBEq, Int.reduceNeg, Int.reduceLT, Int.reduceLE, Int.reduceAdd, Int.reduceSub, Int.reduceMul, Int.reduceEq, Int.reduceToNat, Nat.reduceLT, Nat.reduceAdd, Nat.reduceMul, Nat.reduceSub, l69004, h0, h1, h2, h7, h8, h9, hH, hws, hi1, hi2, at0_get hi1, at0_get hi2, hA, hB, hs']
      refine ⟨trivial, by omega, hain, ?_⟩
      and_intros <;> first | trivial | rfl
    | false =>
      have hs' := hs; simp only [skipO] at hs'
      cases hl : acc.getLast? with
      | none =>
        have hac : acc = [] := by simpa using hl
        subst hac
        have hfp : fput [] (at0 es i) (at0 es (i + 1)) = [(at0 es i, at0 es (i + 1) - 1)] := rfl
        simp only [↓eA, eB, reduceIte, Nat.reduceBEq, Int.reduceNeg, Int.reduceLT, Int.reduceLE, Int.reduceAdd, Int.reduceSub, Int.reduceMul, Int.reduceEq, Int.reduceToNat, Nat.reduceLT, Nat.reduceAdd, Nat.reduceMul, Nat.reduceSub, l69004, h0, h1, h2, h7, h8, h9, hH, hws, hi1, hi2, at0_get hi1, at0_get hi2, hA, hB, hs', hwn, show fits 1 16 = true from rfl]
        refine ⟨trivial, by omega, hpi, ?_⟩
        and_intros <;> first | trivial | rfl
      | some p =>
        obtain ⟨pre, rfl⟩ : ∃ pre, acc = pre ++ [p] := List.getLast?_eq_some_iff.1 hl
        have hpin := hain p (by simp)
        obtain ⟨hp1, hp2⟩ := hpin
        have hlen : (pre ++ [p]).length = pre.length + 1 := by simp
        have hg : (List.map ivD (pre ++ [p]))[pre.length]? = some (.agg [int p.1, int p.2]) := by simp [ivD]
        have hw : IntKind.i64.wrap (p.2 + 1) = p.2 + 1 := wrap_in1 (by omega) (by omega)
        have hgt : decide ((0 : Int) < ((pre.length + 1 : Nat) : Int)) = true := by rw [decide_eq_true_eq]; omega
        have hlt : pre.length < pre.length + 1 := by omega
        have hwp := wrap_pred (show 0 < pre.length + 1 by omega) (show pre.length + 1 < 4611686018427387904 by omega)
        rw [Nat.add_sub_cancel] at hwp
        cases hc : decide (p.2 + 1 = at0 es i) with
        | true =>
          have hms : fput (pre ++ [p]) (at0 es i) (at0 es (i + 1)) = pre ++ [(p.1, at0 es (i + 1) - 1)] := by simp [fput, hc]
          have hset : List.set (List.map ivD (pre ++ [p])) pre.length (.agg [int p.1, int (at0 es (i + 1) - 1)]) = List.map ivD (fput (pre ++ [p]) (at0 es i) (at0 es (i + 1))) := by
            rw [hms]; simp [ivD]
          simp only [↓eA, eB, reduceIte, Nat.reduceBEq, Int.reduceNeg, Int.reduceLT, Int.reduceLE, Int.reduceAdd, Int.reduceSub, Int.reduceMul, Int.reduceEq, Int.reduceToNat, Nat.reduceLT, Nat.reduceAdd, Nat.reduceMul, Nat.reduceSub, l69004, h0, h1, h2, h7, h8, h9, hH, hws, hi1, hi2, at0_get hi1, at0_get hi2, hA, hB, hs', hwn, hlen, hg, hw, hgt, hlt, hwp, hc, hset, Nat.zero_le]
          refine ⟨trivial, by omega, hpi, ?_⟩
          and_intros <;> first | trivial | rfl
        | false =>
          have hms : fput (pre ++ [p]) (at0 es i) (at0 es (i + 1)) = pre ++ [p] ++ [(at0 es i, at0 es (i + 1) - 1)] := by simp [fput, hc]
          have hmp : List.map ivD (pre ++ [p]) ++ [.agg [int (at0 es i), int (at0 es (i + 1) - 1)]] = List.map ivD (fput (pre ++ [p]) (at0 es i) (at0 es (i + 1))) := by rw [hms]; simp [ivD]
          have hfit : fits (pre.length + 1 + 1) 16 = true := by simp [fits]; omega
          simp only [↓eA, eB, reduceIte, Nat.reduceBEq, Int.reduceNeg, Int.reduceLT, Int.reduceLE, Int.reduceAdd, Int.reduceSub, Int.reduceMul, Int.reduceEq, Int.reduceToNat, Nat.reduceLT, Nat.reduceAdd, Nat.reduceMul, Nat.reduceSub, l69004, h0, h1, h2, h7, h8, h9, hH, hws, hi1, hi2, at0_get hi1, at0_get hi2, hA, hB, hs', hwn, hlen, hg, hw, hgt, hlt, hwp, hc, hfit, hmp, Nat.zero_le]
          refine ⟨trivial, by omega, hpi, ?_⟩
          and_intros <;> first | trivial | rfl
  · rintro acc e H ⟨hal, hain, h0, h1, h2, h7, h8, h9, hH⟩
    rw [List.length_range] at h9 hal
    by_cases hz : es.length = 0
    · have hn : ¬ (es.length - 1 + 1 < es.length) := by omega
      have hws := wrap_succ (show es.length - 1 < 4611686018427387904 by omega)
      simp only [↓eA, eB, reduceIte, Nat.reduceBEq, Int.reduceNeg, Int.reduceLT, Int.reduceLE, Int.reduceAdd, Int.reduceSub, Int.reduceMul, Int.reduceEq, Int.reduceToNat, Nat.reduceLT, Nat.reduceAdd, Nat.reduceMul, Nat.reduceSub, l69004, h0, h1, h2, h7, h8, h9, hH, hws, hn]
      and_intros <;> first | trivial | rfl
    · have hn : ¬ (es.length - 1 + 1 < es.length) := by omega
      have hws := wrap_succ (show es.length - 1 < 4611686018427387904 by omega)
      simp only [↓eA, eB, reduceIte, Nat.reduceBEq, Int.reduceNeg, Int.reduceLT, Int.reduceLE, Int.reduceAdd, Int.reduceSub, Int.reduceMul, Int.reduceEq, Int.reduceToNat, Nat.reduceLT, Nat.reduceAdd, Nat.reduceMul, Nat.reduceSub, l69004, h0, h1, h2, h7, h8, h9, hH, hws, hn]
      and_intros <;> first | trivial | rfl
theorem endsL_all (l : List (Int × Int)) (hin : ∀ p ∈ l, inB p) : (∀ y ∈ endsL l, -1000000000000 ≤ y ∧ y ≤ 1000000000001) ∧ (endsL l).length ≤ 2 * l.length := by
  have : ∀ (l : List (Int × Int)) (acc : List Int), (∀ p ∈ l, inB p) → (∀ y ∈ acc, -1000000000000 ≤ y ∧ y ≤ 1000000000001) → (∀ y ∈ l.foldl estep acc, -1000000000000 ≤ y ∧ y ≤ 1000000000001) ∧ (l.foldl estep acc).length ≤ acc.length + 2 * l.length := by
    intro l
    induction l with
    | nil => intro acc _ h; exact ⟨h, by simp⟩
    | cons x r ih =>
      intro acc hp h
      have hx := hp x (by simp)
      obtain ⟨h1, h2, h3, h4⟩ := hx
      have h5 : ∀ y ∈ estep acc x, -1000000000000 ≤ y ∧ y ≤ 1000000000001 := by
        intro y hy
        rcases addL_mem hy with hy | rfl
        · rcases addL_mem hy with hy | rfl
          · exact h y hy
          · omega
        · omega
      have h6 : (estep acc x).length ≤ acc.length + 2 := by
        have := addL_len acc x.1; have := addL_len (addL acc x.1) (x.2 + 1); unfold estep; omega
      have := ih (estep acc x) (fun p h => hp p (by simp [h])) h5
      refine ⟨this.1, ?_⟩
      have h7 := this.2
      simp only [List.foldl_cons, List.length_cons]; omega
  have := this l [] hin (by simp)
  refine ⟨this.1, ?_⟩
  have h := this.2
  unfold endsL; simp only [List.length_nil] at h; omega
theorem e_form (op : Int) (n1 n2 : Bool) (a b : List (Int × Int)) (hab : a.length + b.length < 500000000) (hin : ∀ p ∈ a ++ b, inB p) : L.call 69 [.fz n1 2 (a.map ivD), .fz n2 2 (b.map ivD), int op] [] = some (.fz false 2 ((formL op a b).map ivD), []) := by
  have h1 : fits (0 + a.length) 16 = true := by simp [fits]; omega
  have h2 : fits (a.length + b.length) 16 = true := by simp [fits]; omega
  have hm : List.map ivD a ++ List.map ivD b = List.map ivD (a ++ b) := by simp
  obtain ⟨z, he⟩ := e_rEnds false (a ++ b) (by simp; omega) hin
  have hall := endsL_all (a ++ b) hin
  have hle := hall.2
  rw [List.length_append] at hle
  refine call_eq rfl rfl ?_
  simp only [↓eA, eB, reduceIte, Nat.reduceBEq, Int.reduceNeg, Int.reduceLT, Int.reduceLE, Int.reduceAdd, Int.reduceSub, Int.reduceMul, Int.reduceEq, Int.reduceToNat, Nat.reduceLT, Nat.reduceAdd, Nat.reduceMul, Nat.reduceSub, c69, h1, h2, hm, he]
  generalize hE : (lim T).loop 69004 _ _ = R
  obtain ⟨X, e', H', rfl, rfl, g8, gH⟩ := Ends.at hE (lp_fo op n1 n2 z a b (by omega) (by omega) (endsL (a ++ b)) (by omega) hall.1 _ _ rfl rfl rfl rfl rfl rfl rfl)
  simp only [↓eA, eB, reduceIte, Nat.reduceBEq, Int.reduceNeg, Int.reduceLT, Int.reduceLE, Int.reduceAdd, Int.reduceSub, Int.reduceMul, Int.reduceEq, Int.reduceToNat, Nat.reduceLT, Nat.reduceAdd, Nat.reduceMul, Nat.reduceSub, g8, gH]
  rfl
def setR (op : Int) (a b : List (Int × Int)) : List (Int × Int) × Int := bif decide (listsErr a b = 0) then (formL op a b, 0) else ([], listsErr a b)
theorem lists_in {a b : List (Int × Int)} (h : listsErr a b = 0) : ∀ p ∈ a ++ b, inB p := by
  unfold listsErr at h
  cases hc : (decide (10000 < (a.length : Int)) || decide (10000 < (b.length : Int))) with
  | true => rw [hc] at h; cases h
  | false => rw [hc] at h; exact ivErr_in h
theorem e_set (op : Int) (n1 n2 : Bool) (a b : List (Int × Int)) (hab : a.length + b.length < 500000000) : ∃ z, L.call 38 [.fz n1 2 (a.map ivD), .fz n2 2 (b.map ivD), int op] [] = some (.tup [.fz z 2 ((setR op a b).1.map ivD), int (setR op a b).2], []) := by
  have hl := e_rLists n1 n2 a b (by omega)
  unfold setR
  cases hc : decide (listsErr a b = 0) with
  | false => exact ⟨true, call_eq rfl rfl (by simp only [↓eA, eB, reduceIte, Nat.reduceBEq, Int.reduceNeg, Int.reduceLT, Int.reduceLE, Int.reduceAdd, Int.reduceSub, Int.reduceMul, Int.reduceEq, Int.reduceToNat, Nat.reduceLT, Nat.reduceAdd, Nat.reduceMul, Nat.reduceSub, c38, hl, hc]; rfl)⟩
  | true =>
    have hf := e_form op n1 n2 a b hab (lists_in (of_decide_eq_true hc))
    exact ⟨false, call_eq rfl rfl (by simp only [↓eA, eB, reduceIte, Nat.reduceBEq, Int.reduceNeg, Int.reduceLT, Int.reduceLE, Int.reduceAdd, Int.reduceSub, Int.reduceMul, Int.reduceEq, Int.reduceToNat, Nat.reduceLT, Nat.reduceAdd, Nat.reduceMul, Nat.reduceSub, c38, hl, hc, hf])⟩
/-! Same. -/
def getIv (l : List (Int × Int)) (i : Nat) : Int × Int := l[i]?.getD (0, 0)
theorem getIv_get {l : List (Int × Int)} {i : Nat} (h : i < l.length) : (l.map ivD)[i]? = some (.agg [int (getIv l i).1, int (getIv l i).2]) := by
  have : l[i]? = some l[i] := List.getElem?_eq_getElem h
  simp [getIv, this, ivD]
def neIv (a b : List (Int × Int)) (i : Nat) : Bool := !(decide ((getIv a i).1 = (getIv b i).1) && decide ((getIv a i).2 = (getIv b i).2))
theorem lp_sm (n1 n2 : Bool) (a b : List (Int × Int)) (hb : a.length < 4000000000) (hab : a.length = b.length) (e : Env) (H : Heap) (h0 : Gs.get e 0 = .fz n1 2 (a.map ivD)) (h1 : Gs.get e 1 = .fz n2 2 (b.map ivD)) (h5 : Gs.get e 5 = int 0) :
    Ends T 13004 e H (fun X e' H' => match (List.range a.length).any (fun i => neIv a b i) with | true => X = .ret ∧ Gs.get e' 4 = .bool false | false => X = .ex 0) := by
  refine loop_anyH (T := T) (key := 13004) (li := l13004) rfl (List.range a.length) (fun i => neIv a b i) (fun i e H => Gs.get e 0 = .fz n1 2 (a.map ivD) ∧ Gs.get e 1 = .fz n2 2 (b.map ivD) ∧ Gs.get e 5 = int i) (fun X e' H' => X = .ret ∧ Gs.get e' 4 = .bool false) (fun X e' H' => X = .ex 0) ?_ ?_ e H ⟨h0, h1, h5⟩
  · rintro i k e H hx hi' ⟨h0, h1, h5⟩
    have hi : i < a.length := by simpa using hi'
    rw [List.getElem?_range hi] at hx; injection hx with hx; subst hx
    have hib : i < b.length := by omega
    simp only [↓eA, eB, reduceIte, Nat.reduceBEq, Int.reduceNeg, Int.reduceLT, Int.reduceLE, Int.reduceAdd, Int.reduceSub, Int.reduceMul, Int.reduceEq, Int.reduceToNat, Nat.reduceLT, Nat.reduceAdd, Nat.reduceMul, Nat.reduceSub, l13004, h0, h1, h5, hi, hib, getIv_get hi, getIv_get hib, wrap_succ (show i < 4611686018427387904 by omega)]
    cases hc : neIv a b i <;> simp only [neIv, Bool.not_eq_true', Bool.not_eq_false'] at hc <;> simp only [↓eA, eB, reduceIte, Nat.reduceBEq, Int.reduceNeg, Int.reduceLT, Int.reduceLE, Int.reduceAdd, Int.reduceSub, Int.reduceMul, Int.reduceEq, Int.reduceToNat, Nat.reduceLT, Nat.reduceAdd, Nat.reduceMul, Nat.reduceSub, hc] <;> and_intros <;> first | trivial | rfl
  · rintro e H ⟨h0, h1, h5⟩
    rw [List.length_range] at h5
    simp only [↓eA, eB, reduceIte, Nat.reduceBEq, Int.reduceNeg, Int.reduceLT, Int.reduceLE, Int.reduceAdd, Int.reduceSub, Int.reduceMul, Int.reduceEq, Int.reduceToNat, Nat.reduceLT, Nat.reduceAdd, Nat.reduceMul, Nat.reduceSub, l13004, h0, h1, h5, Nat.lt_irrefl]
    and_intros <;> first | trivial | rfl
theorem same_iff {a b : List (Int × Int)} (hab : a.length = b.length) : (List.range a.length).any (neIv a b) = !decide (a = b) := by
  cases hc : (List.range a.length).any (neIv a b) with
  | true =>
    obtain ⟨i, hi, hn⟩ := List.any_eq_true.1 hc
    have : a ≠ b := by
      rintro rfl
      simp [neIv] at hn
    simp [this]
  | false =>
    have : a = b := by
      apply List.ext_getElem hab
      intro i h1 h2
      have := List.any_eq_false.1 hc i (by simpa using h1)
      have e1 : getIv a i = a[i] := by simp [getIv, List.getElem?_eq_getElem h1]
      have e2 : getIv b i = b[i] := by simp [getIv, List.getElem?_eq_getElem h2]
      simp only [neIv, e1, e2, Bool.not_eq_true', Bool.and_eq_false_iff, decide_eq_false_iff_not, not_or, Classical.not_not] at this
      exact Prod.ext this.1 this.2
    simp [this]
theorem e_same (n1 n2 : Bool) (a b : List (Int × Int)) (hb : a.length < 4000000000) : L.call 13 [.fz n1 2 (a.map ivD), .fz n2 2 (b.map ivD)] [] = some (.bool (decide (a = b)), []) :=
  call_eq rfl rfl (by
    by_cases hl : a.length = b.length
    · have hl' : decide ((a.length : Int) = (b.length : Int)) = true := by rw [decide_eq_true_eq]; omega
      simp only [↓eA, eB, reduceIte, Nat.reduceBEq, Int.reduceNeg, Int.reduceLT, Int.reduceLE, Int.reduceAdd, Int.reduceSub, Int.reduceMul, Int.reduceEq, Int.reduceToNat, Nat.reduceLT, Nat.reduceAdd, Nat.reduceMul, Nat.reduceSub, c13, hl']
      generalize hE : (lim T).loop 13004 _ _ = R
      obtain ⟨X, e', H', rfl, hP⟩ := Ends.at hE (lp_sm n1 n2 a b hb hl _ _ rfl rfl rfl)
      rw [same_iff hl] at hP
      cases hc : decide (a = b) with
      | false => rw [hc] at hP; obtain ⟨rfl, g⟩ := hP; simp only [↓eA, eB, reduceIte, Nat.reduceBEq, Int.reduceNeg, Int.reduceLT, Int.reduceLE, Int.reduceAdd, Int.reduceSub, Int.reduceMul, Int.reduceEq, Int.reduceToNat, Nat.reduceLT, Nat.reduceAdd, Nat.reduceMul, Nat.reduceSub, g]
      | true => rw [hc] at hP; simp only [Bool.not_true] at hP; subst hP; simp only [↓eA, eB, reduceIte, Nat.reduceBEq, Int.reduceNeg, Int.reduceLT, Int.reduceLE, Int.reduceAdd, Int.reduceSub, Int.reduceMul, Int.reduceEq, Int.reduceToNat, Nat.reduceLT, Nat.reduceAdd, Nat.reduceMul, Nat.reduceSub]
    · have hl' : decide ((a.length : Int) = (b.length : Int)) = false := by rw [decide_eq_false_iff_not]; omega
      have hne : decide (a = b) = false := by rw [decide_eq_false_iff_not]; rintro rfl; exact hl rfl
      rw [hne]
      simp only [↓eA, eB, reduceIte, Nat.reduceBEq, Int.reduceNeg, Int.reduceLT, Int.reduceLE, Int.reduceAdd, Int.reduceSub, Int.reduceMul, Int.reduceEq, Int.reduceToNat, Nat.reduceLT, Nat.reduceAdd, Nat.reduceMul, Nat.reduceSub, c13, hl'])
/-! gangsawref13.Jointed. -/
theorem lp_rj (s : Survey) (hF : s.Fit) (b : Box) (hJ : JB s b) (ax at_ : Int) (e : Env) (H : Heap) (h3 : Gs.get e 3 = .ptr 3 0) (h4 : Gs.get e 4 = .ptr 4 0) (h9 : Gs.get e 8 = int ax) (h10 : Gs.get e 9 = int at_) (h11 : Gs.get e 7 = .ow 1007) (h31 : Gs.get e 10 = int 0) (hH3 : hget H 3 = some (.box s.cells false)) (hH4 : hget H 4 = some (.box (bx b) false)) (hH : hget H 1007 = some (.row false 2 [] 0 true)) :
    Ends T 14004 e H (fun X e' H' => X = .ex 0 ∧ Gs.get e' 7 = .ow 1007 ∧ hget H' 1007 = some (.row false 2 ((jList s b ax at_).map ivD) 0 true)) := by
  have hb := hF.jl
  obtain ⟨hz0, ⟨hz1, hz2⟩, hjh⟩ := hJ
  refine loop_fold (T := T) (key := 14004) (li := l14004) rfl s.joints (jStep b ax at_) (fun i a e H => a.length ≤ i ∧ Gs.get e 3 = .ptr 3 0 ∧ Gs.get e 4 = .ptr 4 0 ∧ Gs.get e 8 = int ax ∧ Gs.get e 9 = int at_ ∧ Gs.get e 7 = .ow 1007 ∧ Gs.get e 10 = int i ∧ hget H 3 = some (.box s.cells false) ∧ hget H 4 = some (.box (bx b) false) ∧ hget H 1007 = some (.row false 2 (a.map ivD) 0 true)) (fun a X e' H' => X = .ex 0 ∧ Gs.get e' 7 = .ow 1007 ∧ hget H' 1007 = some (.row false 2 (a.map ivD) 0 true)) ?_ ?_ [] e H ⟨Nat.le_refl _, h3, h4, h9, h10, h11, h31, hH3, hH4, hH⟩
  · rintro i j a e H hx hi ⟨hal, h3, h4, h9, h10, h11, h31, hH3, hH4, hH⟩
    have hx' : (s.joints.map Joint.enc)[i]? = some j.enc := by simp [hx]
    have hjl := hjh j (List.mem_of_getElem? hx)
    have hw : IntKind.i64.wrap (min j.hi b.z1 - 1) = min j.hi b.z1 - 1 := wrap_in (by omega) (by omega)
    have hsl := jStep_len b ax at_ a j
    have hfit : fits (a.length + 1) 16 = true := by simp [fits]; omega
    cases hc : jHit b ax at_ j with
    | true =>
      have hc' := hc; simp only [jHit] at hc'
      have hm : List.map ivD a ++ [.agg [int (max j.lo b.z0), int (min j.hi b.z1 - 1)]] = List.map ivD (jStep b ax at_ a j) := by simp [jStep, hc, jIv, ivD]
      simp only [↓eA, eB, reduceIte, Nat.reduceBEq, Int.reduceNeg, Int.reduceLT, Int.reduceLE, Int.reduceAdd, Int.reduceSub, Int.reduceMul, Int.reduceEq, Int.reduceToNat, Nat.reduceLT, Nat.reduceAdd, Nat.reduceMul, Nat.reduceSub, l14004, h3, h4, h9, h10, h11, h31, hH3, hH4, hH, hi, hx', hw, hc', hfit, hm, wrap_succ (show i < 4611686018427387904 by omega)]
      refine ⟨trivial, by omega, ?_⟩
      and_intros <;> first | trivial | rfl
    | false =>
      have hc' := hc; simp only [jHit] at hc'
      have hm : jStep b ax at_ a j = a := by simp [jStep, hc]
      simp only [↓eA, eB, reduceIte, Nat.reduceBEq, Int.reduceNeg, Int.reduceLT, Int.reduceLE, Int.reduceAdd, Int.reduceSub, Int.reduceMul, Int.reduceEq, Int.reduceToNat, Nat.reduceLT, Nat.reduceAdd, Nat.reduceMul, Nat.reduceSub, l14004, h3, h4, h9, h10, h11, h31, hH3, hH4, hH, hi, hx', hw, hc', hm, wrap_succ (show i < 4611686018427387904 by omega)]
      refine ⟨trivial, by omega, ?_⟩
      and_intros <;> first | trivial | rfl
  · rintro a e H ⟨hal, h3, h4, h9, h10, h11, h31, hH3, hH4, hH⟩
    simp only [↓eA, eB, reduceIte, Nat.reduceBEq, Int.reduceNeg, Int.reduceLT, Int.reduceLE, Int.reduceAdd, Int.reduceSub, Int.reduceMul, Int.reduceEq, Int.reduceToNat, Nat.reduceLT, Nat.reduceAdd, Nat.reduceMul, Nat.reduceSub, l14004, h3, h4, h9, h10, h11, h31, hH3, hH4, hH, Nat.lt_irrefl]
    and_intros <;> first | trivial | rfl
theorem e_rJointed (s : Survey) (hF : s.Fit) (hsz : s.joints.length < 400000000) (b : Box) (d : Int) (hd : sideBad d = false) (hJ : JB s b) : ∃ z, L.call 14 [s.enc, b.enc, int d] [] = some (.fz z 2 ((setR 1 (pJointed s b d) []).1.map ivD), []) := by
  have e1 := e_rPlane b d hd
  have hb := hF.jl
  have hjl := jList_len s b (planeAx d) (planeAt b d)
  obtain ⟨z, hs⟩ := e_set 1 false true (pJointed s b d) [] (by unfold pJointed; simp; omega)
  have hs' : L.call 38 [.fz false 2 ((pJointed s b d).map ivD), .fz true 2 [], int 1] [] = some (.tup [.fz z 2 ((setR 1 (pJointed s b d) []).1.map ivD), int (setR 1 (pJointed s b d) []).2], []) := hs
  refine ⟨z, call_eq rfl rfl ?_⟩
  simp only [↓eA, eB, reduceIte, Nat.reduceBEq, Int.reduceNeg, Int.reduceLT, Int.reduceLE, Int.reduceAdd, Int.reduceSub, Int.reduceMul, Int.reduceEq, Int.reduceToNat, Nat.reduceLT, Nat.reduceAdd, Nat.reduceMul, Nat.reduceSub, c14, e1]
  generalize hE : (lim T).loop 14004 _ _ = R
  obtain ⟨X, e', H', rfl, rfl, g7, gH⟩ := Ends.at hE (lp_rj s hF b hJ (planeAx d) (planeAt b d) _ _ rfl rfl rfl rfl rfl rfl rfl rfl rfl)
  have gH' : hget H' 1007 = some (.row false 2 ((pJointed s b d).map ivD) 0 true) := gH
  simp only [↓eA, eB, reduceIte, Nat.reduceBEq, Int.reduceNeg, Int.reduceLT, Int.reduceLE, Int.reduceAdd, Int.reduceSub, Int.reduceMul, Int.reduceEq, Int.reduceToNat, Nat.reduceLT, Nat.reduceAdd, Nat.reduceMul, Nat.reduceSub, g7, gH', hs']
end Tz
