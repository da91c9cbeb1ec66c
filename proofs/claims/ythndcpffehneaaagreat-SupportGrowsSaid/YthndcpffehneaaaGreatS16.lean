/- survey.Jointed; no conditions. -/
import Derived.Test.YthndcpffehneaaaGreatS15
set_option linter.unusedVariables false
set_option linter.unusedSimpArgs false
set_option linter.unusedSectionVars false
set_option linter.defProp false
set_option linter.deprecated false
set_option maxRecDepth 100000
open Gs Go
namespace Tz
def jHit (b : Box) (ax at_ : Int) (j : Joint) : Bool := decide (j.axis = ax) && decide (j.at_ = at_) && decide (max j.lo b.z0 ≤ min j.hi b.z1 - 1)
def jIv (b : Box) (j : Joint) : Int × Int := (max j.lo b.z0, min j.hi b.z1 - 1)
def jStep (b : Box) (ax at_ : Int) (acc : List (Int × Int)) (j : Joint) : List (Int × Int) := bif jHit b ax at_ j then acc ++ [jIv b j] else acc
def jList (s : Survey) (b : Box) (ax at_ : Int) : List (Int × Int) := s.joints.foldl (jStep b ax at_) []
structure JB (s : Survey) (b : Box) : Prop where
  z0 : -1000000 ≤ b.z0
  z1 : -1000000 ≤ b.z1 ∧ b.z1 ≤ 1000000
  j : ∀ j ∈ s.joints, -1000000 ≤ j.hi
theorem jStep_len (b : Box) (ax at_ : Int) (acc : List (Int × Int)) (j : Joint) : (jStep b ax at_ acc j).length ≤ acc.length + 1 := by
  unfold jStep
  cases jHit b ax at_ j <;> simp
abbrev bx (b : Box) : List D := [int b.x0, int b.y0, int b.z0, int b.x1, int b.y1, int b.z1]
theorem lp_pj (s : Survey) (hF : s.Fit) (b : Box) (hJ : JB s b) (ax at_ : Int) (e : Env) (H : Heap) (h4 : Gs.get e 4 = .ptr 4 0) (h9 : Gs.get e 9 = int ax) (h10 : Gs.get e 10 = int at_) (h11 : Gs.get e 11 = .ow 1011) (h29 : Gs.get e 29 = .fz false 5 (s.joints.map Joint.enc)) (h30 : Gs.get e 30 = int s.joints.length) (h31 : Gs.get e 31 = int 0) (hH4 : hget H 4 = some (.box (bx b) false)) (hH : hget H 1011 = some (.row true 2 [] 0 true)) :
    Ends T 72007 e H (fun X e' H' => X = .ex 0 ∧ Gs.get e' 11 = .ow 1011 ∧ hget H' 1011 = some (.row true 2 ((jList s b ax at_).map ivD) 0 true)) := by
  have hb := hF.jl
  obtain ⟨hz0, ⟨hz1, hz2⟩, hjh⟩ := hJ
  refine loop_fold (T := T) (key := 72007) (li := l72007) rfl s.joints (jStep b ax at_) (fun i a e H => a.length ≤ i ∧ Gs.get e 4 = .ptr 4 0 ∧ Gs.get e 9 = int ax ∧ Gs.get e 10 = int at_ ∧ Gs.get e 11 = .ow 1011 ∧ Gs.get e 29 = .fz false 5 (s.joints.map Joint.enc) ∧ Gs.get e 30 = int s.joints.length ∧ Gs.get e 31 = int i ∧ hget H 4 = some (.box (bx b) false) ∧ hget H 1011 = some (.row true 2 (a.map ivD) 0 true)) (fun a X e' H' => X = .ex 0 ∧ Gs.get e' 11 = .ow 1011 ∧ hget H' 1011 = some (.row true 2 (a.map ivD) 0 true)) ?_ ?_ [] e H ⟨Nat.le_refl _, h4, h9, h10, h11, h29, h30, h31, hH4, hH⟩
  · rintro i j a e H hx hi ⟨hal, h4, h9, h10, h11, h29, h30, h31, hH4, hH⟩
    have hx' : (s.joints.map Joint.enc)[i]? = some j.enc := by simp [hx]
    have hjl := hjh j (List.mem_of_getElem? hx)
    have hw : IntKind.i64.wrap (min j.hi b.z1 - 1) = min j.hi b.z1 - 1 := wrap_in (by omega) (by omega)
    have hsl := jStep_len b ax at_ a j
    have hfit : fits (a.length + 1) 16 = true := by simp [fits]; omega
    cases hc : jHit b ax at_ j with
    | true =>
      have hc' := hc; simp only [jHit] at hc'
      have hm : List.map ivD a ++ [.agg [int (max j.lo b.z0), int (min j.hi b.z1 - 1)]] = List.map ivD (jStep b ax at_ a j) := by simp [jStep, hc, jIv, ivD]
      simp only [↓eA, eB, seval, l72007, h4, h9, h10, h11, h29, h30, h31, hH4, hH, hi, hx', hw, hc', hfit, hm, wrap_succ (show i < 4611686018427387904 by omega)]
      refine ⟨trivial, by omega, ?_⟩
      and_intros <;> first | trivial | rfl
    | false =>
      have hc' := hc; simp only [jHit] at hc'
      have hm : jStep b ax at_ a j = a := by simp [jStep, hc]
      simp only [↓eA, eB, seval, l72007, h4, h9, h10, h11, h29, h30, h31, hH4, hH, hi, hx', hw, hc', hm, wrap_succ (show i < 4611686018427387904 by omega)]
      refine ⟨trivial, by omega, ?_⟩
      and_intros <;> first | trivial | rfl
  · rintro a e H ⟨hal, h4, h9, h10, h11, h29, h30, h31, hH4, hH⟩
    simp only [↓eA, eB, seval, l72007, h4, h9, h10, h11, h29, h30, h31, hH4, hH, Nat.lt_irrefl]
    and_intros <;> first | trivial | rfl
theorem sided_ok {s : Survey} {b : Box} {d : Int} (h : sidedErr s b d = 0) : surveyErr s = 0 ∧ sideBad d = false ∧ boxedErr s b = 0 := by
  unfold sidedErr at h
  cases h2 : decide (surveyErr s = 0) with
  | false => rw [h2] at h; simp only [Bool.not_false, cond_true] at h; rw [h] at h2; simp at h2
  | true =>
    rw [h2] at h; simp only [Bool.not_true, cond_false] at h
    cases h3 : sideBad d with
    | false => rw [h3] at h; exact ⟨of_decide_eq_true h2, rfl, h⟩
    | true => rw [h3] at h; cases h
theorem boxed_ok {s : Survey} {b : Box} (h : boxedErr s b = 0) : b.ok = true ∧ outOf b s.pit = false := by
  unfold boxedErr at h
  cases h1 : b.ok with
  | false => rw [h1] at h; cases h
  | true =>
    rw [h1] at h
    cases h2 : outOf b s.pit with
    | false => exact ⟨rfl, rfl⟩
    | true => rw [h2] at h; cases h
structure SurveyOk (s : Survey) : Prop where
  size : sizeBad s = false
  far : s.pit.six.any far6 = false
  ok : s.pit.ok = true
  nm : s.names.any (fun n => !pName n) = false
  jb : s.joints.any jbad = false
  fb : s.flaws.any fbad = false
  pe : ∀ f ∈ s.flaws, polyErr f.base = 0
  cv : s.flaws.any (fun f => !convex f.base) = false
  out : outB s = false
  dis : disordered s = false
theorem polyErr_find {s : Survey} (h : s.flaws.find? (fun f => !decide (polyErr f.base = 0)) = none) : ∀ f ∈ s.flaws, polyErr f.base = 0 := by
  intro f hm; have := List.find?_eq_none.1 h f hm; simpa using this
theorem survey_ok {s : Survey} (h : surveyErr s = 0) : SurveyOk s := by
  unfold surveyErr at h
  cases h1 : sizeBad s <;> rw [h1] at h <;> simp only [cond_true, cond_false] at h <;> try (cases h; done)
  cases h2 : s.pit.six.any far6 <;> rw [h2] at h <;> simp only [cond_true, cond_false] at h <;> try (cases h; done)
  cases h3 : s.pit.ok <;> rw [h3] at h <;> simp only [Bool.not_true, Bool.not_false, cond_true, cond_false] at h <;> try (cases h; done)
  cases h4 : s.names.any (fun n => !pName n) <;> rw [h4] at h <;> simp only [cond_true, cond_false] at h <;> try (cases h; done)
  cases h5 : (s.joints.any jbad || s.flaws.any fbad) <;> rw [h5] at h <;> simp only [cond_true, cond_false] at h <;> try (cases h; done)
  cases h6 : s.flaws.find? (fun f => !decide (polyErr f.base = 0)) with
  | some f =>
    rw [h6] at h; simp only at h
    have := List.find?_some h6
    rw [h] at this; simp at this
  | none =>
  rw [h6] at h; simp only at h
  cases h7 : s.flaws.any (fun f => !convex f.base) <;> rw [h7] at h <;> simp only [cond_true, cond_false] at h <;> try (cases h; done)
  cases h8 : outB s <;> rw [h8] at h <;> simp only [cond_true, cond_false] at h <;> try (cases h; done)
  cases h9 : disordered s <;> rw [h9] at h <;> simp only [cond_true, cond_false] at h <;> try (cases h; done)
  rw [Bool.or_eq_false_iff] at h5
  exact ⟨h1, h2, h3, h4, h5.1, h5.2, polyErr_find h6, h7, h8, h9⟩
theorem far6_no {n : Int} (h : far6 n = false) : -1000000 ≤ n ∧ n ≤ 1000000 := by
  simp only [far6, Bool.or_eq_false_iff, decide_eq_false_iff_not] at h; omega
theorem six_in {b : Box} (h : b.six.any far6 = false) : ∀ n ∈ b.six, -1000000 ≤ n ∧ n ≤ 1000000 := fun n hn => far6_no (by simpa using List.any_eq_false.1 h n hn)
theorem jb_of {s : Survey} {b : Box} (h : SurveyOk s) (hb : boxedErr s b = 0) : JB s b := by
  obtain ⟨h1, h2⟩ := boxed_ok hb
  have h6 := six_in h.far
  simp only [Box.six, List.mem_cons, List.not_mem_nil, or_false, forall_eq_or_imp, forall_eq] at h6
  simp only [outOf, Bool.or_eq_false_iff, decide_eq_false_iff_not] at h2
  simp only [Box.ok, Bool.and_eq_true, decide_eq_true_eq] at h1
  refine ⟨by omega, by omega, fun j hj => ?_⟩
  have ho := h.out
  simp only [outB, Bool.or_eq_false_iff] at ho
  have := List.any_eq_false.1 ho.2.1 j hj
  simp only [jointOut, Bool.or_eq_true, Bool.not_eq_true', Bool.and_eq_false_iff, not_or, Bool.not_eq_false] at this
  have h3 := this.2.2
  simp only [inR, Bool.and_eq_true, decide_eq_true_eq] at h3
  omega
def pJointed (s : Survey) (b : Box) (d : Int) : List (Int × Int) := jList s b (planeAx d) (planeAt b d)
theorem jList_len (s : Survey) (b : Box) (ax at_ : Int) : (jList s b ax at_).length ≤ s.joints.length := by
  unfold jList
  have : ∀ (l : List Joint) (a : List (Int × Int)), (l.foldl (jStep b ax at_) a).length ≤ a.length + l.length := by
    intro l
    induction l with
    | nil => intro a; simp
    | cons j r ih => intro a; simp only [List.foldl_cons, List.length_cons]; have := ih (jStep b ax at_ a j); have := jStep_len b ax at_ a j; omega
  simpa using this s.joints []
/-- survey.Jointed. -/
def jointedR (s : Survey) (b : Box) (d : Int) : List (Int × Int) × Int :=
  bif decide (sidedErr s b d = 0) then (bif decide (nrmErr (pJointed s b d) = 0) then merged (pJointed s b d) else [], nrmErr (pJointed s b d)) else ([], sidedErr s b d)
theorem e_jointed (s : Survey) (hF : s.Fit) (b : Box) (d : Int) : L.call 72 [s.enc, b.enc, int d] [] = some (.tup [.fz true 2 ((jointedR s b d).1.map ivD), int (jointedR s b d).2], []) := by
  unfold jointedR
  cases h1 : decide (sidedErr s b d = 0) with
  | false => exact call_eq rfl rfl (by simp only [↓eA, eB, seval, c72, e_sided s hF, h1]; rfl)
  | true =>
    have h0 := of_decide_eq_true h1
    obtain ⟨h2, h3, h4⟩ := sided_ok h0
    have hok := survey_ok h2
    have hJ := jb_of hok h4
    have e1 := e_plane b d h3
    have e3 := e_sided s hF b d; rw [h0] at e3
    have hb := hF.jl
    have hjl := jList_len s b (planeAx d) (planeAt b d)
    have hn := e_normalize (pJointed s b d) (by unfold pJointed; omega)
    refine call_eq rfl rfl ?_
    simp only [↓eA, eB, seval, c72, e3, e1]
    generalize hE : (lim T).loop 72007 _ _ = R
    obtain ⟨X, e', H', rfl, rfl, g11, gH⟩ := Ends.at hE (lp_pj s hF b hJ (planeAx d) (planeAt b d) _ _ rfl rfl rfl rfl rfl rfl rfl rfl rfl)
    have gH' : hget H' 1011 = some (.row true 2 ((pJointed s b d).map ivD) 0 true) := gH
    simp only [↓eA, eB, seval, g11, gH', hn]
    skip
end Tz
