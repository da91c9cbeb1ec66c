/- survey.Check; no conditions. -/
import Derived.Test.YthndcpffehneaaaGreatS11
set_option linter.unusedVariables false
set_option linter.unusedSimpArgs false
set_option linter.unusedSectionVars false
set_option linter.defProp false
set_option linter.deprecated false
set_option maxRecDepth 100000
open Gs Go
namespace Tz
abbrev far6 (n : Int) : Bool := decide (n < -1000000) || decide (1000000 < n)
theorem e_nearOne (n : Int) : L.call 180 [int n] [] = some (.bool (far6 n), []) :=
  call_eq rfl rfl (by simp only [↓eA, eB, seval, c180])
theorem e_near6 (nz : Bool) (l : List Int) (hb : l.length < 1000000000) : L.call 123 [.fz nz 1 (l.map int)] [] = some (.bool (!l.any far6), []) :=
  call_eq rfl rfl (by simp only [↓eA, eB, seval, c123, e_con_int far6 180 [] nz l hb rfl (fun x _ => e_nearOne x)])
def jbad (j : Joint) : Bool := (!decide (j.axis = 0) && !decide (j.axis = 1)) || decide (j.hi ≤ j.lo)
def fbad (f : Flaw) : Bool := decide (f.hi ≤ f.lo)
theorem e_chk2 (j : Joint) : L.call 130 [j.enc] [] = some (.bool (jbad j), []) :=
  call_eq rfl rfl (by simp only [↓eA, eB, seval, c130]; unfold jbad; cases h : decide (j.axis = 0) <;> cases h1 : decide (j.axis = 1) <;> simp_all)
theorem e_chk3 (f : Flaw) : L.call 132 [f.enc] [] = some (.bool (fbad f), []) :=
  call_eq rfl rfl (by simp only [↓eA, eB, seval, c132]; rfl)
def sizeBad (s : Survey) : Bool := decide (64 < (s.beds.length : Int)) || decide (128 < (s.joints.length : Int)) || decide (64 < (s.flaws.length : Int))
abbrev Box.six (b : Box) : List Int := [b.x0, b.y0, b.z0, b.x1, b.y1, b.z1]
/-- survey.Check. -/
def surveyErr (s : Survey) : Int :=
  bif sizeBad s then 7 else bif s.pit.six.any far6 then 6 else bif !s.pit.ok then 1 else bif s.names.any (fun n => !pName n) then 4 else
  bif s.joints.any jbad || s.flaws.any fbad then 1 else
  match s.flaws.find? (fun f => !decide (polyErr f.base = 0)) with
  | some f => polyErr f.base
  | none => bif s.flaws.any (fun f => !convex f.base) then 10 else bif outB s then 12 else bif disordered s then 5 else 0
theorem lp_k1 (s : Survey) (hF : s.Fit) (e : Env) (H : Heap) (h1 : Gs.get e 1 = .ptr 1 0) (h70 : Gs.get e 70 = .fz false 4 (s.flaws.map Flaw.enc)) (h71 : Gs.get e 71 = int s.flaws.length) (h72 : Gs.get e 72 = int 0) (hH : hget H 1 = some (.box s.cells false)) :
    Ends T 91013 e H (fun X e' H' => match s.flaws.find? (fun f => !decide (polyErr f.base = 0)) with | some f => X = .ret ∧ Gs.get e' 2 = int (polyErr f.base) | none => X = .ex 1 ∧ Gs.get e' 1 = .ptr 1 0 ∧ H' = Hs s) := by
  have hb := hF.fl
  refine (loop_thru (T := T) (key := 91013) (li := l91013) rfl (S := Unit) (R := Flaw) (fun s f => bif !decide (polyErr f.base = 0) then .inl f else .inr s) s.flaws (fun i _ e H => Gs.get e 1 = .ptr 1 0 ∧ Gs.get e 70 = .fz false 4 (s.flaws.map Flaw.enc) ∧ Gs.get e 71 = int s.flaws.length ∧ Gs.get e 72 = int i ∧ hget H 1 = some (.box s.cells false)) (fun f X e' H' => X = .ret ∧ Gs.get e' 2 = int (polyErr f.base)) (fun _ X e' H' => X = .ex 1 ∧ Gs.get e' 1 = .ptr 1 0 ∧ H' = Hs s) ?_ ?_ ?_ s.flaws [] () e H rfl ⟨h1, h70, h71, h72, hH⟩).mono ?_
  · rintro i f u u' e H hx ⟨h1, h70, h71, h72, hH⟩ hf
    have hi : i < s.flaws.length := (List.getElem?_eq_some_iff.1 hx).1
    have hx' : (s.flaws.map Flaw.enc)[i]? = some f.enc := by simp [hx]
    have hfb := hF.base f (List.mem_of_getElem? hx)
    cases hp : decide (polyErr f.base = 0) with
    | false => rw [hp] at hf; cases hf
    | true =>
      simp only [↓eA, eB, seval, l91013, h1, h70, h71, h72, hH, hi, hx', e_polyCheck f.base hfb, hp, wrap_succ (show i < 4611686018427387904 by omega)]
      and_intros <;> first | trivial | rfl
  · rintro i f u r e H hx ⟨h1, h70, h71, h72, hH⟩ hf
    have hi : i < s.flaws.length := (List.getElem?_eq_some_iff.1 hx).1
    have hx' : (s.flaws.map Flaw.enc)[i]? = some f.enc := by simp [hx]
    have hfb := hF.base f (List.mem_of_getElem? hx)
    cases hp : decide (polyErr f.base = 0) with
    | true => rw [hp] at hf; cases hf
    | false =>
      rw [hp] at hf; injection hf with hf; subst hf
      simp only [↓eA, eB, seval, l91013, h1, h70, h71, h72, hH, hi, hx', e_polyCheck f.base hfb, hp]
      and_intros <;> first | trivial | rfl
  · rintro u e H ⟨h1, h70, h71, h72, hH⟩
    simp only [↓eA, eB, seval, l91013, h1, h70, h71, h72, hH, Nat.lt_irrefl]
    and_intros <;> first | trivial | rfl
  · intro X e' H' h
    rw [thru_find] at h
    cases hf : s.flaws.find? (fun f => !decide (polyErr f.base = 0)) with
    | none => rw [hf] at h; exact h
    | some f => rw [hf] at h; exact h
theorem lp_k2 (s : Survey) (hF : s.Fit) (hall : ∀ f ∈ s.flaws, polyErr f.base = 0) (e : Env) (H : Heap) (h1 : Gs.get e 1 = .ptr 1 0) (h70 : Gs.get e 85 = .fz false 4 (s.flaws.map Flaw.enc)) (h71 : Gs.get e 86 = int s.flaws.length) (h72 : Gs.get e 87 = int 0) (hH : hget H 1 = some (.box s.cells false)) :
    Ends T 91020 e H (fun X e' H' => match s.flaws.any (fun f => !convex f.base) with | true => X = .ret ∧ Gs.get e' 2 = int 10 | false => X = .ex 3 ∧ Gs.get e' 1 = .ptr 1 0 ∧ H' = Hs s) := by
  have hb := hF.fl
  refine loop_anyH (T := T) (key := 91020) (li := l91020) rfl s.flaws (fun f => !convex f.base) (fun i e H => Gs.get e 1 = .ptr 1 0 ∧ Gs.get e 85 = .fz false 4 (s.flaws.map Flaw.enc) ∧ Gs.get e 86 = int s.flaws.length ∧ Gs.get e 87 = int i ∧ hget H 1 = some (.box s.cells false)) (fun X e' H' => X = .ret ∧ Gs.get e' 2 = int 10) (fun X e' H' => X = .ex 3 ∧ Gs.get e' 1 = .ptr 1 0 ∧ H' = Hs s) ?_ ?_ e H ⟨h1, h70, h71, h72, hH⟩
  · rintro i f e H hx hi ⟨h1, h70, h71, h72, hH⟩
    have hx' : (s.flaws.map Flaw.enc)[i]? = some f.enc := by simp [hx]
    have hm := List.mem_of_getElem? hx
    have hfb := hF.base f hm
    simp only [↓eA, eB, seval, l91020, h1, h70, h71, h72, hH, hi, hx', e_convex f.base hfb (hall f hm), wrap_succ (show i < 4611686018427387904 by omega)]
    cases hc : convex f.base <;> simp only [↓eA, eB, seval, hc] <;> and_intros <;> first | trivial | rfl
  · rintro e H ⟨h1, h70, h71, h72, hH⟩
    simp only [↓eA, eB, seval, l91020, h1, h70, h71, h72, hH, Nat.lt_irrefl]
    and_intros <;> first | trivial | rfl
theorem gt_of (a b : Nat) : decide ((a : Int) < (b : Int)) = decide (a < b) := by simp
theorem e_pCheck (s : Survey) (hF : s.Fit) : L.call 91 [s.enc] [] = some (int (surveyErr s), []) :=
  call_eq rfl rfl (by
    have hb := hF.bl; have hj := hF.jl; have hf := hF.fl
    have hnl := s.names_length
    have hnr : L.call 123 [.fz false 1 [int s.pit.x0, int s.pit.y0, int s.pit.z0, int s.pit.x1, int s.pit.y1, int s.pit.z1]] [] = some (.bool (!s.pit.six.any far6), []) := e_near6 false s.pit.six (by simp)
    unfold surveyErr
    cases hz : sizeBad s with
    | true => have hz' := hz; simp only [sizeBad] at hz'; simp only [↓eA, eB, seval, c91, hz']
    | false =>
    have hz' := hz; simp only [sizeBad] at hz'
    have hsmall : s.names.length < 1000000000 := by
      have hz2 := hz'; simp only [Bool.or_eq_false_iff, decide_eq_false_iff_not] at hz2; omega
    cases hn : s.pit.six.any far6 with
    | true => rw [hn] at hnr; simp only [↓eA, eB, seval, c91, hz', hnr]
    | false =>
    rw [hn] at hnr
    cases hp : s.pit.ok with
    | false => simp only [↓eA, eB, seval, c91, hz', hnr, e_proper, hp]
    | true =>
    have hnm : L.call 125 [.fz true 1 (s.names.map .str), .fn 127 []] [] = some (.bool (s.names.any fun n => !pName n), []) := e_con_str (fun n => !pName n) 127 [] true s.names hsmall rfl (fun x hx => e_notName x (hF.nm x hx))
    cases hnb : s.names.any (fun n => !pName n) with
    | true => rw [hnb] at hnm; simp only [↓eA, eB, seval, c91, hz', hnr, e_proper, hp, e_pNames s hF, hnm]; skip
    | false =>
    rw [hnb] at hnm
    have hjj : L.call 129 [.fz false 5 (s.joints.map Joint.enc), .fn 130 []] [] = some (.bool (s.joints.any jbad), []) := e_con_joint jbad 130 [] false s.joints hj rfl (fun x _ => e_chk2 x)
    have hff : L.call 131 [.fz false 4 (s.flaws.map Flaw.enc), .fn 132 []] [] = some (.bool (s.flaws.any fbad), []) := e_con_flaw fbad 132 [] false s.flaws hf rfl (fun x _ => e_chk3 x)
    cases hsh : (s.joints.any jbad || s.flaws.any fbad) with
    | true => simp only [↓eA, eB, seval, c91, hz', hnr, e_proper, hp, e_pNames s hF, hnm, hjj, hff, hsh]
    | false =>
    simp only [↓eA, eB, seval, c91, hz', hnr, e_proper, hp, e_pNames s hF, hnm, hjj, hff, hsh]
    generalize hE : (lim T).loop 91013 _ _ = R
    obtain ⟨X, e', H', rfl, h⟩ := Ends.at hE (lp_k1 s hF _ _ rfl rfl rfl rfl rfl)
    cases hk : s.flaws.find? (fun f => !decide (polyErr f.base = 0)) with
    | some f => rw [hk] at h; obtain ⟨rfl, g2⟩ := h; simp only [↓eA, eB, seval, g2]
    | none =>
    rw [hk] at h; obtain ⟨rfl, g1, rfl⟩ := h
    have hall : ∀ f ∈ s.flaws, polyErr f.base = 0 := by
      intro f hm; have := List.find?_eq_none.1 hk f hm; simpa using this
    simp only [↓eA, eB, seval, g1]
    generalize hE : (lim T).loop 91020 _ _ = R
    obtain ⟨X, e', H', rfl, h⟩ := Ends.at hE (lp_k2 s hF hall _ _ (by simp only [↓eA, eB, seval, g1]) (by simp only [↓eA, eB, seval]) (by simp only [↓eA, eB, seval]) (by simp only [↓eA, eB, seval]) rfl)
    cases hc : s.flaws.any (fun f => !convex f.base) with
    | true => rw [hc] at h; obtain ⟨rfl, g2⟩ := h; simp only [↓eA, eB, seval, g2]
    | false =>
    rw [hc] at h; obtain ⟨rfl, g1, rfl⟩ := h
    cases ho : outB s with
    | true => simp only [↓eA, eB, seval, g1, e_outside s hF, ho]
    | false =>
    cases hd : disordered s with
    | true => simp only [↓eA, eB, seval, g1, e_outside s hF, ho, e_disordered s hF, hd]
    | false => simp only [↓eA, eB, seval, g1, e_outside s hF, ho, e_disordered s hF, hd])
end Tz
