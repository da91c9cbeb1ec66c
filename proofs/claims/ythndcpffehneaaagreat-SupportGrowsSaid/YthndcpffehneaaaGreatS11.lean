/- Disorder; no conditions. -/
import Derived.Test.YthndcpffehneaaaGreatS10
set_option linter.unusedVariables false
set_option linter.unusedSimpArgs false
set_option linter.unusedSectionVars false
set_option linter.defProp false
set_option linter.deprecated false
set_option maxRecDepth 100000
open Gs Go
namespace Tz
def badIx {α : Type} (l : List α) (ge : α → α → Bool) (i : Nat) : Bool := match l[i - 1]?, l[i]? with
  | some a, some b => ge a b
  | _, _ => false
def steps {α : Type} (l : List α) (ge : α → α → Bool) : Bool := (List.range' 1 (l.length - 1)).any (badIx l ge)
abbrev geBed (a b : Bed) : Bool := decide (b.z ≤ a.z)
abbrev geJoint (a b : Joint) : Bool := !slt a.name b.name
abbrev geFlaw (a b : Flaw) : Bool := !slt a.name b.name
abbrev Hs (s : Survey) : Heap := [(1, .box s.cells false)]
theorem lp_d1 (s : Survey) (hF : s.Fit) (e : Env) (h1 : Gs.get e 1 = .ptr 1 0) (hi : Gs.get e 3 = int (1 : Nat)) :
    Ends T 136002 e (Hs s) (fun X e' H' => H' = Hs s ∧ match steps s.beds geBed with | true => X = .ret ∧ Gs.get e' 2 = .bool true | false => X = .ex 0 ∧ Gs.get e' 1 = .ptr 1 0) := by
  have hb := hF.bl
  refine loop_fr (T := T) (key := 136002) (li := l136002) rfl 1 s.beds.length (badIx s.beds geBed) (Hs s) (fun k e => Gs.get e 1 = .ptr 1 0 ∧ Gs.get e 3 = int k) (fun X e' => X = .ret ∧ Gs.get e' 2 = .bool true) (fun X e' => X = .ex 0 ∧ Gs.get e' 1 = .ptr 1 0) ?_ ?_ e ⟨h1, hi⟩
  · rintro k e hk hlt ⟨h1, h3⟩
    obtain ⟨y, hy⟩ : ∃ y, s.beds[k]? = some y := ⟨_, List.getElem?_eq_getElem (by omega)⟩
    obtain ⟨p, hp⟩ : ∃ p, s.beds[k - 1]? = some p := ⟨_, List.getElem?_eq_getElem (by omega)⟩
    have hil : k - 1 < s.beds.length := by omega
    have hy' : (s.beds.map Bed.enc)[k]? = some y.enc := by simp [hy]
    have hp' : (s.beds.map Bed.enc)[k - 1]? = some p.enc := by simp [hp]
    have hbd : badIx s.beds geBed k = geBed p y := by simp only [badIx, hy, hp]
    rw [hbd]
    simp only [↓eA, eB, seval, l136002, h1, h3, hlt, hil, hy', hp', wrap_pred (show 0 < k by omega) (show k < 4611686018427387904 by omega), wrap_succ (show k < 4611686018427387904 by omega)]
    cases hc : geBed p y <;> (try simp only [Bool.not_eq_true', Bool.not_eq_false'] at hc) <;> simp only [↓eA, eB, seval, hc] <;> and_intros <;> first | trivial | rfl
  · rintro k e hk _ ⟨h1, h3⟩
    have hlt : ¬ k < s.beds.length := by omega
    simp only [↓eA, eB, seval, l136002, h1, h3, hlt]
    and_intros <;> first | trivial | rfl
theorem lp_d2 (s : Survey) (hF : s.Fit) (e : Env) (h1 : Gs.get e 1 = .ptr 1 0) (hi : Gs.get e 4 = int (1 : Nat)) :
    Ends T 136007 e (Hs s) (fun X e' H' => H' = Hs s ∧ match steps s.joints geJoint with | true => X = .ret ∧ Gs.get e' 2 = .bool true | false => X = .ex 2 ∧ Gs.get e' 1 = .ptr 1 0) := by
  have hb := hF.jl
  refine loop_fr (T := T) (key := 136007) (li := l136007) rfl 1 s.joints.length (badIx s.joints geJoint) (Hs s) (fun k e => Gs.get e 1 = .ptr 1 0 ∧ Gs.get e 4 = int k) (fun X e' => X = .ret ∧ Gs.get e' 2 = .bool true) (fun X e' => X = .ex 2 ∧ Gs.get e' 1 = .ptr 1 0) ?_ ?_ e ⟨h1, hi⟩
  · rintro k e hk hlt ⟨h1, h3⟩
    obtain ⟨y, hy⟩ : ∃ y, s.joints[k]? = some y := ⟨_, List.getElem?_eq_getElem (by omega)⟩
    obtain ⟨p, hp⟩ : ∃ p, s.joints[k - 1]? = some p := ⟨_, List.getElem?_eq_getElem (by omega)⟩
    have hil : k - 1 < s.joints.length := by omega
    have hy' : (s.joints.map Joint.enc)[k]? = some y.enc := by simp [hy]
    have hp' : (s.joints.map Joint.enc)[k - 1]? = some p.enc := by simp [hp]
    have hbd : badIx s.joints geJoint k = geJoint p y := by simp only [badIx, hy, hp]
    rw [hbd]
    simp only [↓eA, eB, seval, l136007, h1, h3, hlt, hil, hy', hp', wrap_pred (show 0 < k by omega) (show k < 4611686018427387904 by omega), wrap_succ (show k < 4611686018427387904 by omega)]
    cases hc : geJoint p y <;> (try simp only [Bool.not_eq_true', Bool.not_eq_false'] at hc) <;> simp only [↓eA, eB, seval, hc] <;> and_intros <;> first | trivial | rfl
  · rintro k e hk _ ⟨h1, h3⟩
    have hlt : ¬ k < s.joints.length := by omega
    simp only [↓eA, eB, seval, l136007, h1, h3, hlt]
    and_intros <;> first | trivial | rfl
theorem lp_d3 (s : Survey) (hF : s.Fit) (e : Env) (h1 : Gs.get e 1 = .ptr 1 0) (hi : Gs.get e 5 = int (1 : Nat)) :
    Ends T 136012 e (Hs s) (fun X e' H' => H' = Hs s ∧ match steps s.flaws geFlaw with | true => X = .ret ∧ Gs.get e' 2 = .bool true | false => X = .ex 4 ∧ Gs.get e' 1 = .ptr 1 0) := by
  have hb := hF.fl
  refine loop_fr (T := T) (key := 136012) (li := l136012) rfl 1 s.flaws.length (badIx s.flaws geFlaw) (Hs s) (fun k e => Gs.get e 1 = .ptr 1 0 ∧ Gs.get e 5 = int k) (fun X e' => X = .ret ∧ Gs.get e' 2 = .bool true) (fun X e' => X = .ex 4 ∧ Gs.get e' 1 = .ptr 1 0) ?_ ?_ e ⟨h1, hi⟩
  · rintro k e hk hlt ⟨h1, h3⟩
    obtain ⟨y, hy⟩ : ∃ y, s.flaws[k]? = some y := ⟨_, List.getElem?_eq_getElem (by omega)⟩
    obtain ⟨p, hp⟩ : ∃ p, s.flaws[k - 1]? = some p := ⟨_, List.getElem?_eq_getElem (by omega)⟩
    have hil : k - 1 < s.flaws.length := by omega
    have hy' : (s.flaws.map Flaw.enc)[k]? = some y.enc := by simp [hy]
    have hp' : (s.flaws.map Flaw.enc)[k - 1]? = some p.enc := by simp [hp]
    have hbd : badIx s.flaws geFlaw k = geFlaw p y := by simp only [badIx, hy, hp]
    rw [hbd]
    simp only [↓eA, eB, seval, l136012, h1, h3, hlt, hil, hy', hp', wrap_pred (show 0 < k by omega) (show k < 4611686018427387904 by omega), wrap_succ (show k < 4611686018427387904 by omega)]
    cases hc : geFlaw p y <;> (try simp only [Bool.not_eq_true', Bool.not_eq_false'] at hc) <;> simp only [↓eA, eB, seval, hc] <;> and_intros <;> first | trivial | rfl
  · rintro k e hk _ ⟨h1, h3⟩
    have hlt : ¬ k < s.flaws.length := by omega
    simp only [↓eA, eB, seval, l136012, h1, h3, hlt]
    and_intros <;> first | trivial | rfl
def disordered (s : Survey) : Bool := steps s.beds geBed || (steps s.joints geJoint || (steps s.flaws geFlaw || decide ((dd seq (sortB s.names)).length ≠ s.names.length)))
theorem strs_map : ∀ l : List ByteArray, strs (l.map .str) = some l
  | [] => rfl
  | x :: r => by simp [strs, strs_map r]
theorem e_sort (nz : Bool) (l : List ByteArray) (hb : l.length < 4611686018427387904) : L.call 63 [.ow 500000] [(500000, .row nz 1 (l.map .str) 0 false)] = some (.tup [], [(500000, .row nz 1 ((sortB l).map .str) 0 false)]) :=
  ext_eq (s := sortStrX) rfl (by simp [sortStrX, hget, strs_map, hset, hb])
theorem Survey.names_length (s : Survey) : s.names.length = s.beds.length + s.joints.length + s.flaws.length := by
  simp [Survey.names]; omega
theorem e_disordered (s : Survey) (hF : s.Fit) : L.call 136 [s.enc] [] = some (.bool (disordered s), []) :=
  call_eq rfl rfl (by
    have hb := hF.bl; have hj := hF.jl; have hf := hF.fl
    have hnl := s.names_length
    have hsl : (sortB s.names).length = s.names.length := (sortB_perm _).length_eq
    simp only [↓eA, eB, seval, c136]
    generalize hE : (lim T).loop 136002 _ _ = R
    obtain ⟨X, e', H', rfl, rfl, h⟩ := Ends.at hE (lp_d1 s hF _ rfl rfl)
    unfold disordered
    cases h1 : steps s.beds geBed with
    | true => rw [h1] at h; obtain ⟨rfl, g2⟩ := h; simp only [↓eA, eB, seval, g2]
    | false =>
    rw [h1] at h; obtain ⟨rfl, g1⟩ := h
    simp only [↓eA, eB, seval, g1]
    generalize hE : (lim T).loop 136007 _ _ = R
    obtain ⟨X, e', H', rfl, rfl, h⟩ := Ends.at hE (lp_d2 s hF _ (by simp only [↓eA, eB, seval, g1]) (by simp only [↓eA, eB, seval]))
    cases h2 : steps s.joints geJoint with
    | true => rw [h2] at h; obtain ⟨rfl, g2⟩ := h; simp only [↓eA, eB, seval, g2]
    | false =>
    rw [h2] at h; obtain ⟨rfl, g1⟩ := h
    simp only [↓eA, eB, seval, g1]
    generalize hE : (lim T).loop 136012 _ _ = R
    obtain ⟨X, e', H', rfl, rfl, h⟩ := Ends.at hE (lp_d3 s hF _ (by simp only [↓eA, eB, seval, g1]) (by simp only [↓eA, eB, seval]))
    cases h3 : steps s.flaws geFlaw with
    | true => rw [h3] at h; obtain ⟨rfl, g2⟩ := h; simp only [↓eA, eB, seval, g2]
    | false =>
    rw [h3] at h; obtain ⟨rfl, g1⟩ := h
    have hsort := e_sort true s.names (by omega)
    rcases e_compact_s (sortB s.names) (by omega) true false with ⟨hd, hcc⟩ | ⟨zq, hz1, hz2, hz3, hcc⟩
    · simp only [↓eA, eB, seval, g1, e_pNames s hF, hsort, killE_nil, hcc]
      rw [hd]; simp; omega
    · simp only [↓eA, eB, seval, g1, e_pNames s hF, hsort, killE_nil, hcc]
      simp; omega)
end Tz
