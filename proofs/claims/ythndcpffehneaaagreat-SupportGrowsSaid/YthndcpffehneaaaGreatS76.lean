/- Why a block cannot be freed; no conditions. -/
import Derived.Test.YthndcpffehneaaaGreatS75
set_option linter.unusedVariables false
set_option linter.unusedSimpArgs false
set_option linter.unusedSectionVars false
set_option linter.defProp false
set_option linter.deprecated false
set_option maxRecDepth 100000
open Gs Go
namespace Tz.C18
/-! support.Why and its like. -/
theorem e_why1 (b : Block) (x : Box) : L.call 75 [x.enc, .fp b.cells 0] [] = some (.bool (decide (b.box.z1 ≤ x.z0) && over2 x b.box), []) :=
  call_eq rfl rfl (by simp only [↓eA, eB, seval, c75, e_over x b.box])
theorem e_why2 (s : Site) (tk : List ByteArray) (b : Block) (x : Box) : L.call 77 [x.enc, .fp (stc s (.fm (entT tk))) 0, .fp b.cells 0] [] = some (.bool (!clearB s.safety b.box x), []) :=
  call_eq rfl rfl (by
    have h := e_Clear s.safety b.box x
    simp only [↓eA, eB, seval, c77, h])
abbrev fb (f0 f1 f2 f3 : Bool) : Nat → Bool
  | 0 => f0
  | 1 => f1
  | 2 => f2
  | 3 => f3
  | _ => false
def cntS (f0 f1 f2 f3 : Bool) (a : Int) (i : Nat) : Empty ⊕ Int := .inr (bif fb f0 f1 f2 f3 i then a + 1 else a)
def cntB (f0 f1 f2 f3 : Bool) : Int := (((bif f0 then 1 else 0) + (bif f1 then 1 else 0)) + (bif f2 then 1 else 0)) + (bif f3 then 1 else 0)
abbrev H49 (s : Site) (tk : List ByteArray) (b : Block) : Heap := [(2, .box (stc s (.fm (entT tk))) false), (3, .box b.cells true), (4, .box [int 0, .str .empty] false)]
theorem lp_cnt (s : Site) (tk : List ByteArray) (b : Block) (f0 f1 f2 f3 : Bool) (e : Env) (H : Heap) (h2 : Gs.get e 2 = .ptr 2 0) (h3 : Gs.get e 3 = .ptr 3 0) (h4 : Gs.get e 4 = .ptr 4 0) (h7 : Gs.get e 7 = int 0) (h42 : Gs.get e 42 = .agg [.bool f0, .bool f1, .bool f2, .bool f3]) (h43 : Gs.get e 43 = int 0)
    (hH2 : hget H 2 = some (.box (stc s (.fm (entT tk))) false)) (hH3 : hget H 3 = some (.box b.cells true)) (hH4 : hget H 4 = some (.box [int 0, .str .empty] false)) :
    Ends T 49010 e H (fun X e' H' => X = .ex 0 ∧ Gs.get e' 2 = .ptr 2 0 ∧ Gs.get e' 3 = .ptr 3 0 ∧ Gs.get e' 4 = .ptr 4 0 ∧ Gs.get e' 7 = int (cntB f0 f1 f2 f3) ∧ H' = H49 s tk b) := by
  refine (loop_upto (T := T) (key := 49010) (li := l49010) rfl (cntS f0 f1 f2 f3) 4
    (fun i a e H => Gs.get e 2 = .ptr 2 0 ∧ Gs.get e 3 = .ptr 3 0 ∧ Gs.get e 4 = .ptr 4 0 ∧ Gs.get e 7 = int a ∧ Gs.get e 42 = .agg [.bool f0, .bool f1, .bool f2, .bool f3] ∧ Gs.get e 43 = int i ∧ hget H 2 = some (.box (stc s (.fm (entT tk))) false) ∧ hget H 3 = some (.box b.cells true) ∧ hget H 4 = some (.box [int 0, .str .empty] false) ∧ 0 ≤ a ∧ a ≤ i ∧ i ≤ 4)
    (fun r X e' H' => False) (fun a X e' H' => X = .ex 0 ∧ Gs.get e' 2 = .ptr 2 0 ∧ Gs.get e' 3 = .ptr 3 0 ∧ Gs.get e' 4 = .ptr 4 0 ∧ Gs.get e' 7 = int a ∧ H' = H49 s tk b) ?_ ?_ ?_ 4 0 0 e H rfl ⟨h2, h3, h4, h7, h42, h43, hH2, hH3, hH4, by omega, by omega, by omega⟩).mono fun X e' H' h => ?_
  · rintro i a a' e H hi ⟨h2, h3, h4, h7, h42, h43, hH2, hH3, hH4, ha, hai, _⟩ hf
    injection hf with hf
    have hw : IntKind.i64.wrap (a + 1) = a + 1 := wrap_in (by omega) (by omega)
    have hcase : i = 0 ∨ i = 1 ∨ i = 2 ∨ i = 3 := by omega
    rcases hcase with rfl | rfl | rfl | rfl
    · simp only [fb] at hf
      cases f0 <;> simp only [cond_true, cond_false] at hf <;> subst hf <;> simp only [↓eA, eB, seval, l49010, h2, h3, h4, h7, h42, h43, hH2, hH3, hH4, hw, i40] <;> and_intros <;> first | trivial | rfl | omega
    · simp only [fb] at hf
      cases f1 <;> simp only [cond_true, cond_false] at hf <;> subst hf <;> simp only [↓eA, eB, seval, l49010, h2, h3, h4, h7, h42, h43, hH2, hH3, hH4, hw, i41] <;> and_intros <;> first | trivial | rfl | omega
    · simp only [fb] at hf
      cases f2 <;> simp only [cond_true, cond_false] at hf <;> subst hf <;> simp only [↓eA, eB, seval, l49010, h2, h3, h4, h7, h42, h43, hH2, hH3, hH4, hw, i42] <;> and_intros <;> first | trivial | rfl | omega
    · simp only [fb] at hf
      cases f3 <;> simp only [cond_true, cond_false] at hf <;> subst hf <;> simp only [↓eA, eB, seval, l49010, h2, h3, h4, h7, h42, h43, hH2, hH3, hH4, hw, i43] <;> and_intros <;> first | trivial | rfl | omega
  · rintro i a r; exact r.elim
  · rintro i a e H hi ⟨h2, h3, h4, h7, h42, h43, hH2, hH3, hH4, ha, hai, hi4⟩
    have : i = 4 := by omega
    subst this
    simp only [↓eA, eB, seval, l49010, h2, h3, h4, h7, h42, h43, hH2, hH3, hH4]
    and_intros <;> first | trivial | rfl
  · have key : upto (cntS f0 f1 f2 f3) 4 0 0 = .inr (cntB f0 f1 f2 f3) := by
      simp only [upto, cntS, fb, cntB]
      cases f0 <;> cases f1 <;> cases f2 <;> cases f3 <;> rfl
    rw [key] at h
    exact h
def whyB (s : Site) (tk : List ByteArray) (b : Block) : Int × ByteArray := bif taken tk b then (1, .empty) else match firstR s tk b.name (fun x => decide (b.box.z1 ≤ x.z0) && over2 x b.box) with
  | some c => (2, c.name)
  | none => bif !beddedB s.survey b.box.z0 then (3, .empty) else bif decide (cntB (freeB s tk b.box 0) (freeB s tk b.box 1) (freeB s tk b.box 2) (freeB s tk b.box 3) < 2) then (4, .empty) else
    match firstR s tk b.name (fun x => !clearB s.safety b.box x) with
    | some c => (5, c.name)
    | none => (0, .empty)
theorem e_why (s : Site) (hF : s.Fit) (tk : List ByteArray) (b : Block) : L.call 49 [ste s (.fm (entT tk)), b.enc] [] = some (.agg [int (whyB s tk b).1, .str (whyB s tk b).2], []) :=
  call_eq rfl rfl (by
    have hm := mfind_entT b.name tk
    have h1 := e_first s hF tk b.name 75 [.fp b.cells 0] rfl (fun x => decide (b.box.z1 ≤ x.z0) && over2 x b.box) (fun c _ => e_why1 b c.box)
    have h2 := e_bedded s.survey hF.sv b.box.z0
    have h3 := e_faces s hF tk b.box
    have h4 := e_first s hF tk b.name 77 [.fp (stc s (.fm (entT tk))) 0, .fp b.cells 0] rfl (fun x => !clearB s.safety b.box x) (fun c _ => e_why2 s tk b c.box)
    unfold whyB
    cases ht : taken tk b with
    | true => unfold taken at ht; rw [ht] at hm; simp only [↓eA, eB, seval, c49, hm]
    | false =>
    unfold taken at ht
    rw [ht] at hm
    cases hc : firstR s tk b.name (fun x => decide (b.box.z1 ≤ x.z0) && over2 x b.box) with
    | some c => rw [hc] at h1; simp only [↓eA, eB, seval, c49, hm, h1]
    | none =>
    rw [hc] at h1
    cases hb : beddedB s.survey b.box.z0 with
    | false => rw [hb] at h2; simp only [↓eA, eB, seval, c49, hm, h1, h2]
    | true =>
    rw [hb] at h2
    simp only [↓eA, eB, seval, c49, hm, h1, h2, h3]
    generalize hE : (lim T).loop 49010 _ _ = R
    obtain ⟨X, e', H', rfl, rfl, g2, g3, g4, g7, rfl⟩ := Ends.at hE (lp_cnt s tk b (freeB s tk b.box 0) (freeB s tk b.box 1) (freeB s tk b.box 2) (freeB s tk b.box 3) _ _ (by simp only [↓eA, eB, seval]) (by simp only [↓eA, eB, seval]) (by simp only [↓eA, eB, seval]) (by simp only [↓eA, eB, seval]) (by simp only [↓eA, eB, seval]) (by simp only [↓eA, eB, seval]) rfl rfl rfl)
    cases hn : decide (cntB (freeB s tk b.box 0) (freeB s tk b.box 1) (freeB s tk b.box 2) (freeB s tk b.box 3) < 2) with
    | true => simp only [↓eA, eB, seval, g2, g3, g4, g7, hn]
    | false =>
    cases hu : firstR s tk b.name (fun x => !clearB s.safety b.box x) with
    | some c => rw [hu] at h4; simp only [↓eA, eB, seval, g2, g3, g4, g7, hn, h4]
    | none => rw [hu] at h4; simp only [↓eA, eB, seval, g2, g3, g4, g7, hn, h4])
end Tz.C18
