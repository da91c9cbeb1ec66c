/- Shapes, order and place, reference; no conditions. -/
import Derived.Test.YtbdcbppmgbekoaaGreatDoorS17
set_option linter.unusedVariables false
set_option linter.unusedSimpArgs false
set_option linter.unusedSectionVars false
set_option linter.defProp false
set_option linter.deprecated false
open Gs Go
namespace Tz
/-! gangsawref13.shapes. -/
def rShapes (s : Survey) : Int := bif s.joints.any jbad then 1 else bif s.flaws.any fbad then 1 else
  match s.flaws.find? (fun f => !decide (polyErr f.base = 0)) with
  | some f => polyErr f.base
  | none => bif s.flaws.any (fun f => !convex f.base) then 10 else 0
abbrev box1 (s : Survey) (H : Heap) : Prop := hget H 1 = some (.box s.cells false)
theorem lp_h1 (s : Survey) (hF : s.Fit) (e : Env) (H : Heap) (h1 : Gs.get e 1 = .ptr 1 0) (h3 : Gs.get e 3 = int 0) (hH : box1 s H) :
    Ends T 29002 e H (fun X e' H' => match s.joints.any jbad with | true => X = .ret ∧ Gs.get e' 2 = int 1 | false => X = .ex 0 ∧ Gs.get e' 1 = .ptr 1 0 ∧ H' = Hs s) := by
  have hb := hF.jl
  refine loop_anyH (T := T) (key := 29002) (li := l29002) rfl s.joints jbad (fun i e H => Gs.get e 1 = .ptr 1 0 ∧ Gs.get e 3 = int i ∧ box1 s H) (fun X e' H' => X = .ret ∧ Gs.get e' 2 = int 1) (fun X e' H' => X = .ex 0 ∧ Gs.get e' 1 = .ptr 1 0 ∧ H' = Hs s) ?_ ?_ e H ⟨h1, h3, hH⟩
  · rintro i j e H hx hi ⟨h1, h3, hH⟩
    have hx' : (s.joints.map Joint.enc)[i]? = some j.enc := by simp [hx]
    simp only [↓eA, eB, reduceIte, Nat.reduceBEq, Int.reduceNeg, Int.reduceLT, Int.reduceLE, Int.reduceAdd, Int.reduceSub, Int.reduceMul, Int.reduceEq, Int.reduceToNat, Nat.reduceLT, Nat.reduceAdd, Nat.reduceMul, Nat.reduceSub, l29002, h1, h3, hH, hi, hx', wrap_succ (show i < 4611686018427387904 by omega)]
    cases hc : jbad j <;> simp only [jbad] at hc <;> simp only [↓eA, eB, reduceIte, Nat.reduceBEq, Int.reduceNeg, Int.reduceLT, Int.reduceLE, Int.reduceAdd, Int.reduceSub, Int.reduceMul, Int.reduceEq, Int.reduceToNat, Nat.reduceLT, Nat.reduceAdd, Nat.reduceMul, Nat.reduceSub, hc] <;> and_intros <;> first | trivial | rfl
  · rintro e H ⟨h1, h3, hH⟩
    simp only [↓eA, eB, reduceIte, Nat.reduceBEq, Int.reduceNeg, Int.reduceLT, Int.reduceLE, Int.reduceAdd, Int.reduceSub, Int.reduceMul, Int.reduceEq, Int.reduceToNat, Nat.reduceLT, Nat.reduceAdd, Nat.reduceMul, Nat.reduceSub, l29002, h1, h3, hH, Nat.lt_irrefl]
    and_intros <;> first | trivial | rfl
theorem lp_h2 (s : Survey) (hF : s.Fit) (e : Env) (H : Heap) (h1 : Gs.get e 1 = .ptr 1 0) (h3 : Gs.get e 5 = int 0) (hH : box1 s H) :
    Ends T 29008 e H (fun X e' H' => match s.flaws.any fbad with | true => X = .ret ∧ Gs.get e' 2 = int 1 | false => X = .ex 2 ∧ Gs.get e' 1 = .ptr 1 0 ∧ H' = Hs s) := by
  have hb := hF.fl
  refine loop_anyH (T := T) (key := 29008) (li := l29008) rfl s.flaws fbad (fun i e H => Gs.get e 1 = .ptr 1 0 ∧ Gs.get e 5 = int i ∧ box1 s H) (fun X e' H' => X = .ret ∧ Gs.get e' 2 = int 1) (fun X e' H' => X = .ex 2 ∧ Gs.get e' 1 = .ptr 1 0 ∧ H' = Hs s) ?_ ?_ e H ⟨h1, h3, hH⟩
  · rintro i f e H hx hi ⟨h1, h3, hH⟩
    have hx' : (s.flaws.map Flaw.enc)[i]? = some f.enc := by simp [hx]
    simp only [↓eA, eB, reduceIte, Nat.reduceBEq, Int.reduceNeg, Int.reduceLT, Int.reduceLE, Int.reduceAdd, Int.reduceSub, Int.reduceMul, Int.reduceEq, Int.reduceToNat, Nat.reduceLT, Nat.reduceAdd, Nat.reduceMul, Nat.reduceSub, l29008, h1, h3, hH, hi, hx', wrap_succ (show i < 4611686018427387904 by omega)]
    cases hc : fbad f <;> simp only [fbad] at hc <;> simp only [↓eA, eB, reduceIte, Nat.reduceBEq, Int.reduceNeg, Int.reduceLT, Int.reduceLE, Int.reduceAdd, Int.reduceSub, Int.reduceMul, Int.reduceEq, Int.reduceToNat, Nat.reduceLT, Nat.reduceAdd, Nat.reduceMul, Nat.reduceSub, hc] <;> and_intros <;> first | trivial | rfl
  · rintro e H ⟨h1, h3, hH⟩
    simp only [↓eA, eB, reduceIte, Nat.reduceBEq, Int.reduceNeg, Int.reduceLT, Int.reduceLE, Int.reduceAdd, Int.reduceSub, Int.reduceMul, Int.reduceEq, Int.reduceToNat, Nat.reduceLT, Nat.reduceAdd, Nat.reduceMul, Nat.reduceSub, l29008, h1, h3, hH, Nat.lt_irrefl]
    and_intros <;> first | trivial | rfl
theorem lp_h3 (s : Survey) (hF : s.Fit) (e : Env) (H : Heap) (h1 : Gs.get e 1 = .ptr 1 0) (h3 : Gs.get e 6 = int 0) (hH : box1 s H) :
    Ends T 29013 e H (fun X e' H' => match s.flaws.find? (fun f => !decide (polyErr f.base = 0)) with | some f => X = .ret ∧ Gs.get e' 2 = int (polyErr f.base) | none => X = .ex 4 ∧ Gs.get e' 1 = .ptr 1 0 ∧ H' = Hs s) := by
  have hb := hF.fl
  refine (loop_thru (T := T) (key := 29013) (li := l29013) rfl (S := Unit) (R := Flaw) (fun s f => bif !decide (polyErr f.base = 0) then .inl f else .inr s) s.flaws (fun i _ e H => Gs.get e 1 = .ptr 1 0 ∧ Gs.get e 6 = int i ∧ box1 s H) (fun f X e' H' => X = .ret ∧ Gs.get e' 2 = int (polyErr f.base)) (fun _ X e' H' => X = .ex 4 ∧ Gs.get e' 1 = .ptr 1 0 ∧ H' = Hs s) ?_ ?_ ?_ s.flaws [] () e H rfl ⟨h1, h3, hH⟩).mono ?_
  · rintro i f u u' e H hx ⟨h1, h3, hH⟩ hf
    have hi : i < s.flaws.length := (List.getElem?_eq_some_iff.1 hx).1
    have hx' : (s.flaws.map Flaw.enc)[i]? = some f.enc := by simp [hx]
    have hfb := hF.base f (List.mem_of_getElem? hx)
    cases hp : decide (polyErr f.base = 0) with
    | false => rw [hp] at hf; cases hf
    | true =>
      simp only [↓eA, eB, reduceIte, Nat.reduceBEq, Int.reduceNeg, Int.reduceLT, Int.reduceLE, Int.reduceAdd, Int.reduceSub, Int.reduceMul, Int.reduceEq, Int.reduceToNat, Nat.reduceLT, Nat.reduceAdd, Nat.reduceMul, Nat.reduceSub, l29013, h1, h3, hH, hi, hx', e_rPolyCheck f.base hfb, hp, wrap_succ (show i < 4611686018427387904 by omega)]
      and_intros <;> first | trivial | rfl
  · rintro i f u r e H hx ⟨h1, h3, hH⟩ hf
    have hi : i < s.flaws.length := (List.getElem?_eq_some_iff.1 hx).1
    have hx' : (s.flaws.map Flaw.enc)[i]? = some f.enc := by simp [hx]
    have hfb := hF.base f (List.mem_of_getElem? hx)
    cases hp : decide (polyErr f.base = 0) with
    | true => rw [hp] at hf; cases hf
    | false =>
      rw [hp] at hf; injection hf with hf; subst hf
      simp only [↓eA, eB, reduceIte, Nat.reduceBEq, Int.reduceNeg, Int.reduceLT, Int.reduceLE, Int.reduceAdd, Int.reduceSub, Int.reduceMul, Int.reduceEq, Int.reduceToNat, Nat.reduceLT, Nat.reduceAdd, Nat.reduceMul, Nat.reduceSub, l29013, h1, h3, hH, hi, hx', e_rPolyCheck f.base hfb, hp]
      and_intros <;> first | trivial | rfl
  · rintro u e H ⟨h1, h3, hH⟩
    simp only [↓eA, eB, reduceIte, Nat.reduceBEq, Int.reduceNeg, Int.reduceLT, Int.reduceLE, Int.reduceAdd, Int.reduceSub, Int.reduceMul, Int.reduceEq, Int.reduceToNat, Nat.reduceLT, Nat.reduceAdd, Nat.reduceMul, Nat.reduceSub, l29013, h1, h3, hH, Nat.lt_irrefl]
    and_intros <;> first | trivial | rfl
  · intro X e' H' h
    rw [thru_find] at h
    cases hf : s.flaws.find? (fun f => !decide (polyErr f.base = 0)) with
    | none => rw [hf] at h; exact h
    | some f => rw [hf] at h; exact h
theorem lp_h4 (s : Survey) (hF : s.Fit) (hall : ∀ f ∈ s.flaws, polyErr f.base = 0) (e : Env) (H : Heap) (h1 : Gs.get e 1 = .ptr 1 0) (h3 : Gs.get e 8 = int 0) (hH : box1 s H) :
    Ends T 29019 e H (fun X e' H' => match s.flaws.any (fun f => !convex f.base) with | true => X = .ret ∧ Gs.get e' 2 = int 10 | false => X = .ex 6) := by
  have hb := hF.fl
  refine loop_anyH (T := T) (key := 29019) (li := l29019) rfl s.flaws (fun f => !convex f.base) (fun i e H => Gs.get e 1 = .ptr 1 0 ∧ Gs.get e 8 = int i ∧ box1 s H) (fun X e' H' => X = .ret ∧ Gs.get e' 2 = int 10) (fun X e' H' => X = .ex 6) ?_ ?_ e H ⟨h1, h3, hH⟩
  · rintro i f e H hx hi ⟨h1, h3, hH⟩
    have hx' : (s.flaws.map Flaw.enc)[i]? = some f.enc := by simp [hx]
    have hm := List.mem_of_getElem? hx
    have hfb := hF.base f hm
    have hcx := e_rConvex f.base hfb (polyErr_in (hall f hm))
    simp only [↓eA, eB, reduceIte, Nat.reduceBEq, Int.reduceNeg, Int.reduceLT, Int.reduceLE, Int.reduceAdd, Int.reduceSub, Int.reduceMul, Int.reduceEq, Int.reduceToNat, Nat.reduceLT, Nat.reduceAdd, Nat.reduceMul, Nat.reduceSub, l29019, h1, h3, hH, hi, hx', hcx, wrap_succ (show i < 4611686018427387904 by omega)]
    cases hc : convex f.base <;> simp only [↓eA, eB, reduceIte, Nat.reduceBEq, Int.reduceNeg, Int.reduceLT, Int.reduceLE, Int.reduceAdd, Int.reduceSub, Int.reduceMul, Int.reduceEq, Int.reduceToNat, Nat.reduceLT, Nat.reduceAdd, Nat.reduceMul, Nat.reduceSub, hc] <;> and_intros <;> first | trivial | rfl
  · rintro e H ⟨h1, h3, hH⟩
    simp only [↓eA, eB, reduceIte, Nat.reduceBEq, Int.reduceNeg, Int.reduceLT, Int.reduceLE, Int.reduceAdd, Int.reduceSub, Int.reduceMul, Int.reduceEq, Int.reduceToNat, Nat.reduceLT, Nat.reduceAdd, Nat.reduceMul, Nat.reduceSub, l29019, h1, h3, hH, Nat.lt_irrefl]
    and_intros <;> first | trivial | rfl
theorem e_shapes (s : Survey) (hF : s.Fit) : L.call 29 [s.enc] [] = some (int (rShapes s), []) :=
  call_eq rfl rfl (by
    have hb := hF.bl; have hj := hF.jl; have hf := hF.fl
    unfold rShapes
    simp only [↓eA, eB, reduceIte, Nat.reduceBEq, Int.reduceNeg, Int.reduceLT, Int.reduceLE, Int.reduceAdd, Int.reduceSub, Int.reduceMul, Int.reduceEq, Int.reduceToNat, Nat.reduceLT, Nat.reduceAdd, Nat.reduceMul, Nat.reduceSub, c29]
    generalize hE : (lim T).loop 29002 _ _ = R
    obtain ⟨X, e', H', rfl, h⟩ := Ends.at hE (lp_h1 s hF _ _ rfl rfl rfl)
    cases hk : s.joints.any jbad with
    | true => rw [hk] at h; obtain ⟨rfl, g2⟩ := h; simp only [↓eA, eB, reduceIte, Nat.reduceBEq, Int.reduceNeg, Int.reduceLT, Int.reduceLE, Int.reduceAdd, Int.reduceSub, Int.reduceMul, Int.reduceEq, Int.reduceToNat, Nat.reduceLT, Nat.reduceAdd, Nat.reduceMul, Nat.reduceSub, g2]
    | false =>
    rw [hk] at h; obtain ⟨rfl, g1, rfl⟩ := h
    simp only [↓eA, eB, reduceIte, Nat.reduceBEq, Int.reduceNeg, Int.reduceLT, Int.reduceLE, Int.reduceAdd, Int.reduceSub, Int.reduceMul, Int.reduceEq, Int.reduceToNat, Nat.reduceLT, Nat.reduceAdd, Nat.reduceMul, Nat.reduceSub, g1]
    generalize hE : (lim T).loop 29008 _ _ = R
    obtain ⟨X, e', H', rfl, h⟩ := Ends.at hE (lp_h2 s hF _ _ (by simp only [↓eA, eB, reduceIte, Nat.reduceBEq, Int.reduceNeg, Int.reduceLT, Int.reduceLE, Int.reduceAdd, Int.reduceSub, Int.reduceMul, Int.reduceEq, Int.reduceToNat, Nat.reduceLT, Nat.reduceAdd, Nat.reduceMul, Nat.reduceSub, g1]) (by simp only [↓eA, eB, reduceIte, Nat.reduceBEq, Int.reduceNeg, Int.reduceLT, Int.reduceLE, Int.reduceAdd, Int.reduceSub, Int.reduceMul, Int.reduceEq, Int.reduceToNat, Nat.reduceLT, Nat.reduceAdd, Nat.reduceMul, Nat.reduceSub]) rfl)
    cases hk : s.flaws.any fbad with
    | true => rw [hk] at h; obtain ⟨rfl, g2⟩ := h; simp only [↓eA, eB, reduceIte, Nat.reduceBEq, Int.reduceNeg, Int.reduceLT, Int.reduceLE, Int.reduceAdd, Int.reduceSub, Int.reduceMul, Int.reduceEq, Int.reduceToNat, Nat.reduceLT, Nat.reduceAdd, Nat.reduceMul, Nat.reduceSub, g2]
    | false =>
    rw [hk] at h; obtain ⟨rfl, g1, rfl⟩ := h
    simp only [↓eA, eB, reduceIte, Nat.reduceBEq, Int.reduceNeg, Int.reduceLT, Int.reduceLE, Int.reduceAdd, Int.reduceSub, Int.reduceMul, Int.reduceEq, Int.reduceToNat, Nat.reduceLT, Nat.reduceAdd, Nat.reduceMul, Nat.reduceSub, g1]
    generalize hE : (lim T).loop 29013 _ _ = R
    obtain ⟨X, e', H', rfl, h⟩ := Ends.at hE (lp_h3 s hF _ _ (by simp only [↓eA, eB, reduceIte, Nat.reduceBEq, Int.reduceNeg, Int.reduceLT, Int.reduceLE, Int.reduceAdd, Int.reduceSub, Int.reduceMul, Int.reduceEq, Int.reduceToNat, Nat.reduceLT, Nat.reduceAdd, Nat.reduceMul, Nat.reduceSub, g1]) (by simp only [↓eA, eB, reduceIte, Nat.reduceBEq, Int.reduceNeg, Int.reduceLT, Int.reduceLE, Int.reduceAdd, Int.reduceSub, Int.reduceMul, Int.reduceEq, Int.reduceToNat, Nat.reduceLT, Nat.reduceAdd, Nat.reduceMul, Nat.reduceSub]) rfl)
    cases hk : s.flaws.find? (fun f => !decide (polyErr f.base = 0)) with
    | some f => rw [hk] at h; obtain ⟨rfl, g2⟩ := h; simp only [↓eA, eB, reduceIte, Nat.reduceBEq, Int.reduceNeg, Int.reduceLT, Int.reduceLE, Int.reduceAdd, Int.reduceSub, Int.reduceMul, Int.reduceEq, Int.reduceToNat, Nat.reduceLT, Nat.reduceAdd, Nat.reduceMul, Nat.reduceSub, g2]
    | none =>
    rw [hk] at h; obtain ⟨rfl, g1, rfl⟩ := h
    simp only [↓eA, eB, reduceIte, Nat.reduceBEq, Int.reduceNeg, Int.reduceLT, Int.reduceLE, Int.reduceAdd, Int.reduceSub, Int.reduceMul, Int.reduceEq, Int.reduceToNat, Nat.reduceLT, Nat.reduceAdd, Nat.reduceMul, Nat.reduceSub, g1]
    generalize hE : (lim T).loop 29019 _ _ = R
    obtain ⟨X, e', H', rfl, h⟩ := Ends.at hE (lp_h4 s hF (polyErr_find hk) _ _ (by simp only [↓eA, eB, reduceIte, Nat.reduceBEq, Int.reduceNeg, Int.reduceLT, Int.reduceLE, Int.reduceAdd, Int.reduceSub, Int.reduceMul, Int.reduceEq, Int.reduceToNat, Nat.reduceLT, Nat.reduceAdd, Nat.reduceMul, Nat.reduceSub, g1]) (by simp only [↓eA, eB, reduceIte, Nat.reduceBEq, Int.reduceNeg, Int.reduceLT, Int.reduceLE, Int.reduceAdd, Int.reduceSub, Int.reduceMul, Int.reduceEq, Int.reduceToNat, Nat.reduceLT, Nat.reduceAdd, Nat.reduceMul, Nat.reduceSub]) rfl)
    cases hk : s.flaws.any (fun f => !convex f.base) with
    | true => rw [hk] at h; obtain ⟨rfl, g2⟩ := h; simp only [↓eA, eB, reduceIte, Nat.reduceBEq, Int.reduceNeg, Int.reduceLT, Int.reduceLE, Int.reduceAdd, Int.reduceSub, Int.reduceMul, Int.reduceEq, Int.reduceToNat, Nat.reduceLT, Nat.reduceAdd, Nat.reduceMul, Nat.reduceSub, g2]
    | false => rw [hk] at h; subst h; simp only [↓eA, eB, reduceIte, Nat.reduceBEq, Int.reduceNeg, Int.reduceLT, Int.reduceLE, Int.reduceAdd, Int.reduceSub, Int.reduceMul, Int.reduceEq, Int.reduceToNat, Nat.reduceLT, Nat.reduceAdd, Nat.reduceMul, Nat.reduceSub])
/-! gangsawref13.unordered. -/
theorem lp_u1 (s : Survey) (hF : s.Fit) (e : Env) (h1 : Gs.get e 1 = .ptr 1 0) (hi : Gs.get e 3 = int (1 : Nat)) :
    Ends T 31002 e (Hs s) (fun X e' H' => H' = Hs s ∧ match steps s.beds geBed with | true => X = .ret ∧ Gs.get e' 2 = .bool true | false => X = .ex 0 ∧ Gs.get e' 1 = .ptr 1 0) := by
  have hb := hF.bl
  refine loop_fr (T := T) (key := 31002) (li := l31002) rfl 1 s.beds.length (badIx s.beds geBed) (Hs s) (fun k e => Gs.get e 1 = .ptr 1 0 ∧ Gs.get e 3 = int k) (fun X e' => X = .ret ∧ Gs.get e' 2 = .bool true) (fun X e' => X = .ex 0 ∧ Gs.get e' 1 = .ptr 1 0) ?_ ?_ e ⟨h1, hi⟩
  · rintro k e hk hlt ⟨h1, h3⟩
    obtain ⟨y, hy⟩ : ∃ y, s.beds[k]? = some y := ⟨_, List.getElem?_eq_getElem (by omega)⟩
    obtain ⟨p, hp⟩ : ∃ p, s.beds[k - 1]? = some p := ⟨_, List.getElem?_eq_getElem (by omega)⟩
    have hil : k - 1 < s.beds.length := by omega
    have hy' : (s.beds.map Bed.enc)[k]? = some y.enc := by simp [hy]
    have hp' : (s.beds.map Bed.enc)[k - 1]? = some p.enc := by simp [hp]
    have hbd : badIx s.beds geBed k = geBed p y := by simp only [badIx, hy, hp]
    rw [hbd]
    simp only [↓eA, eB, reduceIte, Nat.reduceBEq, Int.reduceNeg, Int.reduceLT, Int.reduceLE, Int.reduceAdd, Int.reduceSub, Int.reduceMul, Int.reduceEq, Int.reduceToNat, Nat.reduceLT, Nat.reduceAdd, Nat.reduceMul, Nat.reduceSub, l31002, h1, h3, hlt, hil, hy', hp', wrap_pred (show 0 < k by omega) (show k < 4611686018427387904 by omega), wrap_succ (show k < 4611686018427387904 by omega)]
    cases hc : geBed p y <;> (try simp only [Bool.not_eq_true', Bool.not_eq_false'] at hc) <;> simp only [↓eA, eB, reduceIte, Nat.reduceBEq, Int.reduceNeg, Int.reduceLT, Int.reduceLE, Int.reduceAdd, Int.reduceSub, Int.reduceMul, Int.reduceEq, Int.reduceToNat, Nat.reduceLT, Nat.reduceAdd, Nat.reduceMul, Nat.reduceSub, hc] <;> and_intros <;> first | trivial | rfl
  · rintro k e hk _ ⟨h1, h3⟩
    have hlt : ¬ k < s.beds.length := by omega
    simp only [↓eA, eB, reduceIte, Nat.reduceBEq, Int.reduceNeg, Int.reduceLT, Int.reduceLE, Int.reduceAdd, Int.reduceSub, Int.reduceMul, Int.reduceEq, Int.reduceToNat, Nat.reduceLT, Nat.reduceAdd, Nat.reduceMul, Nat.reduceSub, l31002, h1, h3, hlt]
    and_intros <;> first | trivial | rfl
theorem lp_u2 (s : Survey) (hF : s.Fit) (e : Env) (h1 : Gs.get e 1 = .ptr 1 0) (hi : Gs.get e 4 = int (1 : Nat)) :
    Ends T 31007 e (Hs s) (fun X e' H' => H' = Hs s ∧ match steps s.joints geJoint with | true => X = .ret ∧ Gs.get e' 2 = .bool true | false => X = .ex 2 ∧ Gs.get e' 1 = .ptr 1 0) := by
  have hb := hF.jl
  refine loop_fr (T := T) (key := 31007) (li := l31007) rfl 1 s.joints.length (badIx s.joints geJoint) (Hs s) (fun k e => Gs.get e 1 = .ptr 1 0 ∧ Gs.get e 4 = int k) (fun X e' => X = .ret ∧ Gs.get e' 2 = .bool true) (fun X e' => X = .ex 2 ∧ Gs.get e' 1 = .ptr 1 0) ?_ ?_ e ⟨h1, hi⟩
  · rintro k e hk hlt ⟨h1, h3⟩
    obtain ⟨y, hy⟩ : ∃ y, s.joints[k]? = some y := ⟨_, List.getElem?_eq_getElem (by omega)⟩
    obtain ⟨p, hp⟩ : ∃ p, s.joints[k - 1]? = some p := ⟨_, List.getElem?_eq_getElem (by omega)⟩
    have hil : k - 1 < s.joints.length := by omega
    have hy' : (s.joints.map Joint.enc)[k]? = some y.enc := by simp [hy]
    have hp' : (s.joints.map Joint.enc)[k - 1]? = some p.enc := by simp [hp]
    have hbd : badIx s.joints geJoint k = geJoint p y := by simp only [badIx, hy, hp]
    rw [hbd]
    simp only [↓eA, eB, reduceIte, Nat.reduceBEq, Int.reduceNeg, Int.reduceLT, Int.reduceLE, Int.reduceAdd, Int.reduceSub, Int.reduceMul, Int.reduceEq, Int.reduceToNat, Nat.reduceLT, Nat.reduceAdd, Nat.reduceMul, Nat.reduceSub, l31007, h1, h3, hlt, hil, hy', hp', wrap_pred (show 0 < k by omega) (show k < 4611686018427387904 by omega), wrap_succ (show k < 4611686018427387904 by omega)]
    cases hc : geJoint p y <;> (try simp only [Bool.not_eq_true', Bool.not_eq_false'] at hc) <;> simp only [↓eA, eB, reduceIte, Nat.reduceBEq, Int.reduceNeg, Int.reduceLT, Int.reduceLE, Int.reduceAdd, Int.reduceSub, Int.reduceMul, Int.reduceEq, Int.reduceToNat, Nat.reduceLT, Nat.reduceAdd, Nat.reduceMul, Nat.reduceSub, hc] <;> and_intros <;> first | trivial | rfl
  · rintro k e hk _ ⟨h1, h3⟩
    have hlt : ¬ k < s.joints.length := by omega
    simp only [↓eA, eB, reduceIte, Nat.reduceBEq, Int.reduceNeg, Int.reduceLT, Int.reduceLE, Int.reduceAdd, Int.reduceSub, Int.reduceMul, Int.reduceEq, Int.reduceToNat, Nat.reduceLT, Nat.reduceAdd, Nat.reduceMul, Nat.reduceSub, l31007, h1, h3, hlt]
    and_intros <;> first | trivial | rfl
theorem lp_u3 (s : Survey) (hF : s.Fit) (e : Env) (h1 : Gs.get e 1 = .ptr 1 0) (hi : Gs.get e 5 = int (1 : Nat)) :
    Ends T 31012 e (Hs s) (fun X e' H' => H' = Hs s ∧ match steps s.flaws geFlaw with | true => X = .ret ∧ Gs.get e' 2 = .bool true | false => X = .ex 4 ∧ Gs.get e' 1 = .ptr 1 0) := by
  have hb := hF.fl
  refine loop_fr (T := T) (key := 31012) (li := l31012) rfl 1 s.flaws.length (badIx s.flaws geFlaw) (Hs s) (fun k e => Gs.get e 1 = .ptr 1 0 ∧ Gs.get e 5 = int k) (fun X e' => X = .ret ∧ Gs.get e' 2 = .bool true) (fun X e' => X = .ex 4 ∧ Gs.get e' 1 = .ptr 1 0) ?_ ?_ e ⟨h1, hi⟩
  · rintro k e hk hlt ⟨h1, h3⟩
    obtain ⟨y, hy⟩ : ∃ y, s.flaws[k]? = some y := ⟨_, List.getElem?_eq_getElem (by omega)⟩
    obtain ⟨p, hp⟩ : ∃ p, s.flaws[k - 1]? = some p := ⟨_, List.getElem?_eq_getElem (by omega)⟩
    have hil : k - 1 < s.flaws.length := by omega
    have hy' : (s.flaws.map Flaw.enc)[k]? = some y.enc := by simp [hy]
    have hp' : (s.flaws.map Flaw.enc)[k - 1]? = some p.enc := by simp [hp]
    have hbd : badIx s.flaws geFlaw k = geFlaw p y := by simp only [badIx, hy, hp]
    rw [hbd]
    simp only [↓eA, eB, reduceIte, Nat.reduceBEq, Int.reduceNeg, Int.reduceLT, Int.reduceLE, Int.reduceAdd, Int.reduceSub, Int.reduceMul, Int.reduceEq, Int.reduceToNat, Nat.reduceLT, Nat.reduceAdd, Nat.reduceMul, Nat.reduceSub, l31012, h1, h3, hlt, hil, hy', hp', wrap_pred (show 0 < k by omega) (show k < 4611686018427387904 by omega), wrap_succ (show k < 4611686018427387904 by omega)]
    cases hc : geFlaw p y <;> (try simp only [Bool.not_eq_true', Bool.not_eq_false'] at hc) <;> simp only [↓eA, eB, reduceIte, Nat.reduceBEq, Int.reduceNeg, Int.reduceLT, Int.reduceLE, Int.reduceAdd, Int.reduceSub, Int.reduceMul, Int.reduceEq, Int.reduceToNat, Nat.reduceLT, Nat.reduceAdd, Nat.reduceMul, Nat.reduceSub, hc] <;> and_intros <;> first | trivial | rfl
  · rintro k e hk _ ⟨h1, h3⟩
    have hlt : ¬ k < s.flaws.length := by omega
    simp only [↓eA, eB, reduceIte, Nat.reduceBEq, Int.reduceNeg, Int.reduceLT, Int.reduceLE, Int.reduceAdd, Int.reduceSub, Int.reduceMul, Int.reduceEq, Int.reduceToNat, Nat.reduceLT, Nat.reduceAdd, Nat.reduceMul, Nat.reduceSub, l31012, h1, h3, hlt]
    and_intros <;> first | trivial | rfl
def nm (l : List ByteArray) (i : Nat) : ByteArray := l[i]?.getD ⟨#[]⟩
def pairs (l : List ByteArray) : Bool := (List.range l.length).any fun i => (List.range i).any fun j => seq (nm l i) (nm l j)
theorem nm_get {l : List ByteArray} {i : Nat} (h : i < l.length) : (l.map D.str)[i]? = some (.str (nm l i)) := by
  have : l[i]? = some l[i] := List.getElem?_eq_getElem h
  simp [nm, this]
theorem lp_ui (l : List ByteArray) (hb : l.length < 4000000000) (i : Nat) (hi : i < l.length) (e : Env) (H : Heap) (h6 : Gs.get e 6 = .fz false 1 (l.map .str)) (h7 : Gs.get e 7 = int i) (h8 : Gs.get e 8 = int 0) :
    Ends T 31021 e [] (fun X e' H' => H' = [] ∧ match (List.range i).any (fun j => seq (nm l i) (nm l j)) with | true => X = .ret ∧ Gs.get e' 2 = .bool true | false => X = .ex 8 ∧ Gs.get e' 6 = .fz false 1 (l.map .str) ∧ Gs.get e' 7 = int i) := by
  refine loop_rng (T := T) (key := 31021) (li := l31021) rfl i (fun j => seq (nm l i) (nm l j)) [] (fun j e => Gs.get e 6 = .fz false 1 (l.map .str) ∧ Gs.get e 7 = int i ∧ Gs.get e 8 = int j) (fun X e' => X = .ret ∧ Gs.get e' 2 = .bool true) (fun X e' => X = .ex 8 ∧ Gs.get e' 6 = .fz false 1 (l.map .str) ∧ Gs.get e' 7 = int i) ?_ ?_ e ⟨h6, h7, h8⟩
  · rintro j e hj ⟨h6, h7, h8⟩
    have hjl : j < l.length := by omega
    simp only [↓eA, eB, reduceIte, Nat.reduceBEq, Int.reduceNeg, Int.reduceLT, Int.reduceLE, Int.reduceAdd, Int.reduceSub, Int.reduceMul, Int.reduceEq, Int.reduceToNat, Nat.reduceLT, Nat.reduceAdd, Nat.reduceMul, Nat.reduceSub, l31021, h6, h7, h8, hi, hjl, hj, nm_get hi, nm_get hjl, wrap_succ (show j < 4611686018427387904 by omega)]
    cases hc : seq (nm l i) (nm l j) <;> simp only [↓eA, eB, reduceIte, Nat.reduceBEq, Int.reduceNeg, Int.reduceLT, Int.reduceLE, Int.reduceAdd, Int.reduceSub, Int.reduceMul, Int.reduceEq, Int.reduceToNat, Nat.reduceLT, Nat.reduceAdd, Nat.reduceMul, Nat.reduceSub, hc] <;> and_intros <;> first | trivial | rfl
  · rintro e ⟨h6, h7, h8⟩
    simp only [↓eA, eB, reduceIte, Nat.reduceBEq, Int.reduceNeg, Int.reduceLT, Int.reduceLE, Int.reduceAdd, Int.reduceSub, Int.reduceMul, Int.reduceEq, Int.reduceToNat, Nat.reduceLT, Nat.reduceAdd, Nat.reduceMul, Nat.reduceSub, l31021, h6, h7, h8, Nat.lt_irrefl]
    and_intros <;> first | trivial | rfl
theorem lp_uo (l : List ByteArray) (hb : l.length < 4000000000) (e : Env) (H : Heap) (h6 : Gs.get e 6 = .fz false 1 (l.map .str)) (h7 : Gs.get e 7 = int 0) :
    Ends T 31018 e H (fun X e' H' => match pairs l with | true => X = .ret ∧ Gs.get e' 2 = .bool true | false => X = .ex 6) := by
  refine loop_anyH (T := T) (key := 31018) (li := l31018) rfl (List.range l.length) (fun i => (List.range i).any fun j => seq (nm l i) (nm l j)) (fun i e H => Gs.get e 6 = .fz false 1 (l.map .str) ∧ Gs.get e 7 = int i) (fun X e' H' => X = .ret ∧ Gs.get e' 2 = .bool true) (fun X e' H' => X = .ex 6) ?_ ?_ e H ⟨h6, h7⟩
  · rintro i k e H hx hi' ⟨h6, h7⟩
    have hi : i < l.length := by simpa using hi'
    rw [List.getElem?_range hi] at hx; injection hx with hx; subst hx
    simp only [↓eA, eB, reduceIte, Nat.reduceBEq, Int.reduceNeg, Int.reduceLT, Int.reduceLE, Int.reduceAdd, Int.reduceSub, Int.reduceMul, Int.reduceEq, Int.reduceToNat, Nat.reduceLT, Nat.reduceAdd, Nat.reduceMul, Nat.reduceSub, l31018, h6, h7, hi]
    generalize hE : (lim T).loop 31021 _ _ = R
    obtain ⟨X, e', H', rfl, rfl, hP⟩ := Ends.at hE (lp_ui l hb i hi _ [] (by simp only [↓eA, eB, reduceIte, Nat.reduceBEq, Int.reduceNeg, Int.reduceLT, Int.reduceLE, Int.reduceAdd, Int.reduceSub, Int.reduceMul, Int.reduceEq, Int.reduceToNat, Nat.reduceLT, Nat.reduceAdd, Nat.reduceMul, Nat.reduceSub, h6]) (by simp only [↓eA, eB, reduceIte, Nat.reduceBEq, Int.reduceNeg, Int.reduceLT, Int.reduceLE, Int.reduceAdd, Int.reduceSub, Int.reduceMul, Int.reduceEq, Int.reduceToNat, Nat.reduceLT, Nat.reduceAdd, Nat.reduceMul, Nat.reduceSub, h7]) (by simp only [↓eA, eB, reduceIte, Nat.reduceBEq, Int.reduceNeg, Int.reduceLT, Int.reduceLE, Int.reduceAdd, Int.reduceSub, Int.reduceMul, Int.reduceEq, Int.reduceToNat, Nat.reduceLT, Nat.reduceAdd, Nat.reduceMul, Nat.reduceSub]))
    cases hc : (List.range i).any (fun j => seq (nm l i) (nm l j)) with
    | true => rw [hc] at hP; obtain ⟨rfl, g2⟩ := hP; simp only [↓eA, eB, reduceIte, Nat.reduceBEq, Int.reduceNeg, Int.reduceLT, Int.reduceLE, Int.reduceAdd, Int.reduceSub, Int.reduceMul, Int.reduceEq, Int.reduceToNat, Nat.reduceLT, Nat.reduceAdd, Nat.reduceMul, Nat.reduceSub, g2]; and_intros <;> first | trivial | rfl
    | false =>
      rw [hc] at hP; obtain ⟨rfl, g6, g7⟩ := hP
      simp only [↓eA, eB, reduceIte, Nat.reduceBEq, Int.reduceNeg, Int.reduceLT, Int.reduceLE, Int.reduceAdd, Int.reduceSub, Int.reduceMul, Int.reduceEq, Int.reduceToNat, Nat.reduceLT, Nat.reduceAdd, Nat.reduceMul, Nat.reduceSub, g6, g7, wrap_succ (show i < 4611686018427387904 by omega)]
      and_intros <;> first | trivial | rfl
  · rintro e H ⟨h6, h7⟩
    rw [List.length_range] at h7
    simp only [↓eA, eB, reduceIte, Nat.reduceBEq, Int.reduceNeg, Int.reduceLT, Int.reduceLE, Int.reduceAdd, Int.reduceSub, Int.reduceMul, Int.reduceEq, Int.reduceToNat, Nat.reduceLT, Nat.reduceAdd, Nat.reduceMul, Nat.reduceSub, l31018, h6, h7, Nat.lt_irrefl]
    and_intros <;> first | trivial | rfl
def unordered (s : Survey) : Bool := steps s.beds geBed || (steps s.joints geJoint || (steps s.flaws geFlaw || pairs s.names))
theorem e_unordered (s : Survey) (hF : s.Fit) : L.call 31 [s.enc] [] = some (.bool (unordered s), []) :=
  call_eq rfl rfl (by
    have hb := hF.bl; have hj := hF.jl; have hf := hF.fl
    have hnl := s.names_length
    simp only [↓eA, eB, reduceIte, Nat.reduceBEq, Int.reduceNeg, Int.reduceLT, Int.reduceLE, Int.reduceAdd, Int.reduceSub, Int.reduceMul, Int.reduceEq, Int.reduceToNat, Nat.reduceLT, Nat.reduceAdd, Nat.reduceMul, Nat.reduceSub, c31]
    generalize hE : (lim T).loop 31002 _ _ = R
    obtain ⟨X, e', H', rfl, rfl, h⟩ := Ends.at hE (lp_u1 s hF _ rfl rfl)
    unfold unordered
    cases h1 : steps s.beds geBed with
    | true => rw [h1] at h; obtain ⟨rfl, g2⟩ := h; simp only [↓eA, eB, reduceIte, Nat.reduceBEq, Int.reduceNeg, Int.reduceLT, Int.reduceLE, Int.reduceAdd, Int.reduceSub, Int.reduceMul, Int.reduceEq, Int.reduceToNat, Nat.reduceLT, Nat.reduceAdd, Nat.reduceMul, Nat.reduceSub, g2]
    | false =>
    rw [h1] at h; obtain ⟨rfl, g1⟩ := h
    simp only [↓eA, eB, reduceIte, Nat.reduceBEq, Int.reduceNeg, Int.reduceLT, Int.reduceLE, Int.reduceAdd, Int.reduceSub, Int.reduceMul, Int.reduceEq, Int.reduceToNat, Nat.reduceLT, Nat.reduceAdd, Nat.reduceMul, Nat.reduceSub, g1]
    generalize hE : (lim T).loop 31007 _ _ = R
    obtain ⟨X, e', H', rfl, rfl, h⟩ := Ends.at hE (lp_u2 s hF _ (by simp only [↓eA, eB, reduceIte, Nat.reduceBEq, Int.reduceNeg, Int.reduceLT, Int.reduceLE, Int.reduceAdd, Int.reduceSub, Int.reduceMul, Int.reduceEq, Int.reduceToNat, Nat.reduceLT, Nat.reduceAdd, Nat.reduceMul, Nat.reduceSub, g1]) (by simp only [↓eA, eB, reduceIte, Nat.reduceBEq, Int.reduceNeg, Int.reduceLT, Int.reduceLE, Int.reduceAdd, Int.reduceSub, Int.reduceMul, Int.reduceEq, Int.reduceToNat, Nat.reduceLT, Nat.reduceAdd, Nat.reduceMul, Nat.reduceSub]))
    cases h2 : steps s.joints geJoint with
    | true => rw [h2] at h; obtain ⟨rfl, g2⟩ := h; simp only [↓eA, eB, reduceIte, Nat.reduceBEq, Int.reduceNeg, Int.reduceLT, Int.reduceLE, Int.reduceAdd, Int.reduceSub, Int.reduceMul, Int.reduceEq, Int.reduceToNat, Nat.reduceLT, Nat.reduceAdd, Nat.reduceMul, Nat.reduceSub, g2]
    | false =>
    rw [h2] at h; obtain ⟨rfl, g1⟩ := h
    simp only [↓eA, eB, reduceIte, Nat.reduceBEq, Int.reduceNeg, Int.reduceLT, Int.reduceLE, Int.reduceAdd, Int.reduceSub, Int.reduceMul, Int.reduceEq, Int.reduceToNat, Nat.reduceLT, Nat.reduceAdd, Nat.reduceMul, Nat.reduceSub, g1]
    generalize hE : (lim T).loop 31012 _ _ = R
    obtain ⟨X, e', H', rfl, rfl, h⟩ := Ends.at hE (lp_u3 s hF _ (by simp only [↓eA, eB, reduceIte, Nat.reduceBEq, Int.reduceNeg, Int.reduceLT, Int.reduceLE, Int.reduceAdd, Int.reduceSub, Int.reduceMul, Int.reduceEq, Int.reduceToNat, Nat.reduceLT, Nat.reduceAdd, Nat.reduceMul, Nat.reduceSub, g1]) (by simp only [↓eA, eB, reduceIte, Nat.reduceBEq, Int.reduceNeg, Int.reduceLT, Int.reduceLE, Int.reduceAdd, Int.reduceSub, Int.reduceMul, Int.reduceEq, Int.reduceToNat, Nat.reduceLT, Nat.reduceAdd, Nat.reduceMul, Nat.reduceSub]))
    cases h3 : steps s.flaws geFlaw with
    | true => rw [h3] at h; obtain ⟨rfl, g2⟩ := h; simp only [↓eA, eB, reduceIte, Nat.reduceBEq, Int.reduceNeg, Int.reduceLT, Int.reduceLE, Int.reduceAdd, Int.reduceSub, Int.reduceMul, Int.reduceEq, Int.reduceToNat, Nat.reduceLT, Nat.reduceAdd, Nat.reduceMul, Nat.reduceSub, g2]
    | false =>
    rw [h3] at h; obtain ⟨rfl, g1⟩ := h
    simp only [↓eA, eB, reduceIte, Nat.reduceBEq, Int.reduceNeg, Int.reduceLT, Int.reduceLE, Int.reduceAdd, Int.reduceSub, Int.reduceMul, Int.reduceEq, Int.reduceToNat, Nat.reduceLT, Nat.reduceAdd, Nat.reduceMul, Nat.reduceSub, g1, e_rNames s hF.toFit0]
    generalize hE : (lim T).loop 31018 _ _ = R
    obtain ⟨X, e', H', rfl, h⟩ := Ends.at hE (lp_uo s.names (by omega) _ _ (by simp only [↓eA, eB, reduceIte, Nat.reduceBEq, Int.reduceNeg, Int.reduceLT, Int.reduceLE, Int.reduceAdd, Int.reduceSub, Int.reduceMul, Int.reduceEq, Int.reduceToNat, Nat.reduceLT, Nat.reduceAdd, Nat.reduceMul, Nat.reduceSub]) (by simp only [↓eA, eB, reduceIte, Nat.reduceBEq, Int.reduceNeg, Int.reduceLT, Int.reduceLE, Int.reduceAdd, Int.reduceSub, Int.reduceMul, Int.reduceEq, Int.reduceToNat, Nat.reduceLT, Nat.reduceAdd, Nat.reduceMul, Nat.reduceSub]))
    cases h4 : pairs s.names with
    | true => rw [h4] at h; obtain ⟨rfl, g2⟩ := h; simp only [↓eA, eB, reduceIte, Nat.reduceBEq, Int.reduceNeg, Int.reduceLT, Int.reduceLE, Int.reduceAdd, Int.reduceSub, Int.reduceMul, Int.reduceEq, Int.reduceToNat, Nat.reduceLT, Nat.reduceAdd, Nat.reduceMul, Nat.reduceSub, g2]
    | false => rw [h4] at h; subst h; simp only [↓eA, eB, reduceIte, Nat.reduceBEq, Int.reduceNeg, Int.reduceLT, Int.reduceLE, Int.reduceAdd, Int.reduceSub, Int.reduceMul, Int.reduceEq, Int.reduceToNat, Nat.reduceLT, Nat.reduceAdd, Nat.reduceMul, Nat.reduceSub])
/-! gangsawref13.outside. -/
def rJointOut (s : Survey) (j : Joint) : Bool := (!inR (if j.axis = 0 then s.pit.x0 else if j.axis = 1 then s.pit.y0 else s.pit.z0) j.at_ (if j.axis = 0 then s.pit.x1 else if j.axis = 1 then s.pit.y1 else s.pit.z1) || decide (j.lo < s.pit.z0)) || decide (s.pit.z1 < j.hi)
def rFlawOut (s : Survey) (f : Flaw) : Bool := (decide (f.lo < s.pit.z0) || decide (s.pit.z1 < f.hi)) || f.base.any (cornerOut s)
def rOut (s : Survey) : Bool := s.beds.any (bedOut s) || (s.joints.any (rJointOut s) || s.flaws.any (rFlawOut s))
abbrev Hp3 (s : Survey) : Heap := [(1, .box s.cells false), (3, .box [int s.pit.x0, int s.pit.y0, int s.pit.z0] false), (4, .box [int s.pit.x1, int s.pit.y1, int s.pit.z1] false)]
abbrev box3 (s : Survey) (H : Heap) : Prop := hget H 1 = some (.box s.cells false) ∧ hget H 3 = some (.box [int s.pit.x0, int s.pit.y0, int s.pit.z0] false) ∧ hget H 4 = some (.box [int s.pit.x1, int s.pit.y1, int s.pit.z1] false)
abbrev pt3 (e : Env) : Prop := Gs.get e 1 = .ptr 1 0 ∧ Gs.get e 3 = .ptr 3 0 ∧ Gs.get e 4 = .ptr 4 0
theorem lp_x1 (s : Survey) (hF : s.Fit) (e : Env) (H : Heap) (hp : pt3 e) (h5 : Gs.get e 5 = int 0) (hH : box3 s H) :
    Ends T 30004 e H (fun X e' H' => match s.beds.any (bedOut s) with | true => X = .ret ∧ Gs.get e' 2 = .bool true | false => X = .ex 0 ∧ pt3 e' ∧ H' = Hp3 s) := by
  have hb := hF.bl
  refine loop_anyH (T := T) (key := 30004) (li := l30004) rfl s.beds (bedOut s) (fun i e H => pt3 e ∧ Gs.get e 5 = int i ∧ box3 s H) (fun X e' H' => X = .ret ∧ Gs.get e' 2 = .bool true) (fun X e' H' => X = .ex 0 ∧ pt3 e' ∧ H' = Hp3 s) ?_ ?_ e H ⟨hp, h5, hH⟩
  · rintro i b e H hx hi ⟨⟨h1, h3, h4⟩, h5, ⟨hH1, hH3, hH4⟩⟩
    have hx' : (s.beds.map Bed.enc)[i]? = some b.enc := by simp [hx]
    simp only [↓eA, eB, reduceIte, Nat.reduceBEq, Int.reduceNeg, Int.reduceLT, Int.reduceLE, Int.reduceAdd, Int.reduceSub, Int.reduceMul, Int.reduceEq, Int.reduceToNat, Nat.reduceLT, Nat.reduceAdd, Nat.reduceMul, Nat.reduceSub, l30004, h1, h3, h4, h5, hH1, hH3, hH4, hi, hx', e_inR, wrap_succ (show i < 4611686018427387904 by omega)]
    cases hc : bedOut s b <;> (simp only [bedOut, Bool.not_eq_true', Bool.not_eq_false'] at hc) <;> simp only [↓eA, eB, reduceIte, Nat.reduceBEq, Int.reduceNeg, Int.reduceLT, Int.reduceLE, Int.reduceAdd, Int.reduceSub, Int.reduceMul, Int.reduceEq, Int.reduceToNat, Nat.reduceLT, Nat.reduceAdd, Nat.reduceMul, Nat.reduceSub, hc] <;> and_intros <;> first | trivial | rfl
  · rintro e H ⟨⟨h1, h3, h4⟩, h5, ⟨hH1, hH3, hH4⟩⟩
    simp only [↓eA, eB, reduceIte, Nat.reduceBEq, Int.reduceNeg, Int.reduceLT, Int.reduceLE, Int.reduceAdd, Int.reduceSub, Int.reduceMul, Int.reduceEq, Int.reduceToNat, Nat.reduceLT, Nat.reduceAdd, Nat.reduceMul, Nat.reduceSub, l30004, h1, h3, h4, h5, hH1, hH3, hH4, Nat.lt_irrefl]
    and_intros <;> first | trivial | rfl
theorem lp_x2 (s : Survey) (hF : s.Fit) (e : Env) (H : Heap) (hp : pt3 e) (h5 : Gs.get e 6 = int 0) (hH : box3 s H) :
    Ends T 30009 e H (fun X e' H' => match s.joints.any (rJointOut s) with | true => X = .ret ∧ Gs.get e' 2 = .bool true | false => X = .ex 2 ∧ pt3 e' ∧ H' = Hp3 s) := by
  have hb := hF.jl
  refine loop_anyH (T := T) (key := 30009) (li := l30009) rfl s.joints (rJointOut s) (fun i e H => pt3 e ∧ Gs.get e 6 = int i ∧ box3 s H) (fun X e' H' => X = .ret ∧ Gs.get e' 2 = .bool true) (fun X e' H' => X = .ex 2 ∧ pt3 e' ∧ H' = Hp3 s) ?_ ?_ e H ⟨hp, h5, hH⟩
  · rintro i j e H hx hi ⟨⟨h1, h3, h4⟩, h5, ⟨hH1, hH3, hH4⟩⟩
    have hx' : (s.joints.map Joint.enc)[i]? = some j.enc := by simp [hx]
    simp only [↓eA, eB, reduceIte, Nat.reduceBEq, Int.reduceNeg, Int.reduceLT, Int.reduceLE, Int.reduceAdd, Int.reduceSub, Int.reduceMul, Int.reduceEq, Int.reduceToNat, Nat.reduceLT, Nat.reduceAdd, Nat.reduceMul, Nat.reduceSub, l30009, h1, h3, h4, h5, hH1, hH3, hH4, hi, hx', e_inR, e_coord, wrap_succ (show i < 4611686018427387904 by omega)]
    cases hc : rJointOut s j <;> simp only [rJointOut] at hc <;> simp only [↓eA, eB, reduceIte, Nat.reduceBEq, Int.reduceNeg, Int.reduceLT, Int.reduceLE, Int.reduceAdd, Int.reduceSub, Int.reduceMul, Int.reduceEq, Int.reduceToNat, Nat.reduceLT, Nat.reduceAdd, Nat.reduceMul, Nat.reduceSub, hc] <;> and_intros <;> first | trivial | rfl
  · rintro e H ⟨⟨h1, h3, h4⟩, h5, ⟨hH1, hH3, hH4⟩⟩
    simp only [↓eA, eB, reduceIte, Nat.reduceBEq, Int.reduceNeg, Int.reduceLT, Int.reduceLE, Int.reduceAdd, Int.reduceSub, Int.reduceMul, Int.reduceEq, Int.reduceToNat, Nat.reduceLT, Nat.reduceAdd, Nat.reduceMul, Nat.reduceSub, l30009, h1, h3, h4, h5, hH1, hH3, hH4, Nat.lt_irrefl]
    and_intros <;> first | trivial | rfl
theorem lp_x4 (s : Survey) (f : Flaw) (hb : f.base.length < 1000000000) (i : Nat) (e : Env) (H : Heap) (hp : pt3 e) (h8 : Gs.get e 8 = int i) (h9 : Gs.get e 9 = .ptr 9 0) (h10 : Gs.get e 10 = int 0) (hH : box3 s H) (hH9 : hget H 9 = some (.box [poly f.base, int f.lo, int f.hi] false)) :
    Ends T 30021 e H (fun X e' H' => match f.base.any (cornerOut s) with | true => X = .ret ∧ Gs.get e' 2 = .bool true | false => X = .ex 6 ∧ pt3 e' ∧ Gs.get e' 8 = int i ∧ box3 s H') := by
  refine loop_anyH (T := T) (key := 30021) (li := l30021) rfl f.base (cornerOut s) (fun k e H => pt3 e ∧ Gs.get e 8 = int i ∧ Gs.get e 9 = .ptr 9 0 ∧ Gs.get e 10 = int k ∧ box3 s H ∧ hget H 9 = some (.box [poly f.base, int f.lo, int f.hi] false)) (fun X e' H' => X = .ret ∧ Gs.get e' 2 = .bool true) (fun X e' H' => X = .ex 6 ∧ pt3 e' ∧ Gs.get e' 8 = int i ∧ box3 s H') ?_ ?_ e H ⟨hp, h8, h9, h10, hH, hH9⟩
  · rintro k c e H hx hi ⟨⟨h1, h3, h4⟩, h8, h9, h10, ⟨hH1, hH3, hH4⟩, hH9⟩
    have hx' : (f.base.map Pt.enc)[k]? = some c.enc := by simp [hx]
    simp only [↓eA, eB, reduceIte, Nat.reduceBEq, Int.reduceNeg, Int.reduceLT, Int.reduceLE, Int.reduceAdd, Int.reduceSub, Int.reduceMul, Int.reduceEq, Int.reduceToNat, Nat.reduceLT, Nat.reduceAdd, Nat.reduceMul, Nat.reduceSub, l30021, h1, h3, h4, h8, h9, h10, hH1, hH3, hH4, hH9, hi, hx', e_inR, wrap_succ (show k < 4611686018427387904 by omega)]
    cases hc : cornerOut s c <;> simp only [cornerOut] at hc <;> simp only [↓eA, eB, reduceIte, Nat.reduceBEq, Int.reduceNeg, Int.reduceLT, Int.reduceLE, Int.reduceAdd, Int.reduceSub, Int.reduceMul, Int.reduceEq, Int.reduceToNat, Nat.reduceLT, Nat.reduceAdd, Nat.reduceMul, Nat.reduceSub, hc] <;> and_intros <;> first | trivial | rfl
  · rintro e H ⟨⟨h1, h3, h4⟩, h8, h9, h10, ⟨hH1, hH3, hH4⟩, hH9⟩
    simp only [↓eA, eB, reduceIte, Nat.reduceBEq, Int.reduceNeg, Int.reduceLT, Int.reduceLE, Int.reduceAdd, Int.reduceSub, Int.reduceMul, Int.reduceEq, Int.reduceToNat, Nat.reduceLT, Nat.reduceAdd, Nat.reduceMul, Nat.reduceSub, l30021, h1, h3, h4, h8, h9, h10, hH1, hH3, hH4, hH9, Nat.lt_irrefl]
    and_intros <;> first | trivial | rfl
theorem lp_x3 (s : Survey) (hF : s.Fit) (e : Env) (H : Heap) (hp : pt3 e) (h5 : Gs.get e 8 = int 0) (hH : box3 s H) :
    Ends T 30015 e H (fun X e' H' => match s.flaws.any (rFlawOut s) with | true => X = .ret ∧ Gs.get e' 2 = .bool true | false => X = .ex 4) := by
  have hb := hF.fl
  refine loop_anyH (T := T) (key := 30015) (li := l30015) rfl s.flaws (rFlawOut s) (fun i e H => pt3 e ∧ Gs.get e 8 = int i ∧ box3 s H) (fun X e' H' => X = .ret ∧ Gs.get e' 2 = .bool true) (fun X e' H' => X = .ex 4) ?_ ?_ e H ⟨hp, h5, hH⟩
  · rintro i f e H hx hi ⟨⟨h1, h3, h4⟩, h5, ⟨hH1, hH3, hH4⟩⟩
    have hx' : (s.flaws.map Flaw.enc)[i]? = some f.enc := by simp [hx]
    have hfb := hF.base f (List.mem_of_getElem? hx)
    unfold rFlawOut
    cases hr : (decide (f.lo < s.pit.z0) || decide (s.pit.z1 < f.hi)) with
    | true =>
      simp only [↓eA, eB, reduceIte, Nat.reduceBEq, Int.reduceNeg, Int.reduceLT, Int.reduceLE, Int.reduceAdd, Int.reduceSub, Int.reduceMul, Int.reduceEq, Int.reduceToNat, Nat.reduceLT, Nat.reduceAdd, Nat.reduceMul, Nat.reduceSub, l30015, h1, h3, h4, h5, hH1, hH3, hH4, hi, hx', hr]
      and_intros <;> first | trivial | rfl
    | false =>
      simp only [↓eA, eB, reduceIte, Nat.reduceBEq, Int.reduceNeg, Int.reduceLT, Int.reduceLE, Int.reduceAdd, Int.reduceSub, Int.reduceMul, Int.reduceEq, Int.reduceToNat, Nat.reduceLT, Nat.reduceAdd, Nat.reduceMul, Nat.reduceSub, l30015, h1, h3, h4, h5, hH1, hH3, hH4, hi, hx', hr]
      generalize hE : (lim T).loop 30021 _ _ = R
      obtain ⟨X, e', H', rfl, hP⟩ := Ends.at hE (lp_x4 s f hfb i _ _ ⟨rfl, rfl, rfl⟩ rfl rfl rfl ⟨rfl, rfl, rfl⟩ rfl)
      cases hc : f.base.any (cornerOut s) with
      | true => rw [hc] at hP; obtain ⟨rfl, g⟩ := hP; simp only [↓eA, eB, reduceIte, Nat.reduceBEq, Int.reduceNeg, Int.reduceLT, Int.reduceLE, Int.reduceAdd, Int.reduceSub, Int.reduceMul, Int.reduceEq, Int.reduceToNat, Nat.reduceLT, Nat.reduceAdd, Nat.reduceMul, Nat.reduceSub, g]; and_intros <;> first | trivial | rfl
      | false =>
        rw [hc] at hP; obtain ⟨rfl, ⟨g1, g3, g4⟩, g8, ⟨gH1, gH3, gH4⟩⟩ := hP
        simp only [↓eA, eB, reduceIte, Nat.reduceBEq, Int.reduceNeg, Int.reduceLT, Int.reduceLE, Int.reduceAdd, Int.reduceSub, Int.reduceMul, Int.reduceEq, Int.reduceToNat, Nat.reduceLT, Nat.reduceAdd, Nat.reduceMul, Nat.reduceSub, pt3, box3, g1, g3, g4, g8, gH1, gH3, gH4, wrap_succ (show i < 4611686018427387904 by omega)]
        and_intros <;> first | trivial | rfl
  · rintro e H ⟨⟨h1, h3, h4⟩, h5, ⟨hH1, hH3, hH4⟩⟩
    simp only [↓eA, eB, reduceIte, Nat.reduceBEq, Int.reduceNeg, Int.reduceLT, Int.reduceLE, Int.reduceAdd, Int.reduceSub, Int.reduceMul, Int.reduceEq, Int.reduceToNat, Nat.reduceLT, Nat.reduceAdd, Nat.reduceMul, Nat.reduceSub, l30015, h1, h3, h4, h5, hH1, hH3, hH4, Nat.lt_irrefl]
    and_intros <;> first | trivial | rfl
theorem e_rOutside (s : Survey) (hF : s.Fit) : L.call 30 [s.enc] [] = some (.bool (rOut s), []) :=
  call_eq rfl rfl (by
    unfold rOut
    simp only [↓eA, eB, reduceIte, Nat.reduceBEq, Int.reduceNeg, Int.reduceLT, Int.reduceLE, Int.reduceAdd, Int.reduceSub, Int.reduceMul, Int.reduceEq, Int.reduceToNat, Nat.reduceLT, Nat.reduceAdd, Nat.reduceMul, Nat.reduceSub, c30]
    generalize hE : (lim T).loop 30004 _ _ = R
    obtain ⟨X, e', H', rfl, hP⟩ := Ends.at hE (lp_x1 s hF _ _ ⟨rfl, rfl, rfl⟩ rfl ⟨rfl, rfl, rfl⟩)
    cases hc : s.beds.any (bedOut s) with
    | true => rw [hc] at hP; obtain ⟨rfl, g⟩ := hP; simp only [↓eA, eB, reduceIte, Nat.reduceBEq, Int.reduceNeg, Int.reduceLT, Int.reduceLE, Int.reduceAdd, Int.reduceSub, Int.reduceMul, Int.reduceEq, Int.reduceToNat, Nat.reduceLT, Nat.reduceAdd, Nat.reduceMul, Nat.reduceSub, g]
    | false =>
    rw [hc] at hP; obtain ⟨rfl, ⟨g1, g3, g4⟩, rfl⟩ := hP
    simp only [↓eA, eB, reduceIte, Nat.reduceBEq, Int.reduceNeg, Int.reduceLT, Int.reduceLE, Int.reduceAdd, Int.reduceSub, Int.reduceMul, Int.reduceEq, Int.reduceToNat, Nat.reduceLT, Nat.reduceAdd, Nat.reduceMul, Nat.reduceSub, g1, g3, g4]
    generalize hE : (lim T).loop 30009 _ _ = R
    obtain ⟨X, e', H', rfl, hP⟩ := Ends.at hE (lp_x2 s hF _ _ ⟨by simp only [↓eA, eB, reduceIte, Nat.reduceBEq, Int.reduceNeg, Int.reduceLT, Int.reduceLE, Int.reduceAdd, Int.reduceSub, Int.reduceMul, Int.reduceEq, Int.reduceToNat, Nat.reduceLT, Nat.reduceAdd, Nat.reduceMul, Nat.reduceSub, g1], by simp only [↓eA, eB, reduceIte, Nat.reduceBEq, Int.reduceNeg, Int.reduceLT, Int.reduceLE, Int.reduceAdd, Int.reduceSub, Int.reduceMul, Int.reduceEq, Int.reduceToNat, Nat.reduceLT, Nat.reduceAdd, Nat.reduceMul, Nat.reduceSub, g3], by simp only [↓eA, eB, reduceIte, Nat.reduceBEq, Int.reduceNeg, Int.reduceLT, Int.reduceLE, Int.reduceAdd, Int.reduceSub, Int.reduceMul, Int.reduceEq, Int.reduceToNat, Nat.reduceLT, Nat.reduceAdd, Nat.reduceMul, Nat.reduceSub, g4]⟩ (by simp only [↓eA, eB, reduceIte, Nat.reduceBEq, Int.reduceNeg, Int.reduceLT, Int.reduceLE, Int.reduceAdd, Int.reduceSub, Int.reduceMul, Int.reduceEq, Int.reduceToNat, Nat.reduceLT, Nat.reduceAdd, Nat.reduceMul, Nat.reduceSub]) ⟨rfl, rfl, rfl⟩)
    cases hc : s.joints.any (rJointOut s) with
    | true => rw [hc] at hP; obtain ⟨rfl, g⟩ := hP; simp only [↓eA, eB, reduceIte, Nat.reduceBEq, Int.reduceNeg, Int.reduceLT, Int.reduceLE, Int.reduceAdd, Int.reduceSub, Int.reduceMul, Int.reduceEq, Int.reduceToNat, Nat.reduceLT, Nat.reduceAdd, Nat.reduceMul, Nat.reduceSub, g]
    | false =>
    rw [hc] at hP; obtain ⟨rfl, ⟨g1, g3, g4⟩, rfl⟩ := hP
    simp only [↓eA, eB, reduceIte, Nat.reduceBEq, Int.reduceNeg, Int.reduceLT, Int.reduceLE, Int.reduceAdd, Int.reduceSub, Int.reduceMul, Int.reduceEq, Int.reduceToNat, Nat.reduceLT, Nat.reduceAdd, Nat.reduceMul, Nat.reduceSub, g1, g3, g4]
    generalize hE : (lim T).loop 30015 _ _ = R
    obtain ⟨X, e', H', rfl, hP⟩ := Ends.at hE (lp_x3 s hF _ _ ⟨by simp only [↓eA, eB, reduceIte, Nat.reduceBEq, Int.reduceNeg, Int.reduceLT, Int.reduceLE, Int.reduceAdd, Int.reduceSub, Int.reduceMul, Int.reduceEq, Int.reduceToNat, Nat.reduceLT, Nat.reduceAdd, Nat.reduceMul, Nat.reduceSub, g1], by simp only [↓eA, eB, reduceIte, Nat.reduceBEq, Int.reduceNeg, Int.reduceLT, Int.reduceLE, Int.reduceAdd, Int.reduceSub, Int.reduceMul, Int.reduceEq, Int.reduceToNat, Nat.reduceLT, Nat.reduceAdd, Nat.reduceMul, Nat.reduceSub, g3], by simp only [↓eA, eB, reduceIte, Nat.reduceBEq, Int.reduceNeg, Int.reduceLT, Int.reduceLE, Int.reduceAdd, Int.reduceSub, Int.reduceMul, Int.reduceEq, Int.reduceToNat, Nat.reduceLT, Nat.reduceAdd, Nat.reduceMul, Nat.reduceSub, g4]⟩ (by simp only [↓eA, eB, reduceIte, Nat.reduceBEq, Int.reduceNeg, Int.reduceLT, Int.reduceLE, Int.reduceAdd, Int.reduceSub, Int.reduceMul, Int.reduceEq, Int.reduceToNat, Nat.reduceLT, Nat.reduceAdd, Nat.reduceMul, Nat.reduceSub]) ⟨rfl, rfl, rfl⟩)
    cases hc : s.flaws.any (rFlawOut s) with
    | true => rw [hc] at hP; obtain ⟨rfl, g⟩ := hP; simp only [↓eA, eB, reduceIte, Nat.reduceBEq, Int.reduceNeg, Int.reduceLT, Int.reduceLE, Int.reduceAdd, Int.reduceSub, Int.reduceMul, Int.reduceEq, Int.reduceToNat, Nat.reduceLT, Nat.reduceAdd, Nat.reduceMul, Nat.reduceSub, g]
    | false => rw [hc] at hP; subst hP; simp only [↓eA, eB, reduceIte, Nat.reduceBEq, Int.reduceNeg, Int.reduceLT, Int.reduceLE, Int.reduceAdd, Int.reduceSub, Int.reduceMul, Int.reduceEq, Int.reduceToNat, Nat.reduceLT, Nat.reduceAdd, Nat.reduceMul, Nat.reduceSub])
end Tz
