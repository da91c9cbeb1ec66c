/- Equal surveys; no conditions. -/
import Derived.Test.YtbdcbppmgbekoaaGreatDoorS30
set_option linter.unusedVariables false
set_option linter.unusedSimpArgs false
set_option linter.unusedSectionVars false
set_option linter.defProp false
set_option linter.deprecated false
open Gs Go
namespace Tz
/-! Equal surveys. -/
def flawEq (x y : Flaw) : Bool := seq x.name y.name && (decide (x.lo = y.lo) && (decide (x.hi = y.hi) && eqL ptEq x.base y.base))
def boxEq (a b : Box) : Bool := decide (a.x0 = b.x0) && (decide (a.y0 = b.y0) && (decide (a.z0 = b.z0) && (decide (a.x1 = b.x1) && (decide (a.y1 = b.y1) && decide (a.z1 = b.z1)))))
def openEq (s t : Survey) : Bool := (s.o0 == t.o0) && ((s.o1 == t.o1) && ((s.o2 == t.o2) && (s.o3 == t.o3)))
def surveyEq (s t : Survey) : Bool := boxEq s.pit t.pit && (openEq s t && (eqL bedEq s.beds t.beds && (eqL jointEq s.joints t.joints && eqL flawEq s.flaws t.flaws)))
theorem e_eq1 (x y : Flaw) (hx : x.base.length < 4000000000) (hy : y.base.length < 4000000000) : L.call 52 [x.enc, y.enc] [] = some (.bool (flawEq x y), []) :=
  call_eq rfl rfl (by
    have h1 := e_sme3 false false x.base y.base hx hy
    unfold flawEq
    cases c1 : seq x.name y.name with
    | false => simp only [↓eA, eB, reduceIte, Nat.reduceBEq, Int.reduceNeg, Int.reduceLT, Int.reduceLE, Int.reduceAdd, Int.reduceSub, Int.reduceMul, Int.reduceEq, Int.reduceToNat, Nat.reduceLT, Nat.reduceAdd, Nat.reduceMul, Nat.reduceSub, c52, c1]
    | true =>
    cases c2 : decide (x.lo = y.lo) with
    | false => simp only [↓eA, eB, reduceIte, Nat.reduceBEq, Int.reduceNeg, Int.reduceLT, Int.reduceLE, Int.reduceAdd, Int.reduceSub, Int.reduceMul, Int.reduceEq, Int.reduceToNat, Nat.reduceLT, Nat.reduceAdd, Nat.reduceMul, Nat.reduceSub, c52, c1, c2]
    | true =>
    cases c3 : decide (x.hi = y.hi) with
    | false => simp only [↓eA, eB, reduceIte, Nat.reduceBEq, Int.reduceNeg, Int.reduceLT, Int.reduceLE, Int.reduceAdd, Int.reduceSub, Int.reduceMul, Int.reduceEq, Int.reduceToNat, Nat.reduceLT, Nat.reduceAdd, Nat.reduceMul, Nat.reduceSub, c52, c1, c2, c3]
    | true => simp only [↓eA, eB, reduceIte, Nat.reduceBEq, Int.reduceNeg, Int.reduceLT, Int.reduceLE, Int.reduceAdd, Int.reduceSub, Int.reduceMul, Int.reduceEq, Int.reduceToNat, Nat.reduceLT, Nat.reduceAdd, Nat.reduceMul, Nat.reduceSub, c52, c1, c2, c3, h1])
theorem lp_eqf (l m : List Flaw) (hl : (l.length : Int) = m.length) (hb : l.length < 4000000000) (hbl : ∀ f ∈ l, f.base.length < 4000000000) (hbm : ∀ f ∈ m, f.base.length < 4000000000) (e : Env) (h1 : Gs.get e 1 = .fz false 4 (m.map Flaw.enc)) (h2 : Gs.get e 2 = .fn 52 []) (h15 : Gs.get e 15 = .fz false 4 (l.map Flaw.enc)) (h16 : Gs.get e 16 = int l.length) (h17 : Gs.get e 17 = int 0) (H : Heap) :
    Ends T 51004 e H (fun X e' H' => match (l.zip m).any (fun q => !flawEq q.1 q.2) with | true => X = .ret ∧ Gs.get e' 6 = .bool false | false => X = .ex 0 ∧ H' = []) := by
  refine loop_anyH (T := T) (key := 51004) (li := l51004) rfl (l.zip m) (fun q => !flawEq q.1 q.2) (fun i e H => Gs.get e 1 = .fz false 4 (m.map Flaw.enc) ∧ Gs.get e 2 = .fn 52 [] ∧ Gs.get e 15 = .fz false 4 (l.map Flaw.enc) ∧ Gs.get e 16 = int l.length ∧ Gs.get e 17 = int i) (fun X e' H' => X = .ret ∧ Gs.get e' 6 = .bool false) (fun X e' H' => X = .ex 0 ∧ H' = []) ?_ ?_ e H ⟨h1, h2, h15, h16, h17⟩
  · rintro i q e H hx hi ⟨h1, h2, h15, h16, h17⟩
    obtain ⟨hx1, hx2, hi1, hi2⟩ := zip_get hx
    have hx1' : (l.map Flaw.enc)[i]? = some q.1.enc := by simp [hx1]
    have hx2' : (m.map Flaw.enc)[i]? = some q.2.enc := by simp [hx2]
    have he := e_eq1 q.1 q.2 (hbl _ (List.mem_of_getElem? hx1)) (hbm _ (List.mem_of_getElem? hx2))
    simp only [↓eA, eB, reduceIte, Nat.reduceBEq, Int.reduceNeg, Int.reduceLT, Int.reduceLE, Int.reduceAdd, Int.reduceSub, Int.reduceMul, Int.reduceEq, Int.reduceToNat, Nat.reduceLT, Nat.reduceAdd, Nat.reduceMul, Nat.reduceSub, l51004, h1, h2, h15, h16, h17, hi1, hi2, hx1', hx2', he, wrap_succ (show i < 4611686018427387904 by omega)]
    cases hc : flawEq q.1 q.2 <;> simp only [↓eA, eB, reduceIte, Nat.reduceBEq, Int.reduceNeg, Int.reduceLT, Int.reduceLE, Int.reduceAdd, Int.reduceSub, Int.reduceMul, Int.reduceEq, Int.reduceToNat, Nat.reduceLT, Nat.reduceAdd, Nat.reduceMul, Nat.reduceSub, hc] <;> and_intros <;> first | trivial | rfl
  · rintro e H ⟨h1, h2, h15, h16, h17⟩
    rw [zip_len hl] at h17
    simp only [↓eA, eB, reduceIte, Nat.reduceBEq, Int.reduceNeg, Int.reduceLT, Int.reduceLE, Int.reduceAdd, Int.reduceSub, Int.reduceMul, Int.reduceEq, Int.reduceToNat, Nat.reduceLT, Nat.reduceAdd, Nat.reduceMul, Nat.reduceSub, l51004, h1, h2, h15, h16, h17, Nat.lt_irrefl]
    and_intros <;> first | trivial | rfl
theorem e_eqf (l m : List Flaw) (hb : l.length < 4000000000) (hbl : ∀ f ∈ l, f.base.length < 4000000000) (hbm : ∀ f ∈ m, f.base.length < 4000000000) : L.call 51 [.fz false 4 (l.map Flaw.enc), .fz false 4 (m.map Flaw.enc), .fn 52 []] [] = some (.bool (eqL flawEq l m), []) :=
  call_eq rfl rfl (by
    cases hc : decide ((l.length : Int) = m.length) with
    | false => rw [eqL_ne hc]; simp only [↓eA, eB, reduceIte, Nat.reduceBEq, Int.reduceNeg, Int.reduceLT, Int.reduceLE, Int.reduceAdd, Int.reduceSub, Int.reduceMul, Int.reduceEq, Int.reduceToNat, Nat.reduceLT, Nat.reduceAdd, Nat.reduceMul, Nat.reduceSub, c51, hc]
    | true =>
    rw [eqL_eq hc]
    simp only [↓eA, eB, reduceIte, Nat.reduceBEq, Int.reduceNeg, Int.reduceLT, Int.reduceLE, Int.reduceAdd, Int.reduceSub, Int.reduceMul, Int.reduceEq, Int.reduceToNat, Nat.reduceLT, Nat.reduceAdd, Nat.reduceMul, Nat.reduceSub, c51, hc]
    generalize hE : (lim T).loop 51004 _ _ = R
    obtain ⟨X, e', H', rfl, h⟩ := Ends.at hE (lp_eqf l m (of_decide_eq_true hc) hb hbl hbm _ (by simp only [↓eA, eB, reduceIte, Nat.reduceBEq, Int.reduceNeg, Int.reduceLT, Int.reduceLE, Int.reduceAdd, Int.reduceSub, Int.reduceMul, Int.reduceEq, Int.reduceToNat, Nat.reduceLT, Nat.reduceAdd, Nat.reduceMul, Nat.reduceSub]) (by simp only [↓eA, eB, reduceIte, Nat.reduceBEq, Int.reduceNeg, Int.reduceLT, Int.reduceLE, Int.reduceAdd, Int.reduceSub, Int.reduceMul, Int.reduceEq, Int.reduceToNat, Nat.reduceLT, Nat.reduceAdd, Nat.reduceMul, Nat.reduceSub]) (by simp only [↓eA, eB, reduceIte, Nat.reduceBEq, Int.reduceNeg, Int.reduceLT, Int.reduceLE, Int.reduceAdd, Int.reduceSub, Int.reduceMul, Int.reduceEq, Int.reduceToNat, Nat.reduceLT, Nat.reduceAdd, Nat.reduceMul, Nat.reduceSub]) (by simp only [↓eA, eB, reduceIte, Nat.reduceBEq, Int.reduceNeg, Int.reduceLT, Int.reduceLE, Int.reduceAdd, Int.reduceSub, Int.reduceMul, Int.reduceEq, Int.reduceToNat, Nat.reduceLT, Nat.reduceAdd, Nat.reduceMul, Nat.reduceSub]) (by simp only [↓eA, eB, reduceIte, Nat.reduceBEq, Int.reduceNeg, Int.reduceLT, Int.reduceLE, Int.reduceAdd, Int.reduceSub, Int.reduceMul, Int.reduceEq, Int.reduceToNat, Nat.reduceLT, Nat.reduceAdd, Nat.reduceMul, Nat.reduceSub]) _)
    cases hk : (l.zip m).any (fun q => !flawEq q.1 q.2) with
    | true => rw [hk] at h; obtain ⟨rfl, g2⟩ := h; simp only [↓eA, eB, reduceIte, Nat.reduceBEq, Int.reduceNeg, Int.reduceLT, Int.reduceLE, Int.reduceAdd, Int.reduceSub, Int.reduceMul, Int.reduceEq, Int.reduceToNat, Nat.reduceLT, Nat.reduceAdd, Nat.reduceMul, Nat.reduceSub, g2]
    | false => rw [hk] at h; obtain ⟨rfl, rfl⟩ := h; simp only [↓eA, eB, reduceIte, Nat.reduceBEq, Int.reduceNeg, Int.reduceLT, Int.reduceLE, Int.reduceAdd, Int.reduceSub, Int.reduceMul, Int.reduceEq, Int.reduceToNat, Nat.reduceLT, Nat.reduceAdd, Nat.reduceMul, Nat.reduceSub])
theorem fit_base {s : Survey} (hF : s.Fit) : ∀ f ∈ s.flaws, f.base.length < 4000000000 := fun f hf => by have := hF.base f hf; omega
theorem e_equal (s t : Survey) (hF : s.Fit) (hG : t.Fit) : L.call 11 [s.enc, t.enc] [] = some (.bool (surveyEq s t), []) :=
  call_eq rfl rfl (by
    have a1 := hF.bl; have a2 := hF.jl; have a3 := hF.fl
    have b1 := hG.bl; have b2 := hG.jl; have b3 := hG.fl
    have k1 := e_sme1 false false s.beds t.beds (by omega) (by omega)
    have k2 := e_sme2 false false s.joints t.joints (by omega) (by omega)
    have k3 := e_eqf s.flaws t.flaws (by omega) (fit_base hF) (fit_base hG)
    unfold surveyEq
    cases c1 : boxEq s.pit t.pit with
    | false => simp only [boxEq] at c1; simp only [↓eA, eB, reduceIte, Nat.reduceBEq, Int.reduceNeg, Int.reduceLT, Int.reduceLE, Int.reduceAdd, Int.reduceSub, Int.reduceMul, Int.reduceEq, Int.reduceToNat, Nat.reduceLT, Nat.reduceAdd, Nat.reduceMul, Nat.reduceSub, c11, Bool.and_true, c1]
    | true =>
    simp only [boxEq] at c1
    cases c2 : openEq s t with
    | false => simp only [openEq] at c2; simp only [↓eA, eB, reduceIte, Nat.reduceBEq, Int.reduceNeg, Int.reduceLT, Int.reduceLE, Int.reduceAdd, Int.reduceSub, Int.reduceMul, Int.reduceEq, Int.reduceToNat, Nat.reduceLT, Nat.reduceAdd, Nat.reduceMul, Nat.reduceSub, c11, Bool.and_true, c1, c2]
    | true =>
    simp only [openEq] at c2
    cases c3 : eqL bedEq s.beds t.beds with
    | false => simp only [↓eA, eB, reduceIte, Nat.reduceBEq, Int.reduceNeg, Int.reduceLT, Int.reduceLE, Int.reduceAdd, Int.reduceSub, Int.reduceMul, Int.reduceEq, Int.reduceToNat, Nat.reduceLT, Nat.reduceAdd, Nat.reduceMul, Nat.reduceSub, c11, Bool.and_true, c1, c2, k1, c3]
    | true =>
    cases c4 : eqL jointEq s.joints t.joints with
    | false => simp only [↓eA, eB, reduceIte, Nat.reduceBEq, Int.reduceNeg, Int.reduceLT, Int.reduceLE, Int.reduceAdd, Int.reduceSub, Int.reduceMul, Int.reduceEq, Int.reduceToNat, Nat.reduceLT, Nat.reduceAdd, Nat.reduceMul, Nat.reduceSub, c11, Bool.and_true, c1, c2, k1, c3, k2, c4]
    | true => simp only [↓eA, eB, reduceIte, Nat.reduceBEq, Int.reduceNeg, Int.reduceLT, Int.reduceLE, Int.reduceAdd, Int.reduceSub, Int.reduceMul, Int.reduceEq, Int.reduceToNat, Nat.reduceLT, Nat.reduceAdd, Nat.reduceMul, Nat.reduceSub, c11, Bool.and_true, c1, c2, k1, c3, k2, c4, k3])
/-! .. in the reference. -/
abbrev Hs2 (s t : Survey) : Heap := [(2, .box s.cells false), (3, .box t.cells false)]
theorem lp_r1 (s t : Survey) (hl : (s.beds.length : Int) = t.beds.length) (hb : s.beds.length < 4000000000) (e : Env) (h2 : Gs.get e 2 = .ptr 2 0) (h3 : Gs.get e 3 = .ptr 3 0) (h5 : Gs.get e 5 = int 0) :
    Ends T 12004 e (Hs2 s t) (fun X e' H' => H' = Hs2 s t ∧ match (s.beds.zip t.beds).any (fun q => !bedEq q.1 q.2) with | true => X = .ret ∧ Gs.get e' 4 = .bool false | false => X = .ex 0 ∧ Gs.get e' 2 = .ptr 2 0 ∧ Gs.get e' 3 = .ptr 3 0) := by
  refine loop_any (T := T) (key := 12004) (li := l12004) rfl (s.beds.zip t.beds) (fun q => !bedEq q.1 q.2) (Hs2 s t) (fun i e => Gs.get e 2 = .ptr 2 0 ∧ Gs.get e 3 = .ptr 3 0 ∧ Gs.get e 5 = int i) (fun X e' => X = .ret ∧ Gs.get e' 4 = .bool false) (fun X e' => X = .ex 0 ∧ Gs.get e' 2 = .ptr 2 0 ∧ Gs.get e' 3 = .ptr 3 0) ?_ ?_ e ⟨h2, h3, h5⟩
  · rintro i q e hx hi ⟨h2, h3, h5⟩
    obtain ⟨hx1, hx2, hi1, hi2⟩ := zip_get hx
    have hx1' : (s.beds.map Bed.enc)[i]? = some q.1.enc := by simp [hx1]
    have hx2' : (t.beds.map Bed.enc)[i]? = some q.2.enc := by simp [hx2]
    simp only [↓eA, eB, reduceIte, Nat.reduceBEq, Int.reduceNeg, Int.reduceLT, Int.reduceLE, Int.reduceAdd, Int.reduceSub, Int.reduceMul, Int.reduceEq, Int.reduceToNat, Nat.reduceLT, Nat.reduceAdd, Nat.reduceMul, Nat.reduceSub, l12004, h2, h3, h5, hi1, hi2, hx1', hx2', wrap_succ (show i < 4611686018427387904 by omega)]
    cases hc : bedEq q.1 q.2 <;> simp only [bedEq] at hc <;> simp only [↓eA, eB, reduceIte, Nat.reduceBEq, Int.reduceNeg, Int.reduceLT, Int.reduceLE, Int.reduceAdd, Int.reduceSub, Int.reduceMul, Int.reduceEq, Int.reduceToNat, Nat.reduceLT, Nat.reduceAdd, Nat.reduceMul, Nat.reduceSub, hc, Bool.and_true] <;> and_intros <;> first | trivial | rfl
  · rintro e ⟨h2, h3, h5⟩
    rw [zip_len hl] at h5
    simp only [↓eA, eB, reduceIte, Nat.reduceBEq, Int.reduceNeg, Int.reduceLT, Int.reduceLE, Int.reduceAdd, Int.reduceSub, Int.reduceMul, Int.reduceEq, Int.reduceToNat, Nat.reduceLT, Nat.reduceAdd, Nat.reduceMul, Nat.reduceSub, l12004, h2, h3, h5, Nat.lt_irrefl]
    and_intros <;> first | trivial | rfl
theorem lp_r2 (s t : Survey) (hl : (s.joints.length : Int) = t.joints.length) (hb : s.joints.length < 4000000000) (e : Env) (h2 : Gs.get e 2 = .ptr 2 0) (h3 : Gs.get e 3 = .ptr 3 0) (h5 : Gs.get e 6 = int 0) :
    Ends T 12009 e (Hs2 s t) (fun X e' H' => H' = Hs2 s t ∧ match (s.joints.zip t.joints).any (fun q => !jointEq q.1 q.2) with | true => X = .ret ∧ Gs.get e' 4 = .bool false | false => X = .ex 2 ∧ Gs.get e' 2 = .ptr 2 0 ∧ Gs.get e' 3 = .ptr 3 0) := by
  refine loop_any (T := T) (key := 12009) (li := l12009) rfl (s.joints.zip t.joints) (fun q => !jointEq q.1 q.2) (Hs2 s t) (fun i e => Gs.get e 2 = .ptr 2 0 ∧ Gs.get e 3 = .ptr 3 0 ∧ Gs.get e 6 = int i) (fun X e' => X = .ret ∧ Gs.get e' 4 = .bool false) (fun X e' => X = .ex 2 ∧ Gs.get e' 2 = .ptr 2 0 ∧ Gs.get e' 3 = .ptr 3 0) ?_ ?_ e ⟨h2, h3, h5⟩
  · rintro i q e hx hi ⟨h2, h3, h5⟩
    obtain ⟨hx1, hx2, hi1, hi2⟩ := zip_get hx
    have hx1' : (s.joints.map Joint.enc)[i]? = some q.1.enc := by simp [hx1]
    have hx2' : (t.joints.map Joint.enc)[i]? = some q.2.enc := by simp [hx2]
    simp only [↓eA, eB, reduceIte, Nat.reduceBEq, Int.reduceNeg, Int.reduceLT, Int.reduceLE, Int.reduceAdd, Int.reduceSub, Int.reduceMul, Int.reduceEq, Int.reduceToNat, Nat.reduceLT, Nat.reduceAdd, Nat.reduceMul, Nat.reduceSub, l12009, h2, h3, h5, hi1, hi2, hx1', hx2', wrap_succ (show i < 4611686018427387904 by omega)]
    cases hc : jointEq q.1 q.2 <;> simp only [jointEq] at hc <;> simp only [↓eA, eB, reduceIte, Nat.reduceBEq, Int.reduceNeg, Int.reduceLT, Int.reduceLE, Int.reduceAdd, Int.reduceSub, Int.reduceMul, Int.reduceEq, Int.reduceToNat, Nat.reduceLT, Nat.reduceAdd, Nat.reduceMul, Nat.reduceSub, hc, Bool.and_true] <;> and_intros <;> first | trivial | rfl
  · rintro e ⟨h2, h3, h5⟩
    rw [zip_len hl] at h5
    simp only [↓eA, eB, reduceIte, Nat.reduceBEq, Int.reduceNeg, Int.reduceLT, Int.reduceLE, Int.reduceAdd, Int.reduceSub, Int.reduceMul, Int.reduceEq, Int.reduceToNat, Nat.reduceLT, Nat.reduceAdd, Nat.reduceMul, Nat.reduceSub, l12009, h2, h3, h5, Nat.lt_irrefl]
    and_intros <;> first | trivial | rfl
theorem lp_r3 (s t : Survey) (hF : s.Fit) (hG : t.Fit) (hl : (s.flaws.length : Int) = t.flaws.length) (e : Env) (H : Heap) (h2 : Gs.get e 2 = .ptr 2 0) (h3 : Gs.get e 3 = .ptr 3 0) (h5 : Gs.get e 7 = int 0) (hH : hget H 2 = some (.box s.cells false) ∧ hget H 3 = some (.box t.cells false)) :
    Ends T 12014 e H (fun X e' H' => match (s.flaws.zip t.flaws).any (fun q => !flawEq q.1 q.2) with | true => X = .ret ∧ Gs.get e' 4 = .bool false | false => X = .ex 4) := by
  have hb := hF.fl
  refine loop_anyH (T := T) (key := 12014) (li := l12014) rfl (s.flaws.zip t.flaws) (fun q => !flawEq q.1 q.2) (fun i e H => Gs.get e 2 = .ptr 2 0 ∧ Gs.get e 3 = .ptr 3 0 ∧ Gs.get e 7 = int i ∧ hget H 2 = some (.box s.cells false) ∧ hget H 3 = some (.box t.cells false)) (fun X e' H' => X = .ret ∧ Gs.get e' 4 = .bool false) (fun X e' H' => X = .ex 4) ?_ ?_ e H ⟨h2, h3, h5, hH⟩
  · rintro i q e H hx hi ⟨h2, h3, h5, hH2, hH3⟩
    obtain ⟨hx1, hx2, hi1, hi2⟩ := zip_get hx
    have hx1' : (s.flaws.map Flaw.enc)[i]? = some q.1.enc := by simp [hx1]
    have hx2' : (t.flaws.map Flaw.enc)[i]? = some q.2.enc := by simp [hx2]
    have he := e_sm5 false false q.1.base q.2.base (fit_base hF _ (List.mem_of_getElem? hx1)) (fit_base hG _ (List.mem_of_getElem? hx2))
    simp only [↓eA, eB, reduceIte, Nat.reduceBEq, Int.reduceNeg, Int.reduceLT, Int.reduceLE, Int.reduceAdd, Int.reduceSub, Int.reduceMul, Int.reduceEq, Int.reduceToNat, Nat.reduceLT, Nat.reduceAdd, Nat.reduceMul, Nat.reduceSub, l12014, h2, h3, h5, hH2, hH3, hi1, hi2, hx1', hx2', wrap_succ (show i < 4611686018427387904 by omega)]
    unfold flawEq
    cases c1 : seq q.1.name q.2.name with
    | false => simp only [↓eA, eB, reduceIte, Nat.reduceBEq, Int.reduceNeg, Int.reduceLT, Int.reduceLE, Int.reduceAdd, Int.reduceSub, Int.reduceMul, Int.reduceEq, Int.reduceToNat, Nat.reduceLT, Nat.reduceAdd, Nat.reduceMul, Nat.reduceSub, c1] <;> and_intros <;> first | trivial | rfl
    | true =>
    cases c2 : decide (q.1.lo = q.2.lo) with
    | false => simp only [↓eA, eB, reduceIte, Nat.reduceBEq, Int.reduceNeg, Int.reduceLT, Int.reduceLE, Int.reduceAdd, Int.reduceSub, Int.reduceMul, Int.reduceEq, Int.reduceToNat, Nat.reduceLT, Nat.reduceAdd, Nat.reduceMul, Nat.reduceSub, c1, c2] <;> and_intros <;> first | trivial | rfl
    | true =>
    cases c3 : decide (q.1.hi = q.2.hi) with
    | false => simp only [↓eA, eB, reduceIte, Nat.reduceBEq, Int.reduceNeg, Int.reduceLT, Int.reduceLE, Int.reduceAdd, Int.reduceSub, Int.reduceMul, Int.reduceEq, Int.reduceToNat, Nat.reduceLT, Nat.reduceAdd, Nat.reduceMul, Nat.reduceSub, c1, c2, c3] <;> and_intros <;> first | trivial | rfl
    | true =>
    cases c4 : eqL ptEq q.1.base q.2.base with
    | false => simp only [↓eA, eB, reduceIte, Nat.reduceBEq, Int.reduceNeg, Int.reduceLT, Int.reduceLE, Int.reduceAdd, Int.reduceSub, Int.reduceMul, Int.reduceEq, Int.reduceToNat, Nat.reduceLT, Nat.reduceAdd, Nat.reduceMul, Nat.reduceSub, c1, c2, c3, he, c4] <;> and_intros <;> first | trivial | rfl
    | true => simp only [↓eA, eB, reduceIte, Nat.reduceBEq, Int.reduceNeg, Int.reduceLT, Int.reduceLE, Int.reduceAdd, Int.reduceSub, Int.reduceMul, Int.reduceEq, Int.reduceToNat, Nat.reduceLT, Nat.reduceAdd, Nat.reduceMul, Nat.reduceSub, c1, c2, c3, he, c4, wrap_succ (show i < 4611686018427387904 by omega)] <;> and_intros <;> first | trivial | rfl
  · rintro e H ⟨h2, h3, h5, hH2, hH3⟩
    rw [zip_len hl] at h5
    simp only [↓eA, eB, reduceIte, Nat.reduceBEq, Int.reduceNeg, Int.reduceLT, Int.reduceLE, Int.reduceAdd, Int.reduceSub, Int.reduceMul, Int.reduceEq, Int.reduceToNat, Nat.reduceLT, Nat.reduceAdd, Nat.reduceMul, Nat.reduceSub, l12014, h2, h3, h5, hH2, hH3, Nat.lt_irrefl]
    and_intros <;> first | trivial | rfl
theorem e_rEqual (s t : Survey) (hF : s.Fit) (hG : t.Fit) : L.call 12 [s.enc, t.enc] [] = some (.bool (surveyEq s t), []) :=
  call_eq rfl rfl (by
    have a1 := hF.bl; have a2 := hF.jl; have a3 := hF.fl
    unfold surveyEq
    cases c1 : boxEq s.pit t.pit with
    | false => simp only [boxEq] at c1; simp only [↓eA, eB, reduceIte, Nat.reduceBEq, Int.reduceNeg, Int.reduceLT, Int.reduceLE, Int.reduceAdd, Int.reduceSub, Int.reduceMul, Int.reduceEq, Int.reduceToNat, Nat.reduceLT, Nat.reduceAdd, Nat.reduceMul, Nat.reduceSub, c12, Bool.and_true, c1]
    | true =>
    simp only [boxEq] at c1
    cases c2 : openEq s t with
    | false => simp only [openEq] at c2; simp only [↓eA, eB, reduceIte, Nat.reduceBEq, Int.reduceNeg, Int.reduceLT, Int.reduceLE, Int.reduceAdd, Int.reduceSub, Int.reduceMul, Int.reduceEq, Int.reduceToNat, Nat.reduceLT, Nat.reduceAdd, Nat.reduceMul, Nat.reduceSub, c12, Bool.and_true, c1, c2]
    | true =>
    simp only [openEq] at c2
    cases l1 : decide ((s.beds.length : Int) = t.beds.length) with
    | false => rw [eqL_ne l1]; simp only [↓eA, eB, reduceIte, Nat.reduceBEq, Int.reduceNeg, Int.reduceLT, Int.reduceLE, Int.reduceAdd, Int.reduceSub, Int.reduceMul, Int.reduceEq, Int.reduceToNat, Nat.reduceLT, Nat.reduceAdd, Nat.reduceMul, Nat.reduceSub, c12, Bool.and_true, c1, c2, l1]
    | true =>
    cases l2 : decide ((s.joints.length : Int) = t.joints.length) with
    | false => rw [eqL_ne l2]; simp only [↓eA, eB, reduceIte, Nat.reduceBEq, Int.reduceNeg, Int.reduceLT, Int.reduceLE, Int.reduceAdd, Int.reduceSub, Int.reduceMul, Int.reduceEq, Int.reduceToNat, Nat.reduceLT, Nat.reduceAdd, Nat.reduceMul, Nat.reduceSub, c12, Bool.and_true, c1, c2, l1, l2, Bool.and_false, Bool.false_and]
    | true =>
    cases l3 : decide ((s.flaws.length : Int) = t.flaws.length) with
    | false => rw [eqL_ne l3]; simp only [↓eA, eB, reduceIte, Nat.reduceBEq, Int.reduceNeg, Int.reduceLT, Int.reduceLE, Int.reduceAdd, Int.reduceSub, Int.reduceMul, Int.reduceEq, Int.reduceToNat, Nat.reduceLT, Nat.reduceAdd, Nat.reduceMul, Nat.reduceSub, c12, Bool.and_true, c1, c2, l1, l2, l3, Bool.and_false, Bool.false_and]
    | true =>
    rw [eqL_eq l1, eqL_eq l2, eqL_eq l3]
    simp only [↓eA, eB, reduceIte, Nat.reduceBEq, Int.reduceNeg, Int.reduceLT, Int.reduceLE, Int.reduceAdd, Int.reduceSub, Int.reduceMul, Int.reduceEq, Int.reduceToNat, Nat.reduceLT, Nat.reduceAdd, Nat.reduceMul, Nat.reduceSub, c12, Bool.and_true, c1, c2, l1, l2, l3]
    generalize hE : (lim T).loop 12004 _ _ = R
    obtain ⟨X, e', H', rfl, rfl, h⟩ := Ends.at hE (lp_r1 s t (of_decide_eq_true l1) (by omega) _ rfl rfl rfl)
    cases hk : (s.beds.zip t.beds).any (fun q => !bedEq q.1 q.2) with
    | true => rw [hk] at h; obtain ⟨rfl, g2⟩ := h; simp only [↓eA, eB, reduceIte, Nat.reduceBEq, Int.reduceNeg, Int.reduceLT, Int.reduceLE, Int.reduceAdd, Int.reduceSub, Int.reduceMul, Int.reduceEq, Int.reduceToNat, Nat.reduceLT, Nat.reduceAdd, Nat.reduceMul, Nat.reduceSub, g2]
    | false =>
    rw [hk] at h; obtain ⟨rfl, g2, g3⟩ := h
    simp only [↓eA, eB, reduceIte, Nat.reduceBEq, Int.reduceNeg, Int.reduceLT, Int.reduceLE, Int.reduceAdd, Int.reduceSub, Int.reduceMul, Int.reduceEq, Int.reduceToNat, Nat.reduceLT, Nat.reduceAdd, Nat.reduceMul, Nat.reduceSub, g2, g3]
    generalize hE : (lim T).loop 12009 _ _ = R
    obtain ⟨X, e', H', rfl, rfl, h⟩ := Ends.at hE (lp_r2 s t (of_decide_eq_true l2) (by omega) _ (by simp only [↓eA, eB, reduceIte, Nat.reduceBEq, Int.reduceNeg, Int.reduceLT, Int.reduceLE, Int.reduceAdd, Int.reduceSub, Int.reduceMul, Int.reduceEq, Int.reduceToNat, Nat.reduceLT, Nat.reduceAdd, Nat.reduceMul, Nat.reduceSub, g2]) (by simp only [↓eA, eB, reduceIte, Nat.reduceBEq, Int.reduceNeg, Int.reduceLT, Int.reduceLE, Int.reduceAdd, Int.reduceSub, Int.reduceMul, Int.reduceEq, Int.reduceToNat, Nat.reduceLT, Nat.reduceAdd, Nat.reduceMul, Nat.reduceSub, g3]) (by simp only [↓eA, eB, reduceIte, Nat.reduceBEq, Int.reduceNeg, Int.reduceLT, Int.reduceLE, Int.reduceAdd, Int.reduceSub, Int.reduceMul, Int.reduceEq, Int.reduceToNat, Nat.reduceLT, Nat.reduceAdd, Nat.reduceMul, Nat.reduceSub]))
    cases hk : (s.joints.zip t.joints).any (fun q => !jointEq q.1 q.2) with
    | true => rw [hk] at h; obtain ⟨rfl, g2⟩ := h; simp only [↓eA, eB, reduceIte, Nat.reduceBEq, Int.reduceNeg, Int.reduceLT, Int.reduceLE, Int.reduceAdd, Int.reduceSub, Int.reduceMul, Int.reduceEq, Int.reduceToNat, Nat.reduceLT, Nat.reduceAdd, Nat.reduceMul, Nat.reduceSub, g2]
    | false =>
    rw [hk] at h; obtain ⟨rfl, g2, g3⟩ := h
    simp only [↓eA, eB, reduceIte, Nat.reduceBEq, Int.reduceNeg, Int.reduceLT, Int.reduceLE, Int.reduceAdd, Int.reduceSub, Int.reduceMul, Int.reduceEq, Int.reduceToNat, Nat.reduceLT, Nat.reduceAdd, Nat.reduceMul, Nat.reduceSub, g2, g3]
    generalize hE : (lim T).loop 12014 _ _ = R
    obtain ⟨X, e', H', rfl, h⟩ := Ends.at hE (lp_r3 s t hF hG (of_decide_eq_true l3) _ _ (by simp only [↓eA, eB, reduceIte, Nat.reduceBEq, Int.reduceNeg, Int.reduceLT, Int.reduceLE, Int.reduceAdd, Int.reduceSub, Int.reduceMul, Int.reduceEq, Int.reduceToNat, Nat.reduceLT, Nat.reduceAdd, Nat.reduceMul, Nat.reduceSub, g2]) (by simp only [↓eA, eB, reduceIte, Nat.reduceBEq, Int.reduceNeg, Int.reduceLT, Int.reduceLE, Int.reduceAdd, Int.reduceSub, Int.reduceMul, Int.reduceEq, Int.reduceToNat, Nat.reduceLT, Nat.reduceAdd, Nat.reduceMul, Nat.reduceSub, g3]) (by simp only [↓eA, eB, reduceIte, Nat.reduceBEq, Int.reduceNeg, Int.reduceLT, Int.reduceLE, Int.reduceAdd, Int.reduceSub, Int.reduceMul, Int.reduceEq, Int.reduceToNat, Nat.reduceLT, Nat.reduceAdd, Nat.reduceMul, Nat.reduceSub]) ⟨rfl, rfl⟩)
    cases hk : (s.flaws.zip t.flaws).any (fun q => !flawEq q.1 q.2) with
    | true => rw [hk] at h; obtain ⟨rfl, g2⟩ := h; simp only [↓eA, eB, reduceIte, Nat.reduceBEq, Int.reduceNeg, Int.reduceLT, Int.reduceLE, Int.reduceAdd, Int.reduceSub, Int.reduceMul, Int.reduceEq, Int.reduceToNat, Nat.reduceLT, Nat.reduceAdd, Nat.reduceMul, Nat.reduceSub, g2]
    | false => rw [hk] at h; obtain rfl := h; simp only [↓eA, eB, reduceIte, Nat.reduceBEq, Int.reduceNeg, Int.reduceLT, Int.reduceLE, Int.reduceAdd, Int.reduceSub, Int.reduceMul, Int.reduceEq, Int.reduceToNat, Nat.reduceLT, Nat.reduceAdd, Nat.reduceMul, Nat.reduceSub])
theorem eqL_self {α : Type} {p : α → α → Bool} (h : ∀ x, p x x = true) (l : List α) : eqL p l l = true := by
  unfold eqL
  simp only [decide_true, Bool.true_and, Bool.not_eq_true', List.any_eq_false]
  intro q hq
  have : q.1 = q.2 := by
    obtain ⟨i, hi⟩ := List.mem_iff_getElem?.1 hq
    obtain ⟨h1, h2, _⟩ := zip_get hi
    rw [h1] at h2; injection h2
  rw [this, h]; simp
theorem surveyEq_self (s : Survey) : surveyEq s s = true := by
  unfold surveyEq
  rw [eqL_self (fun x => by simp [bedEq, seq]), eqL_self (fun x => by simp [jointEq, seq]), eqL_self (fun x => by simp [flawEq, seq, eqL_self (p := ptEq) (fun x => by simp [ptEq])])]
  simp [boxEq, openEq]
end Tz
