/- Equal lists; no conditions. -/
import Derived.Test.YtbdcbppmgbekoaaGreatDoorS19
set_option linter.unusedVariables false
set_option linter.unusedSimpArgs false
set_option linter.unusedSectionVars false
set_option linter.defProp false
set_option linter.deprecated false
open Gs Go
namespace Tz
/-! Equal lists. -/
structure Tk where
  kind : Int
  text : ByteArray
  n : Int
  at_ : Int
abbrev Tk.enc (t : Tk) : D := .agg [int t.kind, .str t.text, int t.n, int t.at_]
def eqL {α : Type} (p : α → α → Bool) (l m : List α) : Bool := decide ((l.length : Int) = m.length) && !((l.zip m).any fun q => !p q.1 q.2)
def bedEq (x y : Bed) : Bool := seq x.name y.name && decide (x.z = y.z)
def jointEq (x y : Joint) : Bool := seq x.name y.name && (decide (x.axis = y.axis) && (decide (x.at_ = y.at_) && (decide (x.lo = y.lo) && decide (x.hi = y.hi))))
def ptEq (x y : Pt) : Bool := decide (x.x = y.x) && decide (x.y = y.y)
def tkEq (x y : Tk) : Bool := decide (x.kind = y.kind) && (seq x.text y.text && (decide (x.n = y.n) && decide (x.at_ = y.at_)))
theorem zip_get {α : Type} {l m : List α} {i : Nat} {q : α × α} (h : (l.zip m)[i]? = some q) : l[i]? = some q.1 ∧ m[i]? = some q.2 ∧ i < l.length ∧ i < m.length := by
  rw [List.getElem?_zip_eq_some] at h
  exact ⟨h.1, h.2, (List.getElem?_eq_some_iff.1 h.1).1, (List.getElem?_eq_some_iff.1 h.2).1⟩
theorem zip_len {α : Type} {l m : List α} (h : (l.length : Int) = m.length) : (l.zip m).length = l.length := by
  rw [List.length_zip]; omega
theorem eqL_ne {α : Type} {p : α → α → Bool} {l m : List α} (h : decide ((l.length : Int) = m.length) = false) : eqL p l m = false := by simp only [eqL, h, Bool.false_and]
theorem eqL_eq {α : Type} {p : α → α → Bool} {l m : List α} (h : decide ((l.length : Int) = m.length) = true) : eqL p l m = !((l.zip m).any fun q => !p q.1 q.2) := by simp only [eqL, h, Bool.true_and]
theorem lp_sm5 (nz nz' : Bool) (l m : List Pt) (hl : (l.length : Int) = m.length) (hb : l.length < 4000000000) (e : Env) (h0 : Gs.get e 0 = .fz nz 2 (l.map Pt.enc)) (h1 : Gs.get e 1 = .fz nz' 2 (m.map Pt.enc)) (h5 : Gs.get e 5 = int 0) (hXT : True) :
    Ends T 54004 e [] (fun X e' H' => H' = [] ∧ match (l.zip m).any (fun q => !ptEq q.1 q.2) with | true => X = .ret ∧ Gs.get e' 4 = .bool false | false => X = .ex 0) := by
  refine loop_any (T := T) (key := 54004) (li := l54004) rfl (l.zip m) (fun q => !ptEq q.1 q.2) [] (fun i e => Gs.get e 0 = .fz nz 2 (l.map Pt.enc) ∧ Gs.get e 1 = .fz nz' 2 (m.map Pt.enc) ∧ Gs.get e 5 = int i ∧ True) (fun X e' => X = .ret ∧ Gs.get e' 4 = .bool false) (fun X e' => X = .ex 0) ?_ ?_ e ⟨h0, h1, h5, hXT⟩
  · rintro i q e hx hi ⟨h0, h1, h5, hXT⟩
    obtain ⟨hx1, hx2, hi1, hi2⟩ := zip_get hx
    have hx1' : (l.map Pt.enc)[i]? = some q.1.enc := by simp [hx1]
    have hx2' : (m.map Pt.enc)[i]? = some q.2.enc := by simp [hx2]
    simp only [↓eA, eB, reduceIte, Nat.reduceBEq, Int.reduceNeg, Int.reduceLT, Int.reduceLE, Int.reduceAdd, Int.reduceSub, Int.reduceMul, Int.reduceEq, Int.reduceToNat, Nat.reduceLT, Nat.reduceAdd, Nat.reduceMul, Nat.reduceSub, l54004, h0, h1, h5, hi1, hi2, hx1', hx2', hXT, wrap_succ (show i < 4611686018427387904 by omega)]
    cases hc : ptEq q.1 q.2 <;> simp only [ptEq] at hc <;> simp only [↓eA, eB, reduceIte, Nat.reduceBEq, Int.reduceNeg, Int.reduceLT, Int.reduceLE, Int.reduceAdd, Int.reduceSub, Int.reduceMul, Int.reduceEq, Int.reduceToNat, Nat.reduceLT, Nat.reduceAdd, Nat.reduceMul, Nat.reduceSub, hc, Bool.and_true] <;> and_intros <;> first | trivial | rfl
  · rintro e ⟨h0, h1, h5, hXT⟩
    rw [zip_len hl] at h5
    simp only [↓eA, eB, reduceIte, Nat.reduceBEq, Int.reduceNeg, Int.reduceLT, Int.reduceLE, Int.reduceAdd, Int.reduceSub, Int.reduceMul, Int.reduceEq, Int.reduceToNat, Nat.reduceLT, Nat.reduceAdd, Nat.reduceMul, Nat.reduceSub, l54004, h0, h1, h5, hXT, Nat.lt_irrefl]
    and_intros <;> first | trivial | rfl
theorem e_sm5 (nz nz' : Bool) (l m : List Pt) (hb : l.length < 4000000000) (hb' : m.length < 4000000000) : L.call 54 [.fz nz 2 (l.map Pt.enc), .fz nz' 2 (m.map Pt.enc)] [] = some (.bool (eqL ptEq l m), []) :=
  call_eq rfl rfl (by
    cases hc : decide ((l.length : Int) = m.length) with
    | false => rw [eqL_ne hc]; simp only [↓eA, eB, reduceIte, Nat.reduceBEq, Int.reduceNeg, Int.reduceLT, Int.reduceLE, Int.reduceAdd, Int.reduceSub, Int.reduceMul, Int.reduceEq, Int.reduceToNat, Nat.reduceLT, Nat.reduceAdd, Nat.reduceMul, Nat.reduceSub, c54, hc]
    | true =>
    rw [eqL_eq hc]
    simp only [↓eA, eB, reduceIte, Nat.reduceBEq, Int.reduceNeg, Int.reduceLT, Int.reduceLE, Int.reduceAdd, Int.reduceSub, Int.reduceMul, Int.reduceEq, Int.reduceToNat, Nat.reduceLT, Nat.reduceAdd, Nat.reduceMul, Nat.reduceSub, c54, hc]
    generalize hE : (lim T).loop 54004 _ _ = R
    obtain ⟨X, e', H', rfl, rfl, h⟩ := Ends.at hE (lp_sm5 nz nz' l m (of_decide_eq_true hc) hb _ (by simp only [↓eA, eB, reduceIte, Nat.reduceBEq, Int.reduceNeg, Int.reduceLT, Int.reduceLE, Int.reduceAdd, Int.reduceSub, Int.reduceMul, Int.reduceEq, Int.reduceToNat, Nat.reduceLT, Nat.reduceAdd, Nat.reduceMul, Nat.reduceSub]) (by simp only [↓eA, eB, reduceIte, Nat.reduceBEq, Int.reduceNeg, Int.reduceLT, Int.reduceLE, Int.reduceAdd, Int.reduceSub, Int.reduceMul, Int.reduceEq, Int.reduceToNat, Nat.reduceLT, Nat.reduceAdd, Nat.reduceMul, Nat.reduceSub]) (by simp only [↓eA, eB, reduceIte, Nat.reduceBEq, Int.reduceNeg, Int.reduceLT, Int.reduceLE, Int.reduceAdd, Int.reduceSub, Int.reduceMul, Int.reduceEq, Int.reduceToNat, Nat.reduceLT, Nat.reduceAdd, Nat.reduceMul, Nat.reduceSub]) (by first | trivial | simp only [↓eA, eB, reduceIte, Nat.reduceBEq, Int.reduceNeg, Int.reduceLT, Int.reduceLE, Int.reduceAdd, Int.reduceSub, Int.reduceMul, Int.reduceEq, Int.reduceToNat, Nat.reduceLT, Nat.reduceAdd, Nat.reduceMul, Nat.reduceSub]))
    cases hk : (l.zip m).any (fun q => !ptEq q.1 q.2) with
    | true => rw [hk] at h; obtain ⟨rfl, g2⟩ := h; simp only [↓eA, eB, reduceIte, Nat.reduceBEq, Int.reduceNeg, Int.reduceLT, Int.reduceLE, Int.reduceAdd, Int.reduceSub, Int.reduceMul, Int.reduceEq, Int.reduceToNat, Nat.reduceLT, Nat.reduceAdd, Nat.reduceMul, Nat.reduceSub, g2]
    | false => rw [hk] at h; obtain rfl := h; simp only [↓eA, eB, reduceIte, Nat.reduceBEq, Int.reduceNeg, Int.reduceLT, Int.reduceLE, Int.reduceAdd, Int.reduceSub, Int.reduceMul, Int.reduceEq, Int.reduceToNat, Nat.reduceLT, Nat.reduceAdd, Nat.reduceMul, Nat.reduceSub])
theorem lp_sm9 (nz nz' : Bool) (l m : List Tk) (hl : (l.length : Int) = m.length) (hb : l.length < 4000000000) (e : Env) (h0 : Gs.get e 0 = .fz nz 4 (l.map Tk.enc)) (h1 : Gs.get e 1 = .fz nz' 4 (m.map Tk.enc)) (h5 : Gs.get e 5 = int 0) (hXT : True) :
    Ends T 55004 e [] (fun X e' H' => H' = [] ∧ match (l.zip m).any (fun q => !tkEq q.1 q.2) with | true => X = .ret ∧ Gs.get e' 4 = .bool false | false => X = .ex 0) := by
  refine loop_any (T := T) (key := 55004) (li := l55004) rfl (l.zip m) (fun q => !tkEq q.1 q.2) [] (fun i e => Gs.get e 0 = .fz nz 4 (l.map Tk.enc) ∧ Gs.get e 1 = .fz nz' 4 (m.map Tk.enc) ∧ Gs.get e 5 = int i ∧ True) (fun X e' => X = .ret ∧ Gs.get e' 4 = .bool false) (fun X e' => X = .ex 0) ?_ ?_ e ⟨h0, h1, h5, hXT⟩
  · rintro i q e hx hi ⟨h0, h1, h5, hXT⟩
    obtain ⟨hx1, hx2, hi1, hi2⟩ := zip_get hx
    have hx1' : (l.map Tk.enc)[i]? = some q.1.enc := by simp [hx1]
    have hx2' : (m.map Tk.enc)[i]? = some q.2.enc := by simp [hx2]
    simp only [↓eA, eB, reduceIte, Nat.reduceBEq, Int.reduceNeg, Int.reduceLT, Int.reduceLE, Int.reduceAdd, Int.reduceSub, Int.reduceMul, Int.reduceEq, Int.reduceToNat, Nat.reduceLT, Nat.reduceAdd, Nat.reduceMul, Nat.reduceSub, l55004, h0, h1, h5, hi1, hi2, hx1', hx2', hXT, wrap_succ (show i < 4611686018427387904 by omega)]
    cases hc : tkEq q.1 q.2 <;> simp only [tkEq] at hc <;> simp only [↓eA, eB, reduceIte, Nat.reduceBEq, Int.reduceNeg, Int.reduceLT, Int.reduceLE, Int.reduceAdd, Int.reduceSub, Int.reduceMul, Int.reduceEq, Int.reduceToNat, Nat.reduceLT, Nat.reduceAdd, Nat.reduceMul, Nat.reduceSub, hc, Bool.and_true] <;> and_intros <;> first | trivial | rfl
  · rintro e ⟨h0, h1, h5, hXT⟩
    rw [zip_len hl] at h5
    simp only [↓eA, eB, reduceIte, Nat.reduceBEq, Int.reduceNeg, Int.reduceLT, Int.reduceLE, Int.reduceAdd, Int.reduceSub, Int.reduceMul, Int.reduceEq, Int.reduceToNat, Nat.reduceLT, Nat.reduceAdd, Nat.reduceMul, Nat.reduceSub, l55004, h0, h1, h5, hXT, Nat.lt_irrefl]
    and_intros <;> first | trivial | rfl
theorem e_sm9 (nz nz' : Bool) (l m : List Tk) (hb : l.length < 4000000000) (hb' : m.length < 4000000000) : L.call 55 [.fz nz 4 (l.map Tk.enc), .fz nz' 4 (m.map Tk.enc)] [] = some (.bool (eqL tkEq l m), []) :=
  call_eq rfl rfl (by
    cases hc : decide ((l.length : Int) = m.length) with
    | false => rw [eqL_ne hc]; simp only [↓eA, eB, reduceIte, Nat.reduceBEq, Int.reduceNeg, Int.reduceLT, Int.reduceLE, Int.reduceAdd, Int.reduceSub, Int.reduceMul, Int.reduceEq, Int.reduceToNat, Nat.reduceLT, Nat.reduceAdd, Nat.reduceMul, Nat.reduceSub, c55, hc]
    | true =>
    rw [eqL_eq hc]
    simp only [↓eA, eB, reduceIte, Nat.reduceBEq, Int.reduceNeg, Int.reduceLT, Int.reduceLE, Int.reduceAdd, Int.reduceSub, Int.reduceMul, Int.reduceEq, Int.reduceToNat, Nat.reduceLT, Nat.reduceAdd, Nat.reduceMul, Nat.reduceSub, c55, hc]
    generalize hE : (lim T).loop 55004 _ _ = R
    obtain ⟨X, e', H', rfl, rfl, h⟩ := Ends.at hE (lp_sm9 nz nz' l m (of_decide_eq_true hc) hb _ (by simp only [↓eA, eB, reduceIte, Nat.reduceBEq, Int.reduceNeg, Int.reduceLT, Int.reduceLE, Int.reduceAdd, Int.reduceSub, Int.reduceMul, Int.reduceEq, Int.reduceToNat, Nat.reduceLT, Nat.reduceAdd, Nat.reduceMul, Nat.reduceSub]) (by simp only [↓eA, eB, reduceIte, Nat.reduceBEq, Int.reduceNeg, Int.reduceLT, Int.reduceLE, Int.reduceAdd, Int.reduceSub, Int.reduceMul, Int.reduceEq, Int.reduceToNat, Nat.reduceLT, Nat.reduceAdd, Nat.reduceMul, Nat.reduceSub]) (by simp only [↓eA, eB, reduceIte, Nat.reduceBEq, Int.reduceNeg, Int.reduceLT, Int.reduceLE, Int.reduceAdd, Int.reduceSub, Int.reduceMul, Int.reduceEq, Int.reduceToNat, Nat.reduceLT, Nat.reduceAdd, Nat.reduceMul, Nat.reduceSub]) (by first | trivial | simp only [↓eA, eB, reduceIte, Nat.reduceBEq, Int.reduceNeg, Int.reduceLT, Int.reduceLE, Int.reduceAdd, Int.reduceSub, Int.reduceMul, Int.reduceEq, Int.reduceToNat, Nat.reduceLT, Nat.reduceAdd, Nat.reduceMul, Nat.reduceSub]))
    cases hk : (l.zip m).any (fun q => !tkEq q.1 q.2) with
    | true => rw [hk] at h; obtain ⟨rfl, g2⟩ := h; simp only [↓eA, eB, reduceIte, Nat.reduceBEq, Int.reduceNeg, Int.reduceLT, Int.reduceLE, Int.reduceAdd, Int.reduceSub, Int.reduceMul, Int.reduceEq, Int.reduceToNat, Nat.reduceLT, Nat.reduceAdd, Nat.reduceMul, Nat.reduceSub, g2]
    | false => rw [hk] at h; obtain rfl := h; simp only [↓eA, eB, reduceIte, Nat.reduceBEq, Int.reduceNeg, Int.reduceLT, Int.reduceLE, Int.reduceAdd, Int.reduceSub, Int.reduceMul, Int.reduceEq, Int.reduceToNat, Nat.reduceLT, Nat.reduceAdd, Nat.reduceMul, Nat.reduceSub])
theorem lp_sme1 (nz nz' : Bool) (l m : List Bed) (hl : (l.length : Int) = m.length) (hb : l.length < 4000000000) (e : Env) (h0 : Gs.get e 0 = .fz nz 2 (l.map Bed.enc)) (h1 : Gs.get e 1 = .fz nz' 2 (m.map Bed.enc)) (h5 : Gs.get e 13 = int 0) (hXT : Gs.get e 12 = int l.length) :
    Ends T 49004 e [] (fun X e' H' => H' = [] ∧ match (l.zip m).any (fun q => !bedEq q.1 q.2) with | true => X = .ret ∧ Gs.get e' 4 = .bool false | false => X = .ex 0) := by
  refine loop_any (T := T) (key := 49004) (li := l49004) rfl (l.zip m) (fun q => !bedEq q.1 q.2) [] (fun i e => Gs.get e 0 = .fz nz 2 (l.map Bed.enc) ∧ Gs.get e 1 = .fz nz' 2 (m.map Bed.enc) ∧ Gs.get e 13 = int i ∧ Gs.get e 12 = int l.length) (fun X e' => X = .ret ∧ Gs.get e' 4 = .bool false) (fun X e' => X = .ex 0) ?_ ?_ e ⟨h0, h1, h5, hXT⟩
  · rintro i q e hx hi ⟨h0, h1, h5, hXT⟩
    obtain ⟨hx1, hx2, hi1, hi2⟩ := zip_get hx
    have hx1' : (l.map Bed.enc)[i]? = some q.1.enc := by simp [hx1]
    have hx2' : (m.map Bed.enc)[i]? = some q.2.enc := by simp [hx2]
    simp only [↓eA, eB, reduceIte, Nat.reduceBEq, Int.reduceNeg, Int.reduceLT, Int.reduceLE, Int.reduceAdd, Int.reduceSub, Int.reduceMul, Int.reduceEq, Int.reduceToNat, Nat.reduceLT, Nat.reduceAdd, Nat.reduceMul, Nat.reduceSub, l49004, h0, h1, h5, hi1, hi2, hx1', hx2', hXT, wrap_succ (show i < 4611686018427387904 by omega)]
    cases hc : bedEq q.1 q.2 <;> simp only [bedEq] at hc <;> simp only [↓eA, eB, reduceIte, Nat.reduceBEq, Int.reduceNeg, Int.reduceLT, Int.reduceLE, Int.reduceAdd, Int.reduceSub, Int.reduceMul, Int.reduceEq, Int.reduceToNat, Nat.reduceLT, Nat.reduceAdd, Nat.reduceMul, Nat.reduceSub, hc, Bool.and_true] <;> and_intros <;> first | trivial | rfl
  · rintro e ⟨h0, h1, h5, hXT⟩
    rw [zip_len hl] at h5
    simp only [↓eA, eB, reduceIte, Nat.reduceBEq, Int.reduceNeg, Int.reduceLT, Int.reduceLE, Int.reduceAdd, Int.reduceSub, Int.reduceMul, Int.reduceEq, Int.reduceToNat, Nat.reduceLT, Nat.reduceAdd, Nat.reduceMul, Nat.reduceSub, l49004, h0, h1, h5, hXT, Nat.lt_irrefl]
    and_intros <;> first | trivial | rfl
theorem e_sme1 (nz nz' : Bool) (l m : List Bed) (hb : l.length < 4000000000) (hb' : m.length < 4000000000) : L.call 49 [.fz nz 2 (l.map Bed.enc), .fz nz' 2 (m.map Bed.enc)] [] = some (.bool (eqL bedEq l m), []) :=
  call_eq rfl rfl (by
    cases hc : decide ((l.length : Int) = m.length) with
    | false => rw [eqL_ne hc]; simp only [↓eA, eB, reduceIte, Nat.reduceBEq, Int.reduceNeg, Int.reduceLT, Int.reduceLE, Int.reduceAdd, Int.reduceSub, Int.reduceMul, Int.reduceEq, Int.reduceToNat, Nat.reduceLT, Nat.reduceAdd, Nat.reduceMul, Nat.reduceSub, c49, hc]
    | true =>
    rw [eqL_eq hc]
    simp only [↓eA, eB, reduceIte, Nat.reduceBEq, Int.reduceNeg, Int.reduceLT, Int.reduceLE, Int.reduceAdd, Int.reduceSub, Int.reduceMul, Int.reduceEq, Int.reduceToNat, Nat.reduceLT, Nat.reduceAdd, Nat.reduceMul, Nat.reduceSub, c49, hc]
    generalize hE : (lim T).loop 49004 _ _ = R
    obtain ⟨X, e', H', rfl, rfl, h⟩ := Ends.at hE (lp_sme1 nz nz' l m (of_decide_eq_true hc) hb _ (by simp only [↓eA, eB, reduceIte, Nat.reduceBEq, Int.reduceNeg, Int.reduceLT, Int.reduceLE, Int.reduceAdd, Int.reduceSub, Int.reduceMul, Int.reduceEq, Int.reduceToNat, Nat.reduceLT, Nat.reduceAdd, Nat.reduceMul, Nat.reduceSub]) (by simp only [↓eA, eB, reduceIte, Nat.reduceBEq, Int.reduceNeg, Int.reduceLT, Int.reduceLE, Int.reduceAdd, Int.reduceSub, Int.reduceMul, Int.reduceEq, Int.reduceToNat, Nat.reduceLT, Nat.reduceAdd, Nat.reduceMul, Nat.reduceSub]) (by simp only [↓eA, eB, reduceIte, Nat.reduceBEq, Int.reduceNeg, Int.reduceLT, Int.reduceLE, Int.reduceAdd, Int.reduceSub, Int.reduceMul, Int.reduceEq, Int.reduceToNat, Nat.reduceLT, Nat.reduceAdd, Nat.reduceMul, Nat.reduceSub]) (by first | trivial | simp only [↓eA, eB, reduceIte, Nat.reduceBEq, Int.reduceNeg, Int.reduceLT, Int.reduceLE, Int.reduceAdd, Int.reduceSub, Int.reduceMul, Int.reduceEq, Int.reduceToNat, Nat.reduceLT, Nat.reduceAdd, Nat.reduceMul, Nat.reduceSub]))
    cases hk : (l.zip m).any (fun q => !bedEq q.1 q.2) with
    | true => rw [hk] at h; obtain ⟨rfl, g2⟩ := h; simp only [↓eA, eB, reduceIte, Nat.reduceBEq, Int.reduceNeg, Int.reduceLT, Int.reduceLE, Int.reduceAdd, Int.reduceSub, Int.reduceMul, Int.reduceEq, Int.reduceToNat, Nat.reduceLT, Nat.reduceAdd, Nat.reduceMul, Nat.reduceSub, g2]
    | false => rw [hk] at h; obtain rfl := h; simp only [↓eA, eB, reduceIte, Nat.reduceBEq, Int.reduceNeg, Int.reduceLT, Int.reduceLE, Int.reduceAdd, Int.reduceSub, Int.reduceMul, Int.reduceEq, Int.reduceToNat, Nat.reduceLT, Nat.reduceAdd, Nat.reduceMul, Nat.reduceSub])
theorem lp_sme2 (nz nz' : Bool) (l m : List Joint) (hl : (l.length : Int) = m.length) (hb : l.length < 4000000000) (e : Env) (h0 : Gs.get e 0 = .fz nz 5 (l.map Joint.enc)) (h1 : Gs.get e 1 = .fz nz' 5 (m.map Joint.enc)) (h5 : Gs.get e 13 = int 0) (hXT : Gs.get e 12 = int l.length) :
    Ends T 50004 e [] (fun X e' H' => H' = [] ∧ match (l.zip m).any (fun q => !jointEq q.1 q.2) with | true => X = .ret ∧ Gs.get e' 4 = .bool false | false => X = .ex 0) := by
  refine loop_any (T := T) (key := 50004) (li := l50004) rfl (l.zip m) (fun q => !jointEq q.1 q.2) [] (fun i e => Gs.get e 0 = .fz nz 5 (l.map Joint.enc) ∧ Gs.get e 1 = .fz nz' 5 (m.map Joint.enc) ∧ Gs.get e 13 = int i ∧ Gs.get e 12 = int l.length) (fun X e' => X = .ret ∧ Gs.get e' 4 = .bool false) (fun X e' => X = .ex 0) ?_ ?_ e ⟨h0, h1, h5, hXT⟩
  · rintro i q e hx hi ⟨h0, h1, h5, hXT⟩
    obtain ⟨hx1, hx2, hi1, hi2⟩ := zip_get hx
    have hx1' : (l.map Joint.enc)[i]? = some q.1.enc := by simp [hx1]
    have hx2' : (m.map Joint.enc)[i]? = some q.2.enc := by simp [hx2]
    simp only [↓eA, eB, reduceIte, Nat.reduceBEq, Int.reduceNeg, Int.reduceLT, Int.reduceLE, Int.reduceAdd, Int.reduceSub, Int.reduceMul, Int.reduceEq, Int.reduceToNat, Nat.reduceLT, Nat.reduceAdd, Nat.reduceMul, Nat.reduceSub, l50004, h0, h1, h5, hi1, hi2, hx1', hx2', hXT, wrap_succ (show i < 4611686018427387904 by omega)]
    cases hc : jointEq q.1 q.2 <;> simp only [jointEq] at hc <;> simp only [↓eA, eB, reduceIte, Nat.reduceBEq, Int.reduceNeg, Int.reduceLT, Int.reduceLE, Int.reduceAdd, Int.reduceSub, Int.reduceMul, Int.reduceEq, Int.reduceToNat, Nat.reduceLT, Nat.reduceAdd, Nat.reduceMul, Nat.reduceSub, hc, Bool.and_true] <;> and_intros <;> first | trivial | rfl
  · rintro e ⟨h0, h1, h5, hXT⟩
    rw [zip_len hl] at h5
    simp only [↓eA, eB, reduceIte, Nat.reduceBEq, Int.reduceNeg, Int.reduceLT, Int.reduceLE, Int.reduceAdd, Int.reduceSub, Int.reduceMul, Int.reduceEq, Int.reduceToNat, Nat.reduceLT, Nat.reduceAdd, Nat.reduceMul, Nat.reduceSub, l50004, h0, h1, h5, hXT, Nat.lt_irrefl]
    and_intros <;> first | trivial | rfl
theorem e_sme2 (nz nz' : Bool) (l m : List Joint) (hb : l.length < 4000000000) (hb' : m.length < 4000000000) : L.call 50 [.fz nz 5 (l.map Joint.enc), .fz nz' 5 (m.map Joint.enc)] [] = some (.bool (eqL jointEq l m), []) :=
  call_eq rfl rfl (by
    cases hc : decide ((l.length : Int) = m.length) with
    | false => rw [eqL_ne hc]; simp only [↓eA, eB, reduceIte, Nat.reduceBEq, Int.reduceNeg, Int.reduceLT, Int.reduceLE, Int.reduceAdd, Int.reduceSub, Int.reduceMul, Int.reduceEq, Int.reduceToNat, Nat.reduceLT, Nat.reduceAdd, Nat.reduceMul, Nat.reduceSub, c50, hc]
    | true =>
    rw [eqL_eq hc]
    simp only [↓eA, eB, reduceIte, Nat.reduceBEq, Int.reduceNeg, Int.reduceLT, Int.reduceLE, Int.reduceAdd, Int.reduceSub, Int.reduceMul, Int.reduceEq, Int.reduceToNat, Nat.reduceLT, Nat.reduceAdd, Nat.reduceMul, Nat.reduceSub, c50, hc]
    generalize hE : (lim T).loop 50004 _ _ = R
    obtain ⟨X, e', H', rfl, rfl, h⟩ := Ends.at hE (lp_sme2 nz nz' l m (of_decide_eq_true hc) hb _ (by simp only [↓eA, eB, reduceIte, Nat.reduceBEq, Int.reduceNeg, Int.reduceLT, Int.reduceLE, Int.reduceAdd, Int.reduceSub, Int.reduceMul, Int.reduceEq, Int.reduceToNat, Nat.reduceLT, Nat.reduceAdd, Nat.reduceMul, Nat.reduceSub]) (by simp only [↓eA, eB, reduceIte, Nat.reduceBEq, Int.reduceNeg, Int.reduceLT, Int.reduceLE, Int.reduceAdd, Int.reduceSub, Int.reduceMul, Int.reduceEq, Int.reduceToNat, Nat.reduceLT, Nat.reduceAdd, Nat.reduceMul, Nat.reduceSub]) (by simp only [↓eA, eB, reduceIte, Nat.reduceBEq, Int.reduceNeg, Int.reduceLT, Int.reduceLE, Int.reduceAdd, Int.reduceSub, Int.reduceMul, Int.reduceEq, Int.reduceToNat, Nat.reduceLT, Nat.reduceAdd, Nat.reduceMul, Nat.reduceSub]) (by first | trivial | simp only [↓eA, eB, reduceIte, Nat.reduceBEq, Int.reduceNeg, Int.reduceLT, Int.reduceLE, Int.reduceAdd, Int.reduceSub, Int.reduceMul, Int.reduceEq, Int.reduceToNat, Nat.reduceLT, Nat.reduceAdd, Nat.reduceMul, Nat.reduceSub]))
    cases hk : (l.zip m).any (fun q => !jointEq q.1 q.2) with
    | true => rw [hk] at h; obtain ⟨rfl, g2⟩ := h; simp only [↓eA, eB, reduceIte, Nat.reduceBEq, Int.reduceNeg, Int.reduceLT, Int.reduceLE, Int.reduceAdd, Int.reduceSub, Int.reduceMul, Int.reduceEq, Int.reduceToNat, Nat.reduceLT, Nat.reduceAdd, Nat.reduceMul, Nat.reduceSub, g2]
    | false => rw [hk] at h; obtain rfl := h; simp only [↓eA, eB, reduceIte, Nat.reduceBEq, Int.reduceNeg, Int.reduceLT, Int.reduceLE, Int.reduceAdd, Int.reduceSub, Int.reduceMul, Int.reduceEq, Int.reduceToNat, Nat.reduceLT, Nat.reduceAdd, Nat.reduceMul, Nat.reduceSub])
theorem lp_sme3 (nz nz' : Bool) (l m : List Pt) (hl : (l.length : Int) = m.length) (hb : l.length < 4000000000) (e : Env) (h0 : Gs.get e 0 = .fz nz 2 (l.map Pt.enc)) (h1 : Gs.get e 1 = .fz nz' 2 (m.map Pt.enc)) (h5 : Gs.get e 13 = int 0) (hXT : Gs.get e 12 = int l.length) :
    Ends T 53004 e [] (fun X e' H' => H' = [] ∧ match (l.zip m).any (fun q => !ptEq q.1 q.2) with | true => X = .ret ∧ Gs.get e' 4 = .bool false | false => X = .ex 0) := by
  refine loop_any (T := T) (key := 53004) (li := l53004) rfl (l.zip m) (fun q => !ptEq q.1 q.2) [] (fun i e => Gs.get e 0 = .fz nz 2 (l.map Pt.enc) ∧ Gs.get e 1 = .fz nz' 2 (m.map Pt.enc) ∧ Gs.get e 13 = int i ∧ Gs.get e 12 = int l.length) (fun X e' => X = .ret ∧ Gs.get e' 4 = .bool false) (fun X e' => X = .ex 0) ?_ ?_ e ⟨h0, h1, h5, hXT⟩
  · rintro i q e hx hi ⟨h0, h1, h5, hXT⟩
    obtain ⟨hx1, hx2, hi1, hi2⟩ := zip_get hx
    have hx1' : (l.map Pt.enc)[i]? = some q.1.enc := by simp [hx1]
    have hx2' : (m.map Pt.enc)[i]? = some q.2.enc := by simp [hx2]
    simp only [↓eA, eB, reduceIte, Nat.reduceBEq, Int.reduceNeg, Int.reduceLT, Int.reduceLE, Int.reduceAdd, Int.reduceSub, Int.reduceMul, Int.reduceEq, Int.reduceToNat, Nat.reduceLT, Nat.reduceAdd, Nat.reduceMul, Nat.reduceSub, l53004, h0, h1, h5, hi1, hi2, hx1', hx2', hXT, wrap_succ (show i < 4611686018427387904 by omega)]
    cases hc : ptEq q.1 q.2 <;> simp only [ptEq] at hc <;> simp only [↓eA, eB, reduceIte, Nat.reduceBEq, Int.reduceNeg, Int.reduceLT, Int.reduceLE, Int.reduceAdd, Int.reduceSub, Int.reduceMul, Int.reduceEq, Int.reduceToNat, Nat.reduceLT, Nat.reduceAdd, Nat.reduceMul, Nat.reduceSub, hc, Bool.and_true] <;> and_intros <;> first | trivial | rfl
  · rintro e ⟨h0, h1, h5, hXT⟩
    rw [zip_len hl] at h5
    simp only [↓eA, eB, reduceIte, Nat.reduceBEq, Int.reduceNeg, Int.reduceLT, Int.reduceLE, Int.reduceAdd, Int.reduceSub, Int.reduceMul, Int.reduceEq, Int.reduceToNat, Nat.reduceLT, Nat.reduceAdd, Nat.reduceMul, Nat.reduceSub, l53004, h0, h1, h5, hXT, Nat.lt_irrefl]
    and_intros <;> first | trivial | rfl
theorem e_sme3 (nz nz' : Bool) (l m : List Pt) (hb : l.length < 4000000000) (hb' : m.length < 4000000000) : L.call 53 [.fz nz 2 (l.map Pt.enc), .fz nz' 2 (m.map Pt.enc)] [] = some (.bool (eqL ptEq l m), []) :=
  call_eq rfl rfl (by
    cases hc : decide ((l.length : Int) = m.length) with
    | false => rw [eqL_ne hc]; simp only [↓eA, eB, reduceIte, Nat.reduceBEq, Int.reduceNeg, Int.reduceLT, Int.reduceLE, Int.reduceAdd, Int.reduceSub, Int.reduceMul, Int.reduceEq, Int.reduceToNat, Nat.reduceLT, Nat.reduceAdd, Nat.reduceMul, Nat.reduceSub, c53, hc]
    | true =>
    rw [eqL_eq hc]
    simp only [↓eA, eB, reduceIte, Nat.reduceBEq, Int.reduceNeg, Int.reduceLT, Int.reduceLE, Int.reduceAdd, Int.reduceSub, Int.reduceMul, Int.reduceEq, Int.reduceToNat, Nat.reduceLT, Nat.reduceAdd, Nat.reduceMul, Nat.reduceSub, c53, hc]
    generalize hE : (lim T).loop 53004 _ _ = R
    obtain ⟨X, e', H', rfl, rfl, h⟩ := Ends.at hE (lp_sme3 nz nz' l m (of_decide_eq_true hc) hb _ (by simp only [↓eA, eB, reduceIte, Nat.reduceBEq, Int.reduceNeg, Int.reduceLT, Int.reduceLE, Int.reduceAdd, Int.reduceSub, Int.reduceMul, Int.reduceEq, Int.reduceToNat, Nat.reduceLT, Nat.reduceAdd, Nat.reduceMul, Nat.reduceSub]) (by simp only [↓eA, eB, reduceIte, Nat.reduceBEq, Int.reduceNeg, Int.reduceLT, Int.reduceLE, Int.reduceAdd, Int.reduceSub, Int.reduceMul, Int.reduceEq, Int.reduceToNat, Nat.reduceLT, Nat.reduceAdd, Nat.reduceMul, Nat.reduceSub]) (by simp only [↓eA, eB, reduceIte, Nat.reduceBEq, Int.reduceNeg, Int.reduceLT, Int.reduceLE, Int.reduceAdd, Int.reduceSub, Int.reduceMul, Int.reduceEq, Int.reduceToNat, Nat.reduceLT, Nat.reduceAdd, Nat.reduceMul, Nat.reduceSub]) (by first | trivial | simp only [↓eA, eB, reduceIte, Nat.reduceBEq, Int.reduceNeg, Int.reduceLT, Int.reduceLE, Int.reduceAdd, Int.reduceSub, Int.reduceMul, Int.reduceEq, Int.reduceToNat, Nat.reduceLT, Nat.reduceAdd, Nat.reduceMul, Nat.reduceSub]))
    cases hk : (l.zip m).any (fun q => !ptEq q.1 q.2) with
    | true => rw [hk] at h; obtain ⟨rfl, g2⟩ := h; simp only [↓eA, eB, reduceIte, Nat.reduceBEq, Int.reduceNeg, Int.reduceLT, Int.reduceLE, Int.reduceAdd, Int.reduceSub, Int.reduceMul, Int.reduceEq, Int.reduceToNat, Nat.reduceLT, Nat.reduceAdd, Nat.reduceMul, Nat.reduceSub, g2]
    | false => rw [hk] at h; obtain rfl := h; simp only [↓eA, eB, reduceIte, Nat.reduceBEq, Int.reduceNeg, Int.reduceLT, Int.reduceLE, Int.reduceAdd, Int.reduceSub, Int.reduceMul, Int.reduceEq, Int.reduceToNat, Nat.reduceLT, Nat.reduceAdd, Nat.reduceMul, Nat.reduceSub])
end Tz
