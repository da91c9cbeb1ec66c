/- A line and itself; no conditions. -/
import Derived.Test.YtbdcbppmgbekoaaGreatDoorS32
set_option linter.unusedVariables false
set_option linter.unusedSimpArgs false
set_option linter.unusedSectionVars false
set_option linter.defProp false
set_option linter.deprecated false
open Gs Go
namespace Tz
/-! A line and itself. -/
abbrev ln4 (nz nz' : Bool) (tk : List Tk) (h : Bool) (kids : List D) (a : Int) : List D := [.fz nz 4 (tk.map Tk.enc), .bool h, .fz nz' 4 kids, int a]
def SameD (d : D) : Prop := ∃ a b c e, d = .agg [a, b, c, e] ∧ (renD [] a = a ∧ renD [] b = b ∧ renD [] c = c ∧ renD [] e = e) ∧ L.call 13 [d, d] [] = some (.bool true, [])
theorem tkEq_self (t : Tk) : tkEq t t = true := by simp [tkEq, seq]
theorem eqL_self' {α : Type} {p : α → α → Bool} (h : ∀ x, p x x = true) (l : List α) : eqL p l l = true := by
  unfold eqL
  simp only [decide_true, Bool.true_and, Bool.not_eq_true', List.any_eq_false]
  intro q hq
  have : q.1 = q.2 := by
    obtain ⟨i, hi⟩ := List.mem_iff_getElem?.1 hq
    obtain ⟨h1, h2, _⟩ := zip_get hi
    rw [h1] at h2; injection h2
  rw [this, h]; simp
theorem lp_same (cs : List D) (nz nz' : Bool) (tk : List Tk) (h : Bool) (kids : List D) (a : Int) (hcs : cs = ln4 nz nz' tk h kids a) (hb : kids.length < 4000000000) (hk : ∀ k ∈ kids, SameD k) (e : Env) (h2 : Gs.get e 2 = .ptr 2 0) (h3 : Gs.get e 3 = .ptr 3 0) (h5 : Gs.get e 5 = int 0) :
    Ends T 13004 e [(2, .box cs false), (3, .box cs false)] (fun X e' H' => X = .ex 0) := by
  subst hcs
  refine (loop_any (T := T) (key := 13004) (li := l13004) rfl kids (fun _ => false) [(2, .box (ln4 nz nz' tk h kids a) false), (3, .box (ln4 nz nz' tk h kids a) false)] (fun i e => Gs.get e 2 = .ptr 2 0 ∧ Gs.get e 3 = .ptr 3 0 ∧ Gs.get e 5 = int i) (fun X e' => False) (fun X e' => X = .ex 0) ?_ ?_ e ⟨h2, h3, h5⟩).mono ?_
  · rintro i k e hx hi ⟨h2, h3, h5⟩
    obtain ⟨a1, a2, a3, a4, rfl, ⟨r1, r2, r3, r4⟩, hcall⟩ := hk k (List.mem_of_getElem? hx)
    simp only [↓eA, eB, reduceIte, Nat.reduceBEq, Int.reduceNeg, Int.reduceLT, Int.reduceLE, Int.reduceAdd, Int.reduceSub, Int.reduceMul, Int.reduceEq, Int.reduceToNat, Nat.reduceLT, Nat.reduceAdd, Nat.reduceMul, Nat.reduceSub, l13004, h2, h3, h5, hi, hx, r1, r2, r3, r4, hcall, wrap_succ (show i < 4611686018427387904 by omega)]
    and_intros <;> first | trivial | rfl
  · rintro e ⟨h2, h3, h5⟩
    simp only [↓eA, eB, reduceIte, Nat.reduceBEq, Int.reduceNeg, Int.reduceLT, Int.reduceLE, Int.reduceAdd, Int.reduceSub, Int.reduceMul, Int.reduceEq, Int.reduceToNat, Nat.reduceLT, Nat.reduceAdd, Nat.reduceMul, Nat.reduceSub, l13004, h2, h3, h5, Nat.lt_irrefl]
    and_intros <;> first | trivial | rfl
  · rintro X e' H' ⟨rfl, h⟩
    have : kids.any (fun _ => false) = false := by simp
    rw [this] at h; exact h
theorem e_sameD (nz nz' : Bool) (tk : List Tk) (h : Bool) (kids : List D) (a : Int) (ht : tk.length < 4000000000) (hb : kids.length < 4000000000) (hk : ∀ k ∈ kids, SameD k) : SameD (.agg (ln4 nz nz' tk h kids a)) :=
  ⟨_, _, _, _, rfl, ⟨rfl, rfl, rfl, rfl⟩, call_eq rfl rfl (by
    have h9 := e_sm9 nz nz tk tk ht ht
    rw [eqL_self' tkEq_self] at h9
    simp only [↓eA, eB, reduceIte, Nat.reduceBEq, Int.reduceNeg, Int.reduceLT, Int.reduceLE, Int.reduceAdd, Int.reduceSub, Int.reduceMul, Int.reduceEq, Int.reduceToNat, Nat.reduceLT, Nat.reduceAdd, Nat.reduceMul, Nat.reduceSub, c13, h9, beq_self_eq_true]
    generalize hE : (lim T).loop 13004 _ _ = R
    obtain ⟨X, e', H', rfl, rfl⟩ := Ends.at hE (lp_same _ nz nz' tk h kids a rfl hb hk _ rfl rfl rfl)
    simp only [↓eA, eB, reduceIte, Nat.reduceBEq, Int.reduceNeg, Int.reduceLT, Int.reduceLE, Int.reduceAdd, Int.reduceSub, Int.reduceMul, Int.reduceEq, Int.reduceToNat, Nat.reduceLT, Nat.reduceAdd, Nat.reduceMul, Nat.reduceSub])⟩
theorem same_leaf (t : List Tk) (ht : t.length < 4000000000) : SameD (leaf t) := e_sameD false true t false [] 0 ht (by simp) (by simp)
end Tz
