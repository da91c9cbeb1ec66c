/- Interval ends, second part; no conditions. -/
import Derived.Test.YtbdcbppmgbekoaaGreatS20
set_option linter.unusedVariables false
set_option linter.unusedSimpArgs false
set_option linter.unusedSectionVars false
set_option linter.defProp false
set_option linter.deprecated false
open Gs Go
namespace Tz
theorem addL_len (l : List Int) (x : Int) : (addL l x).length ≤ l.length + 1 := by
  have := tw_le l x
  unfold addL
  split
  · omega
  · simp; omega
theorem addL_mem {l : List Int} {x y : Int} (h : y ∈ addL l x) : y ∈ l ∨ y = x := by
  unfold addL at h
  split at h
  · exact .inl h
  · simp only [List.mem_append, List.mem_singleton] at h
    rcases h with (h | h) | h
    · exact .inl (List.mem_of_mem_take h)
    · exact .inr h
    · exact .inl (List.mem_of_mem_drop h)
def estep (acc : List Int) (x : Int × Int) : List Int := addL (addL acc x.1) (x.2 + 1)
def endsL (l : List (Int × Int)) : List Int := l.foldl estep []
theorem lp_en (nz : Bool) (l : List (Int × Int)) (hb : l.length < 1000000000) (hin : ∀ p ∈ l, inB p) (e : Env) (H : Heap) (h0 : Gs.get e 0 = .fz nz 2 (l.map ivD)) (h3 : Gs.get e 3 = .fz false 1 []) (h4 : Gs.get e 4 = int 0) :
    Ends T 103003 e H (fun X e' H' => X = .ex 0 ∧ ∃ z, Gs.get e' 3 = .fz z 1 (ints (endsL l))) := by
  refine loop_fold (T := T) (key := 103003) (li := l103003) rfl l estep (fun i a e H => a.length ≤ 2 * i ∧ (∃ z, Gs.get e 3 = .fz z 1 (ints a)) ∧ Gs.get e 0 = .fz nz 2 (l.map ivD) ∧ Gs.get e 4 = int i) (fun a X e' H' => X = .ex 0 ∧ ∃ z, Gs.get e' 3 = .fz z 1 (ints a)) ?_ ?_ [] e H ⟨Nat.le_refl _, ⟨false, h3⟩, h0, h4⟩
  · rintro i x a e H hx hi ⟨hal, ⟨z, h3⟩, h0, h4⟩
    have hx' : (l.map ivD)[i]? = some (.agg [int x.1, int x.2]) := by simp [hx, ivD]
    have hxin := hin x (List.mem_of_getElem? hx)
    obtain ⟨hp1, hp2, hp3, hp4⟩ := hxin
    have hw : IntKind.i64.wrap (x.2 + 1) = x.2 + 1 := wrap_in (by omega) (by omega)
    have hl1 := addL_len a x.1
    have hl2 := addL_len (addL a x.1) (x.2 + 1)
    obtain ⟨z1, ha1⟩ := e_add z a x.1 (by omega)
    obtain ⟨z2, ha2⟩ := e_add z1 (addL a x.1) (x.2 + 1) (by omega)
    simp only [↓eA, eB, reduceIte, Nat.reduceBEq, Int.reduceNeg, Int.reduceLT, Int.reduceLE, Int.reduceAdd, Int.reduceSub, Int.reduceMul, Int.reduceEq, Int.reduceToNat, Nat.reduceLT, Nat.reduceAdd, Nat.reduceMul, Nat.reduceSub, l103003, h0, h3, h4, hi, hx', hw, ha1, ha2, wrap_succ (show i < 4611686018427387904 by omega)]
    refine ⟨trivial, ?_, ⟨z2, rfl⟩, ?_⟩
    · unfold estep; omega
    · and_intros <;> first | trivial | rfl
  · rintro a e H ⟨hal, ⟨z, h3⟩, h0, h4⟩
    simp only [↓eA, eB, reduceIte, Nat.reduceBEq, Int.reduceNeg, Int.reduceLT, Int.reduceLE, Int.reduceAdd, Int.reduceSub, Int.reduceMul, Int.reduceEq, Int.reduceToNat, Nat.reduceLT, Nat.reduceAdd, Nat.reduceMul, Nat.reduceSub, l103003, h0, h3, h4, Nat.lt_irrefl]
    exact ⟨trivial, trivial, z, rfl⟩
theorem e_rEnds (nz : Bool) (l : List (Int × Int)) (hb : l.length < 1000000000) (hin : ∀ p ∈ l, inB p) : ∃ z, L.call 103 [.fz nz 2 (l.map ivD)] [] = some (.fz z 1 (ints (endsL l)), []) := by
  generalize hE : (lim T).loop 103003 [(0, .fz nz 2 (l.map ivD)), (2, .fz true 1 []), (5, .fz false 1 []), (3, .fz false 1 []), (4, .int .i64 0)] [] = R
  obtain ⟨X, e', H', rfl, rfl, z, g3⟩ := Ends.at hE (lp_en nz l hb hin _ _ rfl rfl rfl)
  refine ⟨z, call_eq rfl rfl ?_⟩
  simp only [↓eA, eB, reduceIte, Nat.reduceBEq, Int.reduceNeg, Int.reduceLT, Int.reduceLE, Int.reduceAdd, Int.reduceSub, Int.reduceMul, Int.reduceEq, Int.reduceToNat, Nat.reduceLT, Nat.reduceAdd, Nat.reduceMul, Nat.reduceSub, c103, hE, g3]
def hasIv (n : Int) (x : Int × Int) : Bool := decide (x.1 ≤ n) && decide (n ≤ x.2)
theorem e_rContains (x : Int × Int) (n : Int) : L.call 135 [.agg [int x.1, int x.2], int n] [] = some (.bool (hasIv n x), []) :=
  call_eq rfl rfl (by simp only [↓eA, eB, reduceIte, Nat.reduceBEq, Int.reduceNeg, Int.reduceLT, Int.reduceLE, Int.reduceAdd, Int.reduceSub, Int.reduceMul, Int.reduceEq, Int.reduceToNat, Nat.reduceLT, Nat.reduceAdd, Nat.reduceMul, Nat.reduceSub, c135]; rfl)
theorem lp_ri (nz : Bool) (l : List (Int × Int)) (n : Int) (hb : l.length < 4000000000) (e : Env) (H : Heap) (h0 : Gs.get e 0 = .fz nz 2 (l.map ivD)) (h1 : Gs.get e 1 = int n) (h3 : Gs.get e 5 = int 0) :
    Ends T 104002 e H (fun X e' H' => match l.any (hasIv n) with | true => X = .ret ∧ Gs.get e' 4 = .bool true | false => X = .ex 0) := by
  refine loop_anyH (T := T) (key := 104002) (li := l104002) rfl l (hasIv n) (fun i e H => Gs.get e 0 = .fz nz 2 (l.map ivD) ∧ Gs.get e 1 = int n ∧ Gs.get e 5 = int i) (fun X e' H' => X = .ret ∧ Gs.get e' 4 = .bool true) (fun X e' H' => X = .ex 0) ?_ ?_ e H ⟨h0, h1, h3⟩
  · rintro i x e H hx hi ⟨h0, h1, h3⟩
    have hx' : (l.map ivD)[i]? = some (.agg [int x.1, int x.2]) := by simp [hx, ivD]
    simp only [↓eA, eB, reduceIte, Nat.reduceBEq, Int.reduceNeg, Int.reduceLT, Int.reduceLE, Int.reduceAdd, Int.reduceSub, Int.reduceMul, Int.reduceEq, Int.reduceToNat, Nat.reduceLT, Nat.reduceAdd, Nat.reduceMul, Nat.reduceSub, l104002, h0, h1, h3, hi, hx', e_rContains, wrap_succ (show i < 4611686018427387904 by omega)]
    cases hc : hasIv n x <;> simp only [↓eA, eB, reduceIte, Nat.reduceBEq, Int.reduceNeg, Int.reduceLT, Int.reduceLE, Int.reduceAdd, Int.reduceSub, Int.reduceMul, Int.reduceEq, Int.reduceToNat, Nat.reduceLT, Nat.reduceAdd, Nat.reduceMul, Nat.reduceSub, hc] <;> and_intros <;> first | trivial | rfl
  · rintro e H ⟨h0, h1, h3⟩
    simp only [↓eA, eB, reduceIte, Nat.reduceBEq, Int.reduceNeg, Int.reduceLT, Int.reduceLE, Int.reduceAdd, Int.reduceSub, Int.reduceMul, Int.reduceEq, Int.reduceToNat, Nat.reduceLT, Nat.reduceAdd, Nat.reduceMul, Nat.reduceSub, l104002, h0, h1, h3, Nat.lt_irrefl]
    and_intros <;> first | trivial | rfl
theorem e_rIn (nz : Bool) (l : List (Int × Int)) (n : Int) (hb : l.length < 4000000000) : L.call 104 [.fz nz 2 (l.map ivD), int n] [] = some (.bool (l.any (hasIv n)), []) :=
  call_eq rfl rfl (by
    simp only [↓eA, eB, reduceIte, Nat.reduceBEq, Int.reduceNeg, Int.reduceLT, Int.reduceLE, Int.reduceAdd, Int.reduceSub, Int.reduceMul, Int.reduceEq, Int.reduceToNat, Nat.reduceLT, Nat.reduceAdd, Nat.reduceMul, Nat.reduceSub, c104]
    generalize hE : (lim T).loop 104002 _ _ = R
    obtain ⟨X, e', H', rfl, hP⟩ := Ends.at hE (lp_ri nz l n hb _ _ rfl rfl rfl)
    cases hc : l.any (hasIv n) with
    | true => rw [hc] at hP; obtain ⟨rfl, g⟩ := hP; simp only [↓eA, eB, reduceIte, Nat.reduceBEq, Int.reduceNeg, Int.reduceLT, Int.reduceLE, Int.reduceAdd, Int.reduceSub, Int.reduceMul, Int.reduceEq, Int.reduceToNat, Nat.reduceLT, Nat.reduceAdd, Nat.reduceMul, Nat.reduceSub, g]
    | false => rw [hc] at hP; subst hP; simp only [↓eA, eB, reduceIte, Nat.reduceBEq, Int.reduceNeg, Int.reduceLT, Int.reduceLE, Int.reduceAdd, Int.reduceSub, Int.reduceMul, Int.reduceEq, Int.reduceToNat, Nat.reduceLT, Nat.reduceAdd, Nat.reduceMul, Nat.reduceSub])
/-! form. -/
def skipO (op : Int) (A B : Bool) : Bool := ((decide (op = 1) && !A && !B) || (decide (op = 2) && (!A || B))) || (decide (op = 3) && (!A || !B))
def at0 (es : List Int) (i : Nat) : Int := es[i]?.getD 0
def fput (acc : List (Int × Int)) (lo nx : Int) : List (Int × Int) := match acc.getLast? with
  | none => acc ++ [(lo, nx - 1)]
  | some q => bif decide (q.2 + 1 = lo) then acc.dropLast ++ [(q.1, nx - 1)] else acc ++ [(lo, nx - 1)]
def fstep (op : Int) (a b : List (Int × Int)) (es : List Int) (acc : List (Int × Int)) (i : Nat) : List (Int × Int) :=
  bif skipO op (a.any (hasIv (at0 es i))) (b.any (hasIv (at0 es i))) then acc else fput acc (at0 es i) (at0 es (i + 1))
theorem at0_get {es : List Int} {i : Nat} (h : i < es.length) : (ints es)[i]? = some (int (at0 es i)) := by
  have : es[i]? = some es[i] := List.getElem?_eq_getElem h
  simp [at0, ints, this]
theorem at0_mem {es : List Int} {i : Nat} (h : i < es.length) : at0 es i ∈ es := by
  have : es[i]? = some es[i] := List.getElem?_eq_getElem h
  simp [at0, this]
def hiB (q : Int × Int) : Prop := -1000000000001 ≤ q.2 ∧ q.2 ≤ 1000000000000
theorem fput_in {acc : List (Int × Int)} {lo nx : Int} (h : ∀ q ∈ acc, hiB q) (h1 : -1000000000000 ≤ nx) (h2 : nx ≤ 1000000000001) : ∀ q ∈ fput acc lo nx, hiB q := by
  have hn : ∀ a : Int, hiB (a, nx - 1) := fun a => by unfold hiB; simp only; omega
  unfold fput
  cases hl : acc.getLast? with
  | none => intro q hq; simp at hq; rcases hq with hq | rfl; exact h q hq; exact hn _
  | some p =>
    simp only
    cases decide (p.2 + 1 = lo) with
    | true =>
      intro q hq
      simp only [cond_true, List.mem_append, List.mem_singleton] at hq
      rcases hq with hq | rfl
      · exact h q (List.dropLast_subset acc hq)
      · exact hn _
    | false => intro q hq; simp at hq; rcases hq with hq | rfl; exact h q hq; exact hn _
theorem fput_len (acc : List (Int × Int)) (lo nx : Int) : (fput acc lo nx).length ≤ acc.length + 1 := by
  unfold fput
  cases acc.getLast? with
  | none => simp
  | some q =>
    simp only
    cases decide (q.2 + 1 = lo)
    · simp
    · simp
abbrev goF (op : Int) (a b : List (Int × Int)) (es : List Int) (acc : List (Int × Int)) (n : Nat) : List (Int × Int) := n.fold (fun i _ acc => fstep op a b es acc i) acc
end Tz
