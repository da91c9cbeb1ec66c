/- Neighbours struck; no conditions. -/
import Derived.Test.YthndcpffehneaaaGreatS9
import Derived.Test.YthndcpffehneaaaGreatGsF
set_option linter.unusedVariables false
set_option linter.unusedSimpArgs false
set_option linter.unusedSectionVars false
set_option linter.defProp false
set_option linter.deprecated false
set_option maxRecDepth 100000
open Gs Go
namespace Tz

theorem getm {zs : List ByteArray} {i : Nat} {x : ByteArray} (h : zs[i]? = some x) : (zs.map D.str)[i]? = some (D.str x) := by simp [h]
theorem lp_ci_s (xs : List ByteArray) (hb : xs.length < 4000000000) (nz dy : Bool) (K0 : Nat) (hK : 0 < K0) (hKn : K0 < xs.length) (hdd : dd seq (xs.take (K0 + 1)) = xs.take K0) (e : Env) (H : Heap) (h0 : Gs.get e 0 = .ow 500000) (h3 : Gs.get e 3 = int K0) (h4 : Gs.get e 4 = .win 500000 K0 (xs.length - K0)) (h5 : Gs.get e 5 = int 1) (hH : hget H 500000 = some (.row nz 1 (xs.map D.str) 0 dy)) (hH1 : hget H 500001 = none) :
    Ends T 192009 e H (fun X e' H' => X = .ex 2 ∧ ∃ (k : Nat) (zs : List ByteArray), Gs.get e' 0 = .ow 500000 ∧ Gs.get e' 3 = int k ∧ zs.length = xs.length ∧ k ≤ xs.length ∧ zs.take k = dd seq xs ∧ H' = [(500000, .row nz 1 (zs.map D.str) 0 dy)]) := by
  refine (loop_upto (T := T) (key := 192009) (li := l192009) rfl (S := Unit) (R := Empty) (fun _ _ => .inr ()) (xs.length - K0) (fun i _ e H => 1 ≤ i ∧ i ≤ xs.length - K0 ∧ ∃ (k : Nat) (zs : List ByteArray), Gs.get e 0 = .ow 500000 ∧ Gs.get e 3 = int k ∧ Gs.get e 4 = .win 500000 K0 (xs.length - K0) ∧ Gs.get e 5 = int i ∧ hget H 500000 = some (.row nz 1 (zs.map D.str) 0 dy) ∧ hget H 500001 = none ∧ zs.length = xs.length ∧ k + 1 ≤ K0 + i ∧ zs.take k = dd seq (xs.take (K0 + i)) ∧ ∀ j, K0 + i ≤ j + 1 → zs[j]? = xs[j]?) (fun _ _ _ _ => False) (fun _ X e' H' => X = .ex 2 ∧ ∃ (k : Nat) (zs : List ByteArray), Gs.get e' 0 = .ow 500000 ∧ Gs.get e' 3 = int k ∧ zs.length = xs.length ∧ k ≤ xs.length ∧ zs.take k = dd seq xs ∧ H' = [(500000, .row nz 1 (zs.map D.str) 0 dy)]) ?_ ?_ ?_ (xs.length - K0 - 1) 1 () e H rfl ⟨Nat.le_refl _, by omega, K0, xs, h0, h3, h4, h5, hH, hH1, rfl, by omega, by rw [hdd], fun j _ => rfl⟩).mono ?_
  · rintro i s s' e H hi ⟨hi1, hi2, k, zs, h0, h3, h4, h5, hH, hH1, hz, hk, ht, hj⟩ hf
    obtain ⟨y, hy⟩ : ∃ y, xs[K0 + i]? = some y := ⟨_, List.getElem?_eq_getElem (by omega)⟩
    obtain ⟨p, hp⟩ : ∃ p, xs[K0 + i - 1]? = some p := ⟨_, List.getElem?_eq_getElem (by omega)⟩
    have hzy : zs[K0 + i]? = some y := by rw [hj _ (by omega)]; exact hy
    have hzp : zs[K0 + (i - 1)]? = some p := by rw [hj _ (by omega), show K0 + (i - 1) = K0 + i - 1 by omega]; exact hp
    have hsucc : dd seq (xs.take (K0 + (i + 1))) = dd seq (xs.take (K0 + i)) ++ (bif seq y p then [] else [y]) := by
      obtain ⟨m, hm⟩ : ∃ m, K0 + i = m + 1 := ⟨K0 + i - 1, by omega⟩
      rw [show K0 + (i + 1) = m + 2 by omega, hm]
      exact dd_take_succ seq (by rw [← hm]; exact hy) (by rw [show m = K0 + i - 1 by omega]; exact hp)
    have hil : i - 1 < xs.length - K0 := by omega
    obtain ⟨z, hzk⟩ : ∃ z, zs[k]? = some z := ⟨_, List.getElem?_eq_getElem (by omega)⟩
    have hkl : k < zs.length := by omega
    cases hc : seq y p with
    | true =>
      simp only [↓eA, eB, reduceIte, Nat.reduceBEq, Int.reduceNeg, Int.reduceLT, Int.reduceLE, Int.reduceAdd, Int.reduceSub, Int.reduceMul, Int.reduceEq, Int.reduceToNat, Nat.reduceLT, Nat.reduceAdd, Nat.reduceMul, Nat.reduceSub, l192009, h0, h3, h4, h5, hH, hH1, hi, hil, getm hzy, getm hzp, wrap_pred (show 0 < i by omega) (show i < 4611686018427387904 by omega), hc, wrap_succ (show i < 4611686018427387904 by omega)]
      have hb1 : zs.take k = dd seq (xs.take (K0 + (i + 1))) := by rw [hsucc, hc, ht]; simp
      refine ⟨trivial, by omega, by omega, k, zs, ?_⟩
      and_intros <;> first | trivial | rfl | assumption | omega | exact fun j hj' => hj j (by omega)
    | false =>
      simp only [↓eA, eB, reduceIte, Nat.reduceBEq, Int.reduceNeg, Int.reduceLT, Int.reduceLE, Int.reduceAdd, Int.reduceSub, Int.reduceMul, Int.reduceEq, Int.reduceToNat, Nat.reduceLT, Nat.reduceAdd, Nat.reduceMul, Nat.reduceSub, l192009, h0, h3, h4, h5, hH, hH1, hi, hil, getm hzy, getm hzp, getm hzk, hkl, wrap_pred (show 0 < i by omega) (show i < 4611686018427387904 by omega), hc, wrap_succ (show i < 4611686018427387904 by omega), wrap_succ (show k < 4611686018427387904 by omega), Nat.zero_le, beq_self_eq_true]
      have hb1 : (zs.set k y).take (k + 1) = dd seq (xs.take (K0 + (i + 1))) := by
        rw [hsucc, hc, ← ht]
        simp only [cond_false]
        rw [List.take_add_one, List.getElem?_set_self hkl, List.take_set_of_le (Nat.le_refl k)]
        rfl
      have hb2 : (zs.set k y).length = xs.length := by simpa using hz
      have hb3 : ∀ j, K0 + (i + 1) ≤ j + 1 → (zs.set k y)[j]? = xs[j]? := by
        intro j hj'; rw [List.getElem?_set_ne (by omega)]; exact hj j (by omega)
      refine ⟨trivial, by omega, by omega, k + 1, zs.set k y, ?_⟩
      and_intros <;> first | trivial | rfl | assumption | omega | (simp [List.map_set]; done)
  · rintro i s r e H hi _ hf; cases hf
  · rintro i s e H hi ⟨hi1, hi2, k, zs, h0, h3, h4, h5, hH, hH1, hz, hk, ht, hj⟩
    have hie : i = xs.length - K0 := by omega
    subst hie
    simp only [↓eA, eB, reduceIte, Nat.reduceBEq, Int.reduceNeg, Int.reduceLT, Int.reduceLE, Int.reduceAdd, Int.reduceSub, Int.reduceMul, Int.reduceEq, Int.reduceToNat, Nat.reduceLT, Nat.reduceAdd, Nat.reduceMul, Nat.reduceSub, l192009, h0, h3, h4, h5, hH, hH1, Nat.lt_irrefl]
    have hb1 : zs.take k = dd seq xs := by rw [ht, List.take_of_length_le (by omega)]
    refine ⟨trivial, trivial, k, zs, ?_⟩
    and_intros <;> first | trivial | rfl | assumption | omega
  · intro X e' H' h
    have : ∀ (n i : Nat), upto (S := Unit) (R := Empty) (fun _ _ => .inr ()) n i () = .inr () := by
      intro n
      induction n with
      | zero => intro i; rfl
      | succ n ih => intro i; simp only [upto]; exact ih (i + 1)
    rw [this] at h; exact h
abbrev adj_xs (xs : List ByteArray) (i : Nat) : Bool := match xs[i]?, xs[i - 1]? with | some y, some p => seq y p | _, _ => false
theorem dd_stop (xs : List ByteArray) (k : Nat) (hk : k ≤ xs.length) (h : ∀ i, 1 ≤ i → i < k → adj_xs xs i = false) : dd seq (xs.take k) = xs.take k := by
  induction k with
  | zero => rfl
  | succ k ih =>
    cases k with
    | zero => cases xs with
      | nil => rfl
      | cons x r => simp [dd, ddF]
    | succ k =>
      obtain ⟨y, hy⟩ : ∃ y, xs[k + 1]? = some y := ⟨_, List.getElem?_eq_getElem (by omega)⟩
      obtain ⟨p, hp⟩ : ∃ p, xs[k]? = some p := ⟨_, List.getElem?_eq_getElem (by omega)⟩
      have h1 := h (k + 1) (by omega) (by omega)
      have hkk : xs[k + 1 - 1]? = some p := hp
      simp only [adj_xs, hy, hkk] at h1
      rw [dd_take_succ seq hy hp, h1, ih (by omega) fun i h1 h2 => h i h1 (by omega)]
      rw [List.take_add_one (i := k + 1), hy]; rfl
theorem lp_co_s (xs : List ByteArray) (hb : xs.length < 4000000000) (nz dy : Bool) (h2 : 1 < xs.length) (e : Env) (H : Heap) (h0 : Gs.get e 0 = .ow 500000) (h3 : Gs.get e 3 = int (1 : Nat)) (hH : hget H 500000 = some (.row nz 1 (xs.map D.str) 0 dy)) (hH1 : hget H 500001 = none) :
    Ends T 192004 e H (fun X e' H' => (X = .ex 0 ∧ Gs.get e' 0 = .ow 500000 ∧ dd seq xs = xs ∧ H' = [(500000, .row nz 1 (xs.map D.str) 0 dy)]) ∨ (X = .ret ∧ ∃ (k : Nat) (zq : List ByteArray), k = (dd seq xs).length ∧ k ≤ xs.length ∧ zq.length = xs.length ∧ zq.take k = dd seq xs ∧ Gs.get e' 2 = .win 500000 0 k ∧ H' = [(500000, .row nz 1 (zq.map D.str) 0 dy)])) := by
  refine (loop_upto (T := T) (key := 192004) (li := l192004) rfl (S := Unit) (R := Unit) (fun _ k => bif adj_xs xs k then .inl () else .inr ()) (xs.length) (fun i _ e H => 1 ≤ i ∧ i ≤ xs.length ∧ Gs.get e 0 = .ow 500000 ∧ Gs.get e 3 = int i ∧ hget H 500000 = some (.row nz 1 (xs.map D.str) 0 dy) ∧ hget H 500001 = none ∧ dd seq (xs.take i) = xs.take i) (fun _ X e' H' => X = .ret ∧ ∃ (k : Nat) (zq : List ByteArray), k = (dd seq xs).length ∧ k ≤ xs.length ∧ zq.length = xs.length ∧ zq.take k = dd seq xs ∧ Gs.get e' 2 = .win 500000 0 k ∧ H' = [(500000, .row nz 1 (zq.map D.str) 0 dy)]) (fun _ X e' H' => X = .ex 0 ∧ Gs.get e' 0 = .ow 500000 ∧ dd seq xs = xs ∧ H' = [(500000, .row nz 1 (xs.map D.str) 0 dy)]) ?_ ?_ ?_ (xs.length - 1) 1 () e H (by omega) ⟨Nat.le_refl _, by omega, h0, h3, hH, hH1, dd_stop xs 1 (by omega) (fun i h1 h2 => by omega)⟩).mono ?_
  · rintro i s s' e H hi ⟨hi1, hi2, h0, h3, hH, hH1, hd⟩ hf
    obtain ⟨y, hy⟩ : ∃ y, xs[i]? = some y := ⟨_, List.getElem?_eq_getElem (by omega)⟩
    obtain ⟨p, hp⟩ : ∃ p, xs[i - 1]? = some p := ⟨_, List.getElem?_eq_getElem (by omega)⟩
    simp only [adj_xs, hy, hp] at hf
    cases hc : seq y p with
    | true => rw [hc] at hf; simp only [cond_true] at hf; cases hf
    | false =>
      have hil : i - 1 < xs.length := by omega
      simp only [↓eA, eB, reduceIte, Nat.reduceBEq, Int.reduceNeg, Int.reduceLT, Int.reduceLE, Int.reduceAdd, Int.reduceSub, Int.reduceMul, Int.reduceEq, Int.reduceToNat, Nat.reduceLT, Nat.reduceAdd, Nat.reduceMul, Nat.reduceSub, l192004, h0, h3, hH, hH1, hi, hil, getm hy, getm hp, wrap_pred (show 0 < i by omega) (show i < 4611686018427387904 by omega), hc, wrap_succ (show i < 4611686018427387904 by omega)]
      have hb1 : dd seq (xs.take (i + 1)) = xs.take (i + 1) := by
        obtain ⟨m, hm⟩ : ∃ m, i = m + 1 := ⟨i - 1, by omega⟩
        subst hm
        rw [dd_take_succ seq hy hp, hc, hd, List.take_add_one (i := m + 1), hy]; rfl
      and_intros <;> first | trivial | rfl | assumption | omega
  · rintro i s r e H hi ⟨hi1, hi2, h0, h3, hH, hH1, hd⟩ hf
    obtain ⟨y, hy⟩ : ∃ y, xs[i]? = some y := ⟨_, List.getElem?_eq_getElem (by omega)⟩
    obtain ⟨p, hp⟩ : ∃ p, xs[i - 1]? = some p := ⟨_, List.getElem?_eq_getElem (by omega)⟩
    simp only [adj_xs, hy, hp] at hf
    cases hc : seq y p with
    | false => rw [hc] at hf; simp only [cond_false] at hf; cases hf
    | true =>
      have hb1 : dd seq (xs.take (i + 1)) = xs.take i := by
        obtain ⟨m, hm⟩ : ∃ m, i = m + 1 := ⟨i - 1, by omega⟩
        subst hm
        rw [dd_take_succ seq hy hp, hc, hd]; simp
      have hii : i ≤ xs.length := by omega
      have hil : i - 1 < xs.length := by omega
      simp only [↓eA, eB, reduceIte, Nat.reduceBEq, Int.reduceNeg, Int.reduceLT, Int.reduceLE, Int.reduceAdd, Int.reduceSub, Int.reduceMul, Int.reduceEq, Int.reduceToNat, Nat.reduceLT, Nat.reduceAdd, Nat.reduceMul, Nat.reduceSub, l192004, h0, h3, hH, hH1, hi, hii, hil, getm hy, getm hp, wrap_pred (show 0 < i by omega) (show i < 4611686018427387904 by omega), hc, wrap_succ (show i < 4611686018427387904 by omega), Nat.le_refl]
      generalize hE : (lim T).loop 192009 _ _ = R
      obtain ⟨X, e', H', rfl, rfl, k, zs, g0, g3, hz, hk, hzt, rfl⟩ := Ends.at hE (lp_ci_s xs hb nz dy i (by omega) hi hb1 _ _ (by simp only [↓eA, eB, reduceIte, Nat.reduceBEq, Int.reduceNeg, Int.reduceLT, Int.reduceLE, Int.reduceAdd, Int.reduceSub, Int.reduceMul, Int.reduceEq, Int.reduceToNat, Nat.reduceLT, Nat.reduceAdd, Nat.reduceMul, Nat.reduceSub, h0]) (by simp only [↓eA, eB, reduceIte, Nat.reduceBEq, Int.reduceNeg, Int.reduceLT, Int.reduceLE, Int.reduceAdd, Int.reduceSub, Int.reduceMul, Int.reduceEq, Int.reduceToNat, Nat.reduceLT, Nat.reduceAdd, Nat.reduceMul, Nat.reduceSub, h3]) (by simp only [↓eA, eB, reduceIte, Nat.reduceBEq, Int.reduceNeg, Int.reduceLT, Int.reduceLE, Int.reduceAdd, Int.reduceSub, Int.reduceMul, Int.reduceEq, Int.reduceToNat, Nat.reduceLT, Nat.reduceAdd, Nat.reduceMul, Nat.reduceSub, hii]) (by simp only [↓eA, eB, reduceIte, Nat.reduceBEq, Int.reduceNeg, Int.reduceLT, Int.reduceLE, Int.reduceAdd, Int.reduceSub, Int.reduceMul, Int.reduceEq, Int.reduceToNat, Nat.reduceLT, Nat.reduceAdd, Nat.reduceMul, Nat.reduceSub]) (by simp only [↓eA, eB, reduceIte, Nat.reduceBEq, Int.reduceNeg, Int.reduceLT, Int.reduceLE, Int.reduceAdd, Int.reduceSub, Int.reduceMul, Int.reduceEq, Int.reduceToNat, Nat.reduceLT, Nat.reduceAdd, Nat.reduceMul, Nat.reduceSub]) (by simp only [↓eA, eB, reduceIte, Nat.reduceBEq, Int.reduceNeg, Int.reduceLT, Int.reduceLE, Int.reduceAdd, Int.reduceSub, Int.reduceMul, Int.reduceEq, Int.reduceToNat, Nat.reduceLT, Nat.reduceAdd, Nat.reduceMul, Nat.reduceSub, hH1]))
      have hkl : k ≤ zs.length := by omega
      have hkk : k + (zs.length - k) ≤ zs.length := by omega
      obtain ⟨zq, hq1, hq2, hq3⟩ : ∃ zq : List ByteArray, zq.length = zs.length ∧ zq.take k = dd seq xs ∧ List.take k (List.map D.str zs) ++ List.replicate (zs.length - k) (D.str .empty) ++ List.drop (k + (zs.length - k)) (List.map D.str zs) = zq.map D.str := by
        refine ⟨zs.take k ++ List.replicate (zs.length - k) .empty, by simp; omega, ?_, ?_⟩
        · rw [← hzt, List.take_append_of_le_length (by simp; omega), List.take_take, Nat.min_self]
        · rw [show k + (zs.length - k) = zs.length by omega]; simp [List.map_take]
      have hkq : k ≤ zq.length := by omega
      have hinc : inc 0 k = true := by simp [inc]
      simp only [↓eA, eB, reduceIte, Nat.reduceBEq, Int.reduceNeg, Int.reduceLT, Int.reduceLE, Int.reduceAdd, Int.reduceSub, Int.reduceMul, Int.reduceEq, Int.reduceToNat, Nat.reduceLT, Nat.reduceAdd, Nat.reduceMul, Nat.reduceSub, g0, g3, hkl, hkk, hq3, hkq, hinc, Nat.le_refl, Nat.zero_le, Nat.sub_zero, Nat.zero_add]
      refine ⟨trivial, trivial, k, zq, by rw [← hq2, List.length_take]; omega, by omega, by omega, hq2, ?_⟩
      and_intros <;> first | trivial | rfl | assumption | omega
  · rintro i s e H hi ⟨hi1, hi2, h0, h3, hH, hH1, hd⟩
    have hie : i = xs.length := by omega
    subst hie
    rw [List.take_length] at hd
    simp only [↓eA, eB, reduceIte, Nat.reduceBEq, Int.reduceNeg, Int.reduceLT, Int.reduceLE, Int.reduceAdd, Int.reduceSub, Int.reduceMul, Int.reduceEq, Int.reduceToNat, Nat.reduceLT, Nat.reduceAdd, Nat.reduceMul, Nat.reduceSub, l192004, h0, h3, hH, hH1, Nat.lt_irrefl]
    and_intros <;> first | trivial | rfl | assumption | omega
  · intro X e' H' h
    split at h
    · exact .inr h
    · exact .inl h
theorem lt2_b {n : Nat} (h : ¬n < 2) : decide ((n : Int) < 2) = false := by simp; omega
theorem lt2_a {n : Nat} (h : n < 2) : decide ((n : Int) < 2) = true := by simp; omega
theorem e_compact_s (xs : List ByteArray) (hb : xs.length < 4000000000) (nz dy : Bool) :
    (dd seq xs = xs ∧ L.call 192 [.ow 500000] [(500000, .row nz 1 (xs.map D.str) 0 dy)] = some (.ow 500000, [(500000, .row nz 1 (xs.map D.str) 0 dy)])) ∨
    ∃ zq : List ByteArray, zq.length = xs.length ∧ zq.take (dd seq xs).length = dd seq xs ∧ (dd seq xs).length ≤ xs.length ∧ L.call 192 [.ow 500000] [(500000, .row nz 1 (xs.map D.str) 0 dy)] = some (.win 500000 0 (dd seq xs).length, [(500000, .row nz 1 (zq.map D.str) 0 dy)]) := by
  by_cases hl : xs.length < 2
  · refine .inl ⟨?_, call_eq rfl rfl ?_⟩
    · match xs, hl with
      | [], _ => rfl
      | [x], _ => rfl
    · simp only [↓eA, eB, reduceIte, Nat.reduceBEq, Int.reduceNeg, Int.reduceLT, Int.reduceLE, Int.reduceAdd, Int.reduceSub, Int.reduceMul, Int.reduceEq, Int.reduceToNat, Nat.reduceLT, Nat.reduceAdd, Nat.reduceMul, Nat.reduceSub, c192, lt2_a hl]
  · generalize hE : (lim T).loop 192004 [(0, D.ow 500000), (2, D.fz true 1 []), (6, D.ow 500000), (7, D.int IntKind.i64 xs.length), (8, D.bool false), (3, D.int IntKind.i64 1)] [(500000, .row nz 1 (xs.map D.str) 0 dy)] = R
    obtain ⟨X, e', H', rfl, h⟩ := Ends.at hE (lp_co_s xs hb nz dy (by omega) _ _ rfl rfl rfl rfl)
    rcases h with ⟨rfl, g0, hd, rfl⟩ | ⟨rfl, k, zq, rfl, hk, hq1, hq2, g2, rfl⟩
    · refine .inl ⟨hd, call_eq rfl rfl ?_⟩
      simp only [↓eA, eB, reduceIte, Nat.reduceBEq, Int.reduceNeg, Int.reduceLT, Int.reduceLE, Int.reduceAdd, Int.reduceSub, Int.reduceMul, Int.reduceEq, Int.reduceToNat, Nat.reduceLT, Nat.reduceAdd, Nat.reduceMul, Nat.reduceSub, c192, lt2_b hl, hE, g0]
    · refine .inr ⟨zq, hq1, hq2, hk, call_eq rfl rfl ?_⟩
      simp only [↓eA, eB, reduceIte, Nat.reduceBEq, Int.reduceNeg, Int.reduceLT, Int.reduceLE, Int.reduceAdd, Int.reduceSub, Int.reduceMul, Int.reduceEq, Int.reduceToNat, Nat.reduceLT, Nat.reduceAdd, Nat.reduceMul, Nat.reduceSub, c192, lt2_b hl, hE, g2]
end Tz
