/- The reference: Sorted and Same; no conditions. -/
import Derived.Test.YthndcpffehneaaaGreatS65
set_option linter.unusedVariables false
set_option linter.unusedSimpArgs false
set_option linter.unusedSectionVars false
set_option linter.defProp false
set_option linter.deprecated false
set_option maxRecDepth 100000
open Gs Go
namespace Tz.C18
/-! gangsawref18: Sorted, Same. -/
/-- Into a list that falls. -/
def insRev : List ByteArray → ByteArray → List ByteArray
  | [], x => [x]
  | a :: p, x => bif slt x a then a :: insRev p x else x :: a :: p
theorem insRev_perm (x : ByteArray) : ∀ p, (insRev p x).Perm (x :: p)
  | [] => .refl _
  | a :: p => by
    simp only [insRev]
    cases slt x a with
    | true => exact ((insRev_perm x p).cons a).trans (List.Perm.swap x a p)
    | false => exact .refl _
def Falls : List ByteArray → Prop := List.Pairwise fun a b => slt a b = false
theorem insRev_falls {x : ByteArray} : ∀ {p}, Falls p → Falls (insRev p x)
  | [], _ => List.pairwise_singleton _ _
  | a :: p, h => by
    have ha := List.pairwise_cons.1 h
    simp only [insRev]
    cases hs : slt x a with
    | true =>
      refine List.pairwise_cons.2 ⟨fun z hz => ?_, insRev_falls ha.2⟩
      rcases List.mem_cons.1 ((insRev_perm x p).mem_iff.1 hz) with rfl | hz
      · exact slt_asymm hs
      · exact ha.1 z hz
    | false =>
      refine List.pairwise_cons.2 ⟨fun z hz => ?_, h⟩
      rcases List.mem_cons.1 hz with rfl | hz
      · exact hs
      · cases hxz : slt x z with
        | false => rfl
        | true =>
          cases hax : slt a x with
          | true => have := slt_trans hax hxz; rw [ha.1 z hz] at this; cases this
          | false => rw [← slt_total hax hs] at hxz; rw [ha.1 z hz] at hxz; cases hxz
theorem fold_ins : ∀ (l p : List ByteArray), Falls p → Falls (l.foldl insRev p) ∧ (l.foldl insRev p).Perm (l ++ p)
  | [], p, h => ⟨h, .refl _⟩
  | x :: r, p, h => by
    obtain ⟨h1, h2⟩ := fold_ins r (insRev p x) (insRev_falls h)
    refine ⟨h1, h2.trans ?_⟩
    exact ((insRev_perm x p).append_left r).trans List.perm_middle
theorem fold_sortB (l : List ByteArray) : (l.foldl insRev []).reverse = sortB l := by
  obtain ⟨h1, h2⟩ := fold_ins l [] List.Pairwise.nil
  rw [List.append_nil] at h2
  refine sortedB_unique ((List.reverse_perm _).trans (h2.trans (sortB_perm l).symm)) ?_ (sortB_sorted l)
  exact List.pairwise_reverse.2 h1
theorem swap_eq (a x : D) (suf : List D) : ∀ q : List D, ((q ++ a :: x :: suf).set (q.length + 1) a).set q.length x = q ++ x :: a :: suf
  | [] => rfl
  | c :: q => by
    have := swap_eq a x suf q
    simp only [List.cons_append, List.length_cons, List.set_cons_succ]
    rw [this]
abbrev sl (l : List ByteArray) : List D := l.map .str
theorem lp_ins (n : Nat) (hn : n < 1000000) (i : Int) : ∀ (p : List ByteArray) (x : ByteArray) (suf : List ByteArray) (e : Env) (H : Heap), (p.reverse ++ x :: suf).length = n → Gs.get e 3 = .ow 1006 → Gs.get e 4 = int i → Gs.get e 5 = int p.length → hget H 1003 = none → hget H 1006 = some (.row false 1 (sl (p.reverse ++ x :: suf)) 0 true) →
    Ends T 40006 e H (fun X e' H' => X = .ex 2 ∧ Gs.get e' 3 = .ow 1006 ∧ Gs.get e' 4 = int i ∧ H' = [(1006, .row false 1 (sl ((insRev p x).reverse ++ suf)) 0 true)])
  | [], x, suf, e, H, hlen, h3, h4, h5, hH3, hH6 => by
    refine round_ends (T := T) (key := 40006) (li := l40006) rfl ?_
    simp only [List.length_nil] at h5
    simp only [↓eA, eB, reduceIte, Nat.reduceBEq, Int.reduceNeg, Int.reduceLT, Int.reduceLE, Int.reduceAdd, Int.reduceSub, Int.reduceMul, Int.reduceEq, Int.reduceToNat, Nat.reduceLT, Nat.reduceAdd, Nat.reduceMul, Nat.reduceSub, l40006, h3, h4, h5, hH3, hH6]
    exact ⟨trivial, trivial, trivial, trivial, rfl⟩
  | a :: p, x, suf, e, H, hlen, h3, h4, h5, hH3, hH6 => by
    have hM : sl ((a :: p).reverse ++ x :: suf) = sl p.reverse ++ .str a :: .str x :: sl suf := by simp [sl]
    have hq : (sl p.reverse).length = p.length := by simp [sl]
    have hw := swap_eq (.str a) (.str x) (sl suf) (sl p.reverse)
    rw [hq] at hw
    have g1 : (sl p.reverse ++ .str a :: .str x :: sl suf)[p.length + 1]? = some (.str x) := by
      rw [← hq]; simp [List.getElem?_append_right]
    have g0 : (sl p.reverse ++ .str a :: .str x :: sl suf)[p.length]? = some (.str a) := by
      rw [← hq]; simp [List.getElem?_append_right]
    have gl : (sl p.reverse ++ .str a :: .str x :: sl suf).length = n := by rw [← hM, List.length_map]; exact hlen
    have hkn : p.length + 1 < n := by rw [← hlen]; simp
    have g0' : ((sl p.reverse ++ .str a :: .str x :: sl suf).set (p.length + 1) (.str a))[p.length]? = some (.str a) := by
      rw [List.getElem?_set_ne (by omega)]; exact g0
    rw [hM] at hH6
    generalize hM0 : sl p.reverse ++ .str a :: .str x :: sl suf = M at hH6 hw g1 g0 gl g0'
    have hpos : decide ((0 : Int) < ((p.length + 1 : Nat) : Int)) = true := decide_eq_true (by omega)
    have hsub : IntKind.i64.wrap (((p.length + 1 : Nat) : Int) - 1) = (p.length : Int) := by
      rw [wrap_in (by omega) (by omega)]; omega
    have hk0 : p.length < n := by omega
    have hz1 : decide (0 ≤ p.length + 1) = true := by simp
    have hz0 : decide (0 ≤ p.length) = true := by simp
    simp only [List.length_cons] at h5
    cases hs : slt x a with
    | false =>
      refine round_ends (T := T) (key := 40006) (li := l40006) rfl ?_
      simp only [↓eA, eB, reduceIte, Nat.reduceBEq, Int.reduceNeg, Int.reduceLT, Int.reduceLE, Int.reduceAdd, Int.reduceSub, Int.reduceMul, Int.reduceEq, Int.reduceToNat, Nat.reduceLT, Nat.reduceAdd, Nat.reduceMul, Nat.reduceSub, l40006, h3, h4, h5, hH3, hH6, hpos, hsub, gl, hkn, hk0, g1, g0, hs]
      refine ⟨trivial, trivial, trivial, trivial, ?_⟩
      have : sl ((insRev (a :: p) x).reverse ++ suf) = M := by rw [← hM0, ← hM]; simp [insRev, hs]
      rw [this]
    | true =>
      refine round_goes (T := T) (key := 40006) (li := l40006) rfl (Q := fun e H => Gs.get e 3 = .ow 1006 ∧ Gs.get e 4 = int i ∧ Gs.get e 5 = int p.length ∧ hget H 1003 = none ∧ hget H 1006 = some (.row false 1 (sl (p.reverse ++ x :: a :: suf)) 0 true)) ?_ ?_
      · simp only [↓eA, eB, reduceIte, Nat.reduceBEq, Int.reduceNeg, Int.reduceLT, Int.reduceLE, Int.reduceAdd, Int.reduceSub, Int.reduceMul, Int.reduceEq, Int.reduceToNat, Nat.reduceLT, Nat.reduceAdd, Nat.reduceMul, Nat.reduceSub, l40006, h3, h4, h5, hH3, hH6, hpos, hsub, gl, hkn, hk0, g1, g0, g0', hs, List.length_set, hz1, hz0]
        refine ⟨trivial, trivial, trivial, trivial, trivial, ?_⟩
        rw [hw]; simp [sl]
      · rintro e H ⟨h3, h4, h5, hH3, hH6⟩
        refine (lp_ins n hn i p x (a :: suf) e H (by rw [← hlen]; simp) h3 h4 h5 hH3 hH6).mono fun X e' H' hh => ?_
        simpa [insRev, hs] using hh
theorem lp_sort (l : List ByteArray) (hl : l.length < 1000000) (e : Env) (H : Heap) (h3 : Gs.get e 3 = .ow 1006) (h4 : Gs.get e 4 = int 0) (hH3 : hget H 1003 = none) (hH6 : hget H 1006 = some (.row false 1 (sl l) 0 true)) :
    Ends T 40003 e H (fun X e' H' => X = .ex 0 ∧ Gs.get e' 3 = .ow 1006 ∧ H' = [(1006, .row false 1 (sl (sortB l)) 0 true)]) := by
  refine (loop_fold (T := T) (key := 40003) (li := l40003) rfl l insRev
    (fun i s e H => Gs.get e 3 = .ow 1006 ∧ Gs.get e 4 = int i ∧ hget H 1003 = none ∧ hget H 1006 = some (.row false 1 (sl (s.reverse ++ l.drop i)) 0 true) ∧ s.length = i)
    (fun s X e' H' => X = .ex 0 ∧ Gs.get e' 3 = .ow 1006 ∧ H' = [(1006, .row false 1 (sl s.reverse) 0 true)]) ?_ ?_ [] e H ⟨h3, h4, hH3, hH6, rfl⟩).mono ?_
  · rintro i x s e H hx hi ⟨h3, h4, hH3, hH6, rfl⟩
    have hd : l.drop s.length = x :: l.drop (s.length + 1) := by
      rw [List.drop_eq_getElem_cons hi]
      have := (List.getElem?_eq_some_iff.1 hx).2
      rw [this]
    have hlen : (s.reverse ++ l.drop s.length).length = l.length := by simp; omega
    rw [hd] at hH6 hlen
    simp only [↓eA, eB, reduceIte, Nat.reduceBEq, Int.reduceNeg, Int.reduceLT, Int.reduceLE, Int.reduceAdd, Int.reduceSub, Int.reduceMul, Int.reduceEq, Int.reduceToNat, Nat.reduceLT, Nat.reduceAdd, Nat.reduceMul, Nat.reduceSub, l40003, h3, h4, hH3, hH6, List.length_map, hlen, hi]
    generalize hE : (lim T).loop 40006 _ _ = R
    obtain ⟨X, e', H', rfl, rfl, g3, g4, rfl⟩ := Ends.at hE (lp_ins l.length hl s.length s x (l.drop (s.length + 1)) _ _ hlen (by simp only [↓eA, eB, reduceIte, Nat.reduceBEq, Int.reduceNeg, Int.reduceLT, Int.reduceLE, Int.reduceAdd, Int.reduceSub, Int.reduceMul, Int.reduceEq, Int.reduceToNat, Nat.reduceLT, Nat.reduceAdd, Nat.reduceMul, Nat.reduceSub, h3]) (by simp only [↓eA, eB, reduceIte, Nat.reduceBEq, Int.reduceNeg, Int.reduceLT, Int.reduceLE, Int.reduceAdd, Int.reduceSub, Int.reduceMul, Int.reduceEq, Int.reduceToNat, Nat.reduceLT, Nat.reduceAdd, Nat.reduceMul, Nat.reduceSub, h4]) (by simp only [↓eA, eB, reduceIte, Nat.reduceBEq, Int.reduceNeg, Int.reduceLT, Int.reduceLE, Int.reduceAdd, Int.reduceSub, Int.reduceMul, Int.reduceEq, Int.reduceToNat, Nat.reduceLT, Nat.reduceAdd, Nat.reduceMul, Nat.reduceSub]) (by simp only [↓eA, eB, reduceIte, Nat.reduceBEq, Int.reduceNeg, Int.reduceLT, Int.reduceLE, Int.reduceAdd, Int.reduceSub, Int.reduceMul, Int.reduceEq, Int.reduceToNat, Nat.reduceLT, Nat.reduceAdd, Nat.reduceMul, Nat.reduceSub]) (by simp only [↓eA, eB, reduceIte, Nat.reduceBEq, Int.reduceNeg, Int.reduceLT, Int.reduceLE, Int.reduceAdd, Int.reduceSub, Int.reduceMul, Int.reduceEq, Int.reduceToNat, Nat.reduceLT, Nat.reduceAdd, Nat.reduceMul, Nat.reduceSub]))
    simp only [↓eA, eB, reduceIte, Nat.reduceBEq, Int.reduceNeg, Int.reduceLT, Int.reduceLE, Int.reduceAdd, Int.reduceSub, Int.reduceMul, Int.reduceEq, Int.reduceToNat, Nat.reduceLT, Nat.reduceAdd, Nat.reduceMul, Nat.reduceSub, g3, g4, wrap_succ (show s.length < 4611686018427387904 by omega)]
    refine ⟨trivial, trivial, trivial, trivial, trivial, ?_⟩
    have := (insRev_perm x s).length_eq
    simpa using this
  · rintro s e H ⟨h3, h4, hH3, hH6, hs⟩
    rw [List.drop_length, List.append_nil] at hH6
    simp only [↓eA, eB, reduceIte, Nat.reduceBEq, Int.reduceNeg, Int.reduceLT, Int.reduceLE, Int.reduceAdd, Int.reduceSub, Int.reduceMul, Int.reduceEq, Int.reduceToNat, Nat.reduceLT, Nat.reduceAdd, Nat.reduceMul, Nat.reduceSub, l40003, h3, h4, hH3, hH6, List.length_map, List.length_reverse, hs, Nat.lt_irrefl]
    and_intros <;> first | trivial | rfl
  · rintro X e' H' ⟨rfl, g3, rfl⟩
    refine ⟨rfl, g3, ?_⟩
    rw [fold_sortB]
theorem e_Sorted (nz : Bool) (l : List ByteArray) (hl : l.length < 1000000) : L.call 40 [.fz nz 1 (sl l)] [] = some (.fz false 1 (sl (sortB l)), []) :=
  call_eq rfl rfl (by
    have hfit : fits (0 + l.length) 16 = true := fits_of (by omega)
    simp only [↓eA, eB, reduceIte, Nat.reduceBEq, Int.reduceNeg, Int.reduceLT, Int.reduceLE, Int.reduceAdd, Int.reduceSub, Int.reduceMul, Int.reduceEq, Int.reduceToNat, Nat.reduceLT, Nat.reduceAdd, Nat.reduceMul, Nat.reduceSub, c40, List.length_map, hfit, killE_nil]
    generalize hE : (lim T).loop 40003 _ _ = R
    obtain ⟨X, e', H', rfl, rfl, g3, rfl⟩ := Ends.at hE (lp_sort l hl _ _ (by simp only [↓eA, eB, reduceIte, Nat.reduceBEq, Int.reduceNeg, Int.reduceLT, Int.reduceLE, Int.reduceAdd, Int.reduceSub, Int.reduceMul, Int.reduceEq, Int.reduceToNat, Nat.reduceLT, Nat.reduceAdd, Nat.reduceMul, Nat.reduceSub]) (by simp only [↓eA, eB, reduceIte, Nat.reduceBEq, Int.reduceNeg, Int.reduceLT, Int.reduceLE, Int.reduceAdd, Int.reduceSub, Int.reduceMul, Int.reduceEq, Int.reduceToNat, Nat.reduceLT, Nat.reduceAdd, Nat.reduceMul, Nat.reduceSub]) (by simp only [↓eA, eB, reduceIte, Nat.reduceBEq, Int.reduceNeg, Int.reduceLT, Int.reduceLE, Int.reduceAdd, Int.reduceSub, Int.reduceMul, Int.reduceEq, Int.reduceToNat, Nat.reduceLT, Nat.reduceAdd, Nat.reduceMul, Nat.reduceSub]) (by simp only [↓eA, eB, reduceIte, Nat.reduceBEq, Int.reduceNeg, Int.reduceLT, Int.reduceLE, Int.reduceAdd, Int.reduceSub, Int.reduceMul, Int.reduceEq, Int.reduceToNat, Nat.reduceLT, Nat.reduceAdd, Nat.reduceMul, Nat.reduceSub]))
    simp only [↓eA, eB, reduceIte, Nat.reduceBEq, Int.reduceNeg, Int.reduceLT, Int.reduceLE, Int.reduceAdd, Int.reduceSub, Int.reduceMul, Int.reduceEq, Int.reduceToNat, Nat.reduceLT, Nat.reduceAdd, Nat.reduceMul, Nat.reduceSub, g3])
/-! Same. -/
theorem lp_same (n1 n2 : Bool) (l : List ByteArray) (hl : l.length < 1000000) (e : Env) (H : Heap) (h0 : Gs.get e 0 = .fz n1 1 (sl l)) (h1 : Gs.get e 1 = .fz n2 1 (sl l)) (h5 : Gs.get e 5 = int 0) (hH : H = []) :
    Ends T 14004 e H (fun X e' H' => X = .ex 0 ∧ H' = []) := by
  refine (loop_fold (T := T) (key := 14004) (li := l14004) rfl l (fun (s : Unit) _ => s)
    (fun i s e H => Gs.get e 0 = .fz n1 1 (sl l) ∧ Gs.get e 1 = .fz n2 1 (sl l) ∧ Gs.get e 5 = int i ∧ H = [])
    (fun s X e' H' => X = .ex 0 ∧ H' = []) ?_ ?_ () e H ⟨h0, h1, h5, hH⟩).mono fun _ _ _ h => h
  · rintro i x s e H hx hi ⟨h0, h1, h5, rfl⟩
    have hx' : (sl l)[i]? = some (.str x) := by simp [sl, hx]
    have hlen : (sl l).length = l.length := by simp [sl]
    simp only [↓eA, eB, reduceIte, Nat.reduceBEq, Int.reduceNeg, Int.reduceLT, Int.reduceLE, Int.reduceAdd, Int.reduceSub, Int.reduceMul, Int.reduceEq, Int.reduceToNat, Nat.reduceLT, Nat.reduceAdd, Nat.reduceMul, Nat.reduceSub, l14004, h0, h1, h5, hlen, hi, hx', seq_refl, wrap_succ (show i < 4611686018427387904 by omega)]
    and_intros <;> first | trivial | rfl
  · rintro s e H ⟨h0, h1, h5, rfl⟩
    have hlen : (sl l).length = l.length := by simp [sl]
    simp only [↓eA, eB, reduceIte, Nat.reduceBEq, Int.reduceNeg, Int.reduceLT, Int.reduceLE, Int.reduceAdd, Int.reduceSub, Int.reduceMul, Int.reduceEq, Int.reduceToNat, Nat.reduceLT, Nat.reduceAdd, Nat.reduceMul, Nat.reduceSub, l14004, h0, h1, h5, hlen, Nat.lt_irrefl]
    and_intros <;> first | trivial | rfl
theorem e_same (n1 n2 : Bool) (l : List ByteArray) (hl : l.length < 1000000) : L.call 14 [.fz n1 1 (sl l), .fz n2 1 (sl l)] [] = some (.bool true, []) :=
  call_eq rfl rfl (by
    simp only [↓eA, eB, reduceIte, Nat.reduceBEq, Int.reduceNeg, Int.reduceLT, Int.reduceLE, Int.reduceAdd, Int.reduceSub, Int.reduceMul, Int.reduceEq, Int.reduceToNat, Nat.reduceLT, Nat.reduceAdd, Nat.reduceMul, Nat.reduceSub, c14]
    generalize hE : (lim T).loop 14004 _ _ = R
    obtain ⟨X, e', H', rfl, rfl, rfl⟩ := Ends.at hE (lp_same n1 n2 l hl _ _ rfl rfl rfl rfl)
    simp only [↓eA, eB, reduceIte, Nat.reduceBEq, Int.reduceNeg, Int.reduceLT, Int.reduceLE, Int.reduceAdd, Int.reduceSub, Int.reduceMul, Int.reduceEq, Int.reduceToNat, Nat.reduceLT, Nat.reduceAdd, Nat.reduceMul, Nat.reduceSub])
end Tz.C18
