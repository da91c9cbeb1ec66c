/- Lists of intervals; no conditions. -/
import Derived.Test.YthndcpffehneaaaGreatS12
set_option linter.unusedVariables false
set_option linter.unusedSimpArgs false
set_option linter.unusedSectionVars false
set_option linter.defProp false
set_option linter.deprecated false
set_option maxRecDepth 100000
open Gs Go
namespace Tz
/-! Intervals. -/
abbrev ivs_ (l : List (Int × Int)) : List D := l.map ivD
def ivFar (x : Int × Int) : Bool := !(decide (-1000000000000 ≤ x.1) && decide (x.1 ≤ 1000000000000)) || !(decide (-1000000000000 ≤ x.2) && decide (x.2 ≤ 1000000000000))
def ivRev (x : Int × Int) : Bool := decide (x.2 < x.1)
def ivErr (l : List (Int × Int)) : Int := bif l.any ivFar then 6 else bif l.any ivRev then 1 else 0
theorem e_spanNear (n : Int) : L.call 224 [int n] [] = some (.bool (decide (-1000000000000 ≤ n) && decide (n ≤ 1000000000000)), []) :=
  call_eq rfl rfl (by simp only [↓eA, eB, reduceIte, Nat.reduceBEq, Int.reduceNeg, Int.reduceLT, Int.reduceLE, Int.reduceAdd, Int.reduceSub, Int.reduceMul, Int.reduceEq, Int.reduceToNat, Nat.reduceLT, Nat.reduceAdd, Nat.reduceMul, Nat.reduceSub, c224])
theorem lp_sc1 (nz : Bool) (l : List (Int × Int)) (hb : l.length < 4000000000) (e : Env) (H : Heap) (h0 : Gs.get e 0 = .fz nz 2 (l.map ivD)) (h7 : Gs.get e 7 = .fz nz 2 (l.map ivD)) (h8 : Gs.get e 8 = int l.length) (h9 : Gs.get e 9 = int 0) :
    Ends T 202002 e H (fun X e' H' => match l.any ivFar with | true => X = .ret ∧ Gs.get e' 2 = int 6 | false => X = .ex 0 ∧ Gs.get e' 0 = .fz nz 2 (l.map ivD) ∧ H' = []) := by
  refine loop_anyH (T := T) (key := 202002) (li := l202002) rfl l ivFar (fun i e H => Gs.get e 0 = .fz nz 2 (l.map ivD) ∧ Gs.get e 7 = .fz nz 2 (l.map ivD) ∧ Gs.get e 8 = int l.length ∧ Gs.get e 9 = int i) (fun X e' H' => X = .ret ∧ Gs.get e' 2 = int 6) (fun X e' H' => X = .ex 0 ∧ Gs.get e' 0 = .fz nz 2 (l.map ivD) ∧ H' = []) ?_ ?_ e H ⟨h0, h7, h8, h9⟩
  · rintro i x e H hx hi ⟨h0, h7, h8, h9⟩
    have hx' : (l.map ivD)[i]? = some (.agg [int x.1, int x.2]) := by simp [hx, ivD]
    simp only [↓eA, eB, reduceIte, Nat.reduceBEq, Int.reduceNeg, Int.reduceLT, Int.reduceLE, Int.reduceAdd, Int.reduceSub, Int.reduceMul, Int.reduceEq, Int.reduceToNat, Nat.reduceLT, Nat.reduceAdd, Nat.reduceMul, Nat.reduceSub, l202002, h0, h7, h8, h9, hi, hx', e_spanNear, wrap_succ (show i < 4611686018427387904 by omega)]
    cases hc : ivFar x <;> simp only [ivFar] at hc <;> simp only [↓eA, eB, reduceIte, Nat.reduceBEq, Int.reduceNeg, Int.reduceLT, Int.reduceLE, Int.reduceAdd, Int.reduceSub, Int.reduceMul, Int.reduceEq, Int.reduceToNat, Nat.reduceLT, Nat.reduceAdd, Nat.reduceMul, Nat.reduceSub, hc] <;> and_intros <;> first | trivial | rfl
  · rintro e H ⟨h0, h7, h8, h9⟩
    simp only [↓eA, eB, reduceIte, Nat.reduceBEq, Int.reduceNeg, Int.reduceLT, Int.reduceLE, Int.reduceAdd, Int.reduceSub, Int.reduceMul, Int.reduceEq, Int.reduceToNat, Nat.reduceLT, Nat.reduceAdd, Nat.reduceMul, Nat.reduceSub, l202002, h0, h7, h8, h9, Nat.lt_irrefl]
    and_intros <;> first | trivial | rfl
theorem lp_sc2 (nz : Bool) (l : List (Int × Int)) (hb : l.length < 4000000000) (e : Env) (H : Heap) (h7 : Gs.get e 24 = .fz nz 2 (l.map ivD)) (h8 : Gs.get e 25 = int l.length) (h9 : Gs.get e 26 = int 0) :
    Ends T 202008 e H (fun X e' H' => match l.any ivRev with | true => X = .ret ∧ Gs.get e' 2 = int 1 | false => X = .ex 2) := by
  refine loop_anyH (T := T) (key := 202008) (li := l202008) rfl l ivRev (fun i e H => Gs.get e 24 = .fz nz 2 (l.map ivD) ∧ Gs.get e 25 = int l.length ∧ Gs.get e 26 = int i) (fun X e' H' => X = .ret ∧ Gs.get e' 2 = int 1) (fun X e' H' => X = .ex 2) ?_ ?_ e H ⟨h7, h8, h9⟩
  · rintro i x e H hx hi ⟨h7, h8, h9⟩
    have hx' : (l.map ivD)[i]? = some (.agg [int x.1, int x.2]) := by simp [hx, ivD]
    simp only [↓eA, eB, reduceIte, Nat.reduceBEq, Int.reduceNeg, Int.reduceLT, Int.reduceLE, Int.reduceAdd, Int.reduceSub, Int.reduceMul, Int.reduceEq, Int.reduceToNat, Nat.reduceLT, Nat.reduceAdd, Nat.reduceMul, Nat.reduceSub, l202008, h7, h8, h9, hi, hx', wrap_succ (show i < 4611686018427387904 by omega)]
    cases hc : ivRev x <;> simp only [ivRev] at hc <;> simp only [↓eA, eB, reduceIte, Nat.reduceBEq, Int.reduceNeg, Int.reduceLT, Int.reduceLE, Int.reduceAdd, Int.reduceSub, Int.reduceMul, Int.reduceEq, Int.reduceToNat, Nat.reduceLT, Nat.reduceAdd, Nat.reduceMul, Nat.reduceSub, hc] <;> and_intros <;> first | trivial | rfl
  · rintro e H ⟨h7, h8, h9⟩
    simp only [↓eA, eB, reduceIte, Nat.reduceBEq, Int.reduceNeg, Int.reduceLT, Int.reduceLE, Int.reduceAdd, Int.reduceSub, Int.reduceMul, Int.reduceEq, Int.reduceToNat, Nat.reduceLT, Nat.reduceAdd, Nat.reduceMul, Nat.reduceSub, l202008, h7, h8, h9, Nat.lt_irrefl]
    and_intros <;> first | trivial | rfl
theorem e_spanCheck (nz : Bool) (l : List (Int × Int)) (hb : l.length < 4000000000) : L.call 202 [.fz nz 2 (l.map ivD)] [] = some (int (ivErr l), []) :=
  call_eq rfl rfl (by
    unfold ivErr
    simp only [↓eA, eB, reduceIte, Nat.reduceBEq, Int.reduceNeg, Int.reduceLT, Int.reduceLE, Int.reduceAdd, Int.reduceSub, Int.reduceMul, Int.reduceEq, Int.reduceToNat, Nat.reduceLT, Nat.reduceAdd, Nat.reduceMul, Nat.reduceSub, c202]
    generalize hE : (lim T).loop 202002 _ _ = R
    obtain ⟨X, e', H', rfl, hP⟩ := Ends.at hE (lp_sc1 nz l hb _ _ rfl rfl rfl rfl)
    cases hc : l.any ivFar with
    | true => rw [hc] at hP; obtain ⟨rfl, g⟩ := hP; simp only [↓eA, eB, reduceIte, Nat.reduceBEq, Int.reduceNeg, Int.reduceLT, Int.reduceLE, Int.reduceAdd, Int.reduceSub, Int.reduceMul, Int.reduceEq, Int.reduceToNat, Nat.reduceLT, Nat.reduceAdd, Nat.reduceMul, Nat.reduceSub, g]
    | false =>
      rw [hc] at hP; obtain ⟨rfl, g0, rfl⟩ := hP
      simp only [↓eA, eB, reduceIte, Nat.reduceBEq, Int.reduceNeg, Int.reduceLT, Int.reduceLE, Int.reduceAdd, Int.reduceSub, Int.reduceMul, Int.reduceEq, Int.reduceToNat, Nat.reduceLT, Nat.reduceAdd, Nat.reduceMul, Nat.reduceSub, g0]
      generalize hE : (lim T).loop 202008 _ _ = R
      obtain ⟨X, e', H', rfl, hP⟩ := Ends.at hE (lp_sc2 nz l hb _ _ (by simp only [↓eA, eB, reduceIte, Nat.reduceBEq, Int.reduceNeg, Int.reduceLT, Int.reduceLE, Int.reduceAdd, Int.reduceSub, Int.reduceMul, Int.reduceEq, Int.reduceToNat, Nat.reduceLT, Nat.reduceAdd, Nat.reduceMul, Nat.reduceSub]) (by simp only [↓eA, eB, reduceIte, Nat.reduceBEq, Int.reduceNeg, Int.reduceLT, Int.reduceLE, Int.reduceAdd, Int.reduceSub, Int.reduceMul, Int.reduceEq, Int.reduceToNat, Nat.reduceLT, Nat.reduceAdd, Nat.reduceMul, Nat.reduceSub]) (by simp only [↓eA, eB, reduceIte, Nat.reduceBEq, Int.reduceNeg, Int.reduceLT, Int.reduceLE, Int.reduceAdd, Int.reduceSub, Int.reduceMul, Int.reduceEq, Int.reduceToNat, Nat.reduceLT, Nat.reduceAdd, Nat.reduceMul, Nat.reduceSub]))
      cases hc : l.any ivRev with
      | true => rw [hc] at hP; obtain ⟨rfl, g⟩ := hP; simp only [↓eA, eB, reduceIte, Nat.reduceBEq, Int.reduceNeg, Int.reduceLT, Int.reduceLE, Int.reduceAdd, Int.reduceSub, Int.reduceMul, Int.reduceEq, Int.reduceToNat, Nat.reduceLT, Nat.reduceAdd, Nat.reduceMul, Nat.reduceSub, g]
      | false => rw [hc] at hP; subst hP; simp only [↓eA, eB, reduceIte, Nat.reduceBEq, Int.reduceNeg, Int.reduceLT, Int.reduceLE, Int.reduceAdd, Int.reduceSub, Int.reduceMul, Int.reduceEq, Int.reduceToNat, Nat.reduceLT, Nat.reduceAdd, Nat.reduceMul, Nat.reduceSub])
theorem lt0 (n : Nat) : decide ((n : Int) < 0) = false := by simp
theorem e_grow (n : Nat) (hn : n < 4000000000) : L.call 225 [.fz true 2 [], int n] [] = some (if 0 < n then (.ow 600000, [(600000, .row false 2 [] 0 true)]) else (.fz true 2 [], [])) :=
  call_eq rfl rfl (by
    by_cases hz : 0 < n
    · have hz' : decide ((0:Int) < n) = true := by simpa using hz
      have hfit : fits n 16 = true := by simp [fits]; omega
      have hw : IntKind.i64.wrap ((n : Int) - 0) = n := by simp only [Int.sub_zero]; exact wrap_nat (by omega)
      have h00 : inc 0 0 = true := rfl
      have h0n : inc 0 n = true := by simp [inc]
      have hc0 : cut ([] : List D) 0 0 = [] := rfl
      have hcr : cut (List.replicate n (D.agg [.int .i64 0, .int .i64 0])) 0 0 = [] := by simp [cut]
      simp only [↓eA, eB, reduceIte, Nat.reduceBEq, Int.reduceNeg, Int.reduceLT, Int.reduceLE, Int.reduceAdd, Int.reduceSub, Int.reduceMul, Int.reduceEq, Int.reduceToNat, Nat.reduceLT, Nat.reduceAdd, Nat.reduceMul, Nat.reduceSub, c225, lt0, hw, hz', hfit, h00, h0n, hc0, hcr, List.isEmpty_nil, Int.toNat_natCast, List.length_replicate, Nat.zero_le, Nat.zero_add, Nat.sub_zero, Nat.zero_sub]
      rw [if_pos hz]
    · have hz' : decide ((0:Int) < n) = false := by simp; omega
      have hn0 : n = 0 := by omega
      subst hn0
      simp only [↓eA, eB, reduceIte, Nat.reduceBEq, Int.reduceNeg, Int.reduceLT, Int.reduceLE, Int.reduceAdd, Int.reduceSub, Int.reduceMul, Int.reduceEq, Int.reduceToNat, Nat.reduceLT, Nat.reduceAdd, Nat.reduceMul, Nat.reduceSub, c225])
abbrev encL (p : Bool × List (Int × Int)) : D := .fz p.1 2 (p.2.map ivD)
def total : List (Bool × List (Int × Int)) → Nat
  | [] => 0
  | p :: r => p.2.length + total r
abbrev CC : Nat := 0
theorem foldl_total : ∀ (l : List (Bool × List (Int × Int))) (a : Nat), l.foldl (fun s p => s + p.2.length) a = a + total l
  | [], a => rfl
  | p :: r, a => by simp only [List.foldl_cons, foldl_total r, total]; omega
theorem total_take (l : List (Bool × List (Int × Int))) : ∀ i p, l[i]? = some p → total (l.take i) + p.2.length ≤ total l := by
  induction l with
  | nil => intro i p h; simp at h
  | cons q r ih =>
    intro i p h
    cases i with
    | zero => simp at h; subst h; simp [total]
    | succ i => simp at h; have := ih i p h; simp only [List.take_succ_cons, total]; omega
theorem total_take_succ (l : List (Bool × List (Int × Int))) : ∀ i p, l[i]? = some p → total (l.take (i + 1)) = total (l.take i) + p.2.length := by
  induction l with
  | nil => intro i p h; simp at h
  | cons q r ih =>
    intro i p h
    cases i with
    | zero => simp at h; subst h; simp [total]
    | succ i => simp at h; have := ih i p h; simp only [List.take_succ_cons, total, this]; omega
theorem lp_cc1 (nz : Bool) (xss : List (Bool × List (Int × Int))) (hb : xss.length < 1000000000) (ht : total xss < 4000000000) (e : Env) (H : Heap) (h0 : Gs.get e 0 = .fz nz 1 (xss.map encL)) (h3 : Gs.get e 3 = int (0 : Nat)) (h9 : Gs.get e 9 = .fz nz 1 (xss.map encL)) (h10 : Gs.get e 10 = int xss.length) (h11 : Gs.get e 11 = int 0) :
    Ends T 203003 e H (fun X e' H' => X = .ex 0 ∧ Gs.get e' 0 = .fz nz 1 (xss.map encL) ∧ Gs.get e' 3 = int (total xss) ∧ H' = []) := by
  refine (loop_fold (T := T) (key := 203003) (li := l203003) rfl xss (fun s p => s + p.2.length) (fun i a e H => a = total (xss.take i) ∧ Gs.get e 0 = .fz nz 1 (xss.map encL) ∧ Gs.get e 3 = int a ∧ Gs.get e 9 = .fz nz 1 (xss.map encL) ∧ Gs.get e 10 = int xss.length ∧ Gs.get e 11 = int i) (fun a X e' H' => X = .ex 0 ∧ Gs.get e' 0 = .fz nz 1 (xss.map encL) ∧ Gs.get e' 3 = int a ∧ H' = []) ?_ ?_ 0 e H ⟨rfl, h0, h3, h9, h10, h11⟩).mono ?_
  · rintro i p a e H hx hi ⟨ha, h0, h3, h9, h10, h11⟩
    have hx' : (xss.map encL)[i]? = some (encL p) := by simp [hx]
    have htt := total_take xss i p hx
    have hts := total_take_succ xss i p hx
    have hw : IntKind.i64.wrap ((a : Int) + (p.2.length : Int)) = ((a + p.2.length : Nat) : Int) := by
      rw [← Int.natCast_add]; exact wrap_nat (by omega)
    simp only [↓eA, eB, reduceIte, Nat.reduceBEq, Int.reduceNeg, Int.reduceLT, Int.reduceLE, Int.reduceAdd, Int.reduceSub, Int.reduceMul, Int.reduceEq, Int.reduceToNat, Nat.reduceLT, Nat.reduceAdd, Nat.reduceMul, Nat.reduceSub, l203003, h0, h3, h9, h10, h11, hi, hx', hw, lt0, wrap_succ (show i < 4611686018427387904 by omega)]
    refine ⟨trivial, by omega, ?_⟩
    and_intros <;> first | trivial | rfl
  · rintro a e H ⟨ha, h0, h3, h9, h10, h11⟩
    simp only [↓eA, eB, reduceIte, Nat.reduceBEq, Int.reduceNeg, Int.reduceLT, Int.reduceLE, Int.reduceAdd, Int.reduceSub, Int.reduceMul, Int.reduceEq, Int.reduceToNat, Nat.reduceLT, Nat.reduceAdd, Nat.reduceMul, Nat.reduceSub, l203003, h0, h3, h9, h10, h11, Nat.lt_irrefl]
    and_intros <;> first | trivial | rfl
  · rintro X e' H' ⟨hX, g0, g3, hH⟩
    refine ⟨hX, g0, ?_, hH⟩
    rw [g3, foldl_total, Nat.zero_add]
theorem lp_cc2 (nz b : Bool) (xss : List (Bool × List (Int × Int))) (hb : xss.length < 1000000000) (ht : total xss < 4000000000) (e : Env) (H : Heap) (h6 : Gs.get e 6 = .ow 1006) (h9 : Gs.get e 25 = .fz nz 1 (xss.map encL)) (h10 : Gs.get e 26 = int xss.length) (h11 : Gs.get e 27 = int 0) (hH : hget H 1006 = some (.row b 2 [] 0 true)) (hH1 : hget H 10480 = none) (hH2 : hget H 10481 = none) :
    Ends T 203011 e H (fun X e' H' => X = .ex 2 ∧ Gs.get e' 6 = .ow 1006 ∧ H' = [(1006, .row b 2 (((xss.map Prod.snd).flatten).map ivD) 0 true)]) := by
  refine (loop_fold (T := T) (key := 203011) (li := l203011) rfl xss (fun s p => s ++ p.2) (fun i a e H => a.length = total (xss.take i) ∧ Gs.get e 6 = .ow 1006 ∧ Gs.get e 25 = .fz nz 1 (xss.map encL) ∧ Gs.get e 26 = int xss.length ∧ Gs.get e 27 = int i ∧ hget H 1006 = some (.row b 2 (a.map ivD) 0 true) ∧ hget H 10480 = none ∧ hget H 10481 = none) (fun a X e' H' => X = .ex 2 ∧ Gs.get e' 6 = .ow 1006 ∧ H' = [(1006, .row b 2 (a.map ivD) 0 true)]) ?_ ?_ [] e H ⟨rfl, h6, h9, h10, h11, hH, hH1, hH2⟩).mono ?_
  · rintro i p a e H hx hi ⟨ha, h6, h9, h10, h11, hH, hH1, hH2⟩
    have hx' : (xss.map encL)[i]? = some (encL p) := by simp [hx]
    have htt := total_take xss i p hx
    have hts := total_take_succ xss i p hx
    have hfit : fits (a.length + p.2.length) 16 = true := by simp [fits]; omega
    have hlen : (a ++ p.2).length = total (xss.take (i + 1)) := by simp; omega
    simp only [↓eA, eB, reduceIte, Nat.reduceBEq, Int.reduceNeg, Int.reduceLT, Int.reduceLE, Int.reduceAdd, Int.reduceSub, Int.reduceMul, Int.reduceEq, Int.reduceToNat, Nat.reduceLT, Nat.reduceAdd, Nat.reduceMul, Nat.reduceSub, l203011, h6, h9, h10, h11, hH, hH1, hH2, hi, hx', hfit, wrap_succ (show i < 4611686018427387904 by omega), List.map_append]
    refine ⟨trivial, hlen, ?_⟩
    and_intros <;> first | trivial | rfl
  · rintro a e H ⟨ha, h6, h9, h10, h11, hH, hH1, hH2⟩
    simp only [↓eA, eB, reduceIte, Nat.reduceBEq, Int.reduceNeg, Int.reduceLT, Int.reduceLE, Int.reduceAdd, Int.reduceSub, Int.reduceMul, Int.reduceEq, Int.reduceToNat, Nat.reduceLT, Nat.reduceAdd, Nat.reduceMul, Nat.reduceSub, l203011, h6, h9, h10, h11, hH, hH1, hH2, Nat.lt_irrefl]
    and_intros <;> first | trivial | rfl
  · rintro X e' H' ⟨hX, g6, hH⟩
    refine ⟨hX, g6, ?_⟩
    have : ∀ (l : List (Bool × List (Int × Int))) (a : List (Int × Int)), l.foldl (fun s p => s ++ p.2) a = a ++ (l.map Prod.snd).flatten := by
      intro l
      induction l with
      | nil => intro a; simp
      | cons q r ih => intro a; simp [ih]
    rw [hH, this, List.nil_append]
theorem e_concat (nz : Bool) (xss : List (Bool × List (Int × Int))) (hb : xss.length < 1000000000) (ht : total xss < 4000000000) :
    L.call 203 [.fz nz 1 (xss.map encL)] [] = some (.fz (decide (total xss = 0)) 2 (((xss.map Prod.snd).flatten).map ivD), []) :=
  call_eq rfl rfl (by
    simp only [↓eA, eB, reduceIte, Nat.reduceBEq, Int.reduceNeg, Int.reduceLT, Int.reduceLE, Int.reduceAdd, Int.reduceSub, Int.reduceMul, Int.reduceEq, Int.reduceToNat, Nat.reduceLT, Nat.reduceAdd, Nat.reduceMul, Nat.reduceSub, c203]
    generalize hE : (lim T).loop 203003 _ _ = R
    obtain ⟨X, e', H', rfl, rfl, g0, g3, rfl⟩ := Ends.at hE (lp_cc1 nz xss hb ht _ _ rfl rfl rfl rfl rfl)
    by_cases hz : 0 < total xss
    · have hg := e_grow (total xss) ht
      rw [if_pos hz] at hg
      simp only [↓eA, eB, reduceIte, Nat.reduceBEq, Int.reduceNeg, Int.reduceLT, Int.reduceLE, Int.reduceAdd, Int.reduceSub, Int.reduceMul, Int.reduceEq, Int.reduceToNat, Nat.reduceLT, Nat.reduceAdd, Nat.reduceMul, Nat.reduceSub, g0, g3, hg, killE_nil]
      generalize hE2 : (lim T).loop 203011 _ _ = R
      obtain ⟨X, e2, H', rfl, rfl, g6, rfl⟩ := Ends.at hE2 (lp_cc2 nz false xss hb ht _ _ (by simp only [↓eA, eB, reduceIte, Nat.reduceBEq, Int.reduceNeg, Int.reduceLT, Int.reduceLE, Int.reduceAdd, Int.reduceSub, Int.reduceMul, Int.reduceEq, Int.reduceToNat, Nat.reduceLT, Nat.reduceAdd, Nat.reduceMul, Nat.reduceSub]) (by simp only [↓eA, eB, reduceIte, Nat.reduceBEq, Int.reduceNeg, Int.reduceLT, Int.reduceLE, Int.reduceAdd, Int.reduceSub, Int.reduceMul, Int.reduceEq, Int.reduceToNat, Nat.reduceLT, Nat.reduceAdd, Nat.reduceMul, Nat.reduceSub, get_killE, killD]) (by simp only [↓eA, eB, reduceIte, Nat.reduceBEq, Int.reduceNeg, Int.reduceLT, Int.reduceLE, Int.reduceAdd, Int.reduceSub, Int.reduceMul, Int.reduceEq, Int.reduceToNat, Nat.reduceLT, Nat.reduceAdd, Nat.reduceMul, Nat.reduceSub, get_killE, killD]) (by simp only [↓eA, eB, reduceIte, Nat.reduceBEq, Int.reduceNeg, Int.reduceLT, Int.reduceLE, Int.reduceAdd, Int.reduceSub, Int.reduceMul, Int.reduceEq, Int.reduceToNat, Nat.reduceLT, Nat.reduceAdd, Nat.reduceMul, Nat.reduceSub, get_killE, killD]) rfl rfl rfl)
      have hd : decide (total xss = 0) = false := by simp; omega
      simp only [↓eA, eB, reduceIte, Nat.reduceBEq, Int.reduceNeg, Int.reduceLT, Int.reduceLE, Int.reduceAdd, Int.reduceSub, Int.reduceMul, Int.reduceEq, Int.reduceToNat, Nat.reduceLT, Nat.reduceAdd, Nat.reduceMul, Nat.reduceSub, g6, hd]
    · have hg := e_grow (total xss) ht
      rw [if_neg hz] at hg
      simp only [↓eA, eB, reduceIte, Nat.reduceBEq, Int.reduceNeg, Int.reduceLT, Int.reduceLE, Int.reduceAdd, Int.reduceSub, Int.reduceMul, Int.reduceEq, Int.reduceToNat, Nat.reduceLT, Nat.reduceAdd, Nat.reduceMul, Nat.reduceSub, g0, g3, hg, killE_nil]
      generalize hE2 : (lim T).loop 203011 _ _ = R
      obtain ⟨X, e2, H', rfl, rfl, g6, rfl⟩ := Ends.at hE2 (lp_cc2 nz true xss hb ht _ _ (by simp only [↓eA, eB, reduceIte, Nat.reduceBEq, Int.reduceNeg, Int.reduceLT, Int.reduceLE, Int.reduceAdd, Int.reduceSub, Int.reduceMul, Int.reduceEq, Int.reduceToNat, Nat.reduceLT, Nat.reduceAdd, Nat.reduceMul, Nat.reduceSub]) (by simp only [↓eA, eB, reduceIte, Nat.reduceBEq, Int.reduceNeg, Int.reduceLT, Int.reduceLE, Int.reduceAdd, Int.reduceSub, Int.reduceMul, Int.reduceEq, Int.reduceToNat, Nat.reduceLT, Nat.reduceAdd, Nat.reduceMul, Nat.reduceSub]) (by simp only [↓eA, eB, reduceIte, Nat.reduceBEq, Int.reduceNeg, Int.reduceLT, Int.reduceLE, Int.reduceAdd, Int.reduceSub, Int.reduceMul, Int.reduceEq, Int.reduceToNat, Nat.reduceLT, Nat.reduceAdd, Nat.reduceMul, Nat.reduceSub]) (by simp only [↓eA, eB, reduceIte, Nat.reduceBEq, Int.reduceNeg, Int.reduceLT, Int.reduceLE, Int.reduceAdd, Int.reduceSub, Int.reduceMul, Int.reduceEq, Int.reduceToNat, Nat.reduceLT, Nat.reduceAdd, Nat.reduceMul, Nat.reduceSub]) rfl rfl rfl)
      have hd : decide (total xss = 0) = true := by simp; omega
      simp only [↓eA, eB, reduceIte, Nat.reduceBEq, Int.reduceNeg, Int.reduceLT, Int.reduceLE, Int.reduceAdd, Int.reduceSub, Int.reduceMul, Int.reduceEq, Int.reduceToNat, Nat.reduceLT, Nat.reduceAdd, Nat.reduceMul, Nat.reduceSub, g6, hd])
theorem e_clone (l : List (Int × Int)) (hb : l.length < 4000000000) : L.call 204 [.fz true 2 (l.map ivD)] [] = some (if l = [] then (.fz true 2 [], []) else (.ow 600001, [(600001, .row false 2 (l.map ivD) 0 true)])) :=
  call_eq rfl rfl (by
    cases l with
    | nil => simp only [↓eA, eB, reduceIte, Nat.reduceBEq, Int.reduceNeg, Int.reduceLT, Int.reduceLE, Int.reduceAdd, Int.reduceSub, Int.reduceMul, Int.reduceEq, Int.reduceToNat, Nat.reduceLT, Nat.reduceAdd, Nat.reduceMul, Nat.reduceSub, c204]; rfl
    | cons x r =>
      have hfit : fits (0 + (r.length + 1)) 16 = true := by simp only [List.length_cons] at hb; simp [fits]; omega
      have hne : (List.map ivD (x :: r)).isEmpty = false := rfl
      simp only [↓eA, eB, reduceIte, Nat.reduceBEq, Int.reduceNeg, Int.reduceLT, Int.reduceLE, Int.reduceAdd, Int.reduceSub, Int.reduceMul, Int.reduceEq, Int.reduceToNat, Nat.reduceLT, Nat.reduceAdd, Nat.reduceMul, Nat.reduceSub, c204, hfit, hne]
      simp)
theorem e_lists1 (l : List (Int × Int)) (b : Bool) (hb : l.length < 4000000000) : L.call 162 [.fz false 1 [.fz b 2 (l.map ivD)]] [] = some (int (bif decide (10000 < (l.length : Int)) then 7 else ivErr l), []) :=
  call_eq rfl rfl (by
    have hc := e_concat false [(b, l)] (by simp) (by simpa [total] using hb)
    have hc' : ∃ z, L.call 203 [.fz false 1 [.fz b 2 (l.map ivD)]] [] = some (.fz z 2 (l.map ivD), []) := ⟨_, by simpa using hc⟩
    obtain ⟨z, hc⟩ := hc'
    have h01 : inb 0 1 = true := rfl
    have hz0 : ∀ d : D, [d][0]? = some d := fun _ => rfl
    simp only [↓eA, eB, reduceIte, Nat.reduceBEq, Int.reduceNeg, Int.reduceLT, Int.reduceLE, Int.reduceAdd, Int.reduceSub, Int.reduceMul, Int.reduceEq, Int.reduceToNat, Nat.reduceLT, Nat.reduceAdd, Nat.reduceMul, Nat.reduceSub, c162]
    rw [loop_unfold_c (T := T) (k := 162002) rfl]
    cases h1 : decide (10000 < (l.length : Int)) with
    | true => simp only [↓eA, eB, reduceIte, Nat.reduceBEq, Int.reduceNeg, Int.reduceLT, Int.reduceLE, Int.reduceAdd, Int.reduceSub, Int.reduceMul, Int.reduceEq, Int.reduceToNat, Nat.reduceLT, Nat.reduceAdd, Nat.reduceMul, Nat.reduceSub, l162002, h1, h01, hz0]
    | false =>
      simp only [↓eA, eB, reduceIte, Nat.reduceBEq, Int.reduceNeg, Int.reduceLT, Int.reduceLE, Int.reduceAdd, Int.reduceSub, Int.reduceMul, Int.reduceEq, Int.reduceToNat, Nat.reduceLT, Nat.reduceAdd, Nat.reduceMul, Nat.reduceSub, l162002, h1, h01, hz0]
      rw [loop_unfold_c (T := T) (k := 162002) rfl]
      simp only [↓eA, eB, reduceIte, Nat.reduceBEq, Int.reduceNeg, Int.reduceLT, Int.reduceLE, Int.reduceAdd, Int.reduceSub, Int.reduceMul, Int.reduceEq, Int.reduceToNat, Nat.reduceLT, Nat.reduceAdd, Nat.reduceMul, Nat.reduceSub, l162002, h01, hz0, hc, e_spanCheck z l hb])
end Tz
