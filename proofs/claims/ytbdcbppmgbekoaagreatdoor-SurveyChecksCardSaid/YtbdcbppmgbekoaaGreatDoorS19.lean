/- Check, Boxed and Open, reference; no conditions. -/
import Derived.Test.YtbdcbppmgbekoaaGreatDoorS18
set_option linter.unusedVariables false
set_option linter.unusedSimpArgs false
set_option linter.unusedSectionVars false
set_option linter.defProp false
set_option linter.deprecated false
open Gs Go
namespace Tz
def rf (n : Int) : Bool := !(decide (-1000000 ≤ n) && decide (n ≤ 1000000))
def rFar (b : Box) : Bool := (rf b.x0 || rf b.x1) || ((rf b.y0 || rf b.y1) || (rf b.z0 || rf b.z1))
theorem e_rf (n : Int) : L.call 25 [int n] [] = some (.bool (rf n), []) := e_far n
theorem e_c0 (x y z : Int) : L.call 26 [.agg [int x, int y, int z], int 0] [] = some (int x, []) := e_coord x y z 0
theorem e_c1 (x y z : Int) : L.call 26 [.agg [int x, int y, int z], int 1] [] = some (int y, []) := e_coord x y z 1
theorem e_c2 (x y z : Int) : L.call 26 [.agg [int x, int y, int z], int 2] [] = some (int z, []) := e_coord x y z 2
theorem lp_rc2 (s : Survey) (nz : Bool) (l : List ByteArray) (hb : l.length < 4000000000) (hs : ∀ n ∈ l, n.size < 1000000000) (e : Env) (h1 : Gs.get e 1 = .ptr 1 0) (h4 : Gs.get e 4 = .fz nz 1 (l.map .str)) (h5 : Gs.get e 5 = int 0) :
    Ends T 8012 e (Hs s) (fun X e' H' => H' = Hs s ∧ match l.any (fun n => !rName n) with | true => X = .ret ∧ Gs.get e' 2 = int 4 | false => X = .ex 2 ∧ Gs.get e' 1 = .ptr 1 0) := by
  refine loop_any (T := T) (key := 8012) (li := l8012) rfl l (fun n => !rName n) (Hs s) (fun i e => Gs.get e 1 = .ptr 1 0 ∧ Gs.get e 4 = .fz nz 1 (l.map .str) ∧ Gs.get e 5 = int i) (fun X e' => X = .ret ∧ Gs.get e' 2 = int 4) (fun X e' => X = .ex 2 ∧ Gs.get e' 1 = .ptr 1 0) ?_ ?_ e ⟨h1, h4, h5⟩
  · rintro i n e hx hi ⟨h1, h4, h5⟩
    have hx' : (l.map D.str)[i]? = some (.str n) := by simp [hx]
    have hns := hs n (List.mem_of_getElem? hx)
    simp only [↓eA, eB, reduceIte, Nat.reduceBEq, Int.reduceNeg, Int.reduceLT, Int.reduceLE, Int.reduceAdd, Int.reduceSub, Int.reduceMul, Int.reduceEq, Int.reduceToNat, Nat.reduceLT, Nat.reduceAdd, Nat.reduceMul, Nat.reduceSub, l8012, h1, h4, h5, hi, hx', e_rName n hns, wrap_succ (show i < 4611686018427387904 by omega)]
    cases hc : rName n <;> simp only [↓eA, eB, reduceIte, Nat.reduceBEq, Int.reduceNeg, Int.reduceLT, Int.reduceLE, Int.reduceAdd, Int.reduceSub, Int.reduceMul, Int.reduceEq, Int.reduceToNat, Nat.reduceLT, Nat.reduceAdd, Nat.reduceMul, Nat.reduceSub, hc] <;> and_intros <;> first | trivial | rfl
  · rintro e ⟨h1, h4, h5⟩
    simp only [↓eA, eB, reduceIte, Nat.reduceBEq, Int.reduceNeg, Int.reduceLT, Int.reduceLE, Int.reduceAdd, Int.reduceSub, Int.reduceMul, Int.reduceEq, Int.reduceToNat, Nat.reduceLT, Nat.reduceAdd, Nat.reduceMul, Nat.reduceSub, l8012, h1, h4, h5, Nat.lt_irrefl]
    and_intros <;> first | trivial | rfl
def rCheck (s : Survey) : Int := bif sizeBad s then 7 else bif rFar s.pit then 6 else bif !s.pit.ok then 1 else bif s.names.any (fun n => !rName n) then 4 else bif !decide (rShapes s = 0) then rShapes s else bif rOut s then 12 else bif unordered s then 5 else 0
theorem lp_rc1 (s : Survey) (e : Env) (h1 : Gs.get e 1 = .ptr 1 0) (h3 : Gs.get e 3 = int 0) :
    Ends T 8004 e (Hs s) (fun X e' H' => H' = Hs s ∧ match rFar s.pit with | true => X = .ret ∧ Gs.get e' 2 = int 6 | false => X = .ex 0 ∧ Gs.get e' 1 = .ptr 1 0) := by
  have hg : ∀ i : Nat, i < 3 → (i = 0 ∨ i = 1 ∨ i = 2) := fun i hi => by omega
  have := loop_rng (T := T) (key := 8004) (li := l8004) rfl 3 (fun i => if i = 0 then rf s.pit.x0 || rf s.pit.x1 else if i = 1 then rf s.pit.y0 || rf s.pit.y1 else rf s.pit.z0 || rf s.pit.z1) (Hs s) (fun i e => Gs.get e 1 = .ptr 1 0 ∧ Gs.get e 3 = int i) (fun X e' => X = .ret ∧ Gs.get e' 2 = int 6) (fun X e' => X = .ex 0 ∧ Gs.get e' 1 = .ptr 1 0) ?_ ?_ e ⟨h1, h3⟩
  · refine this.mono fun X e' H' h => ?_
    have he : (List.range 3).any (fun i => if i = 0 then rf s.pit.x0 || rf s.pit.x1 else if i = 1 then rf s.pit.y0 || rf s.pit.y1 else rf s.pit.z0 || rf s.pit.z1) = rFar s.pit := by
      simp [rFar, List.range, List.range.loop]
    rw [he] at h; exact h
  · rintro i e hi ⟨h1, h3⟩
    rcases hg i hi with rfl | rfl | rfl
    · have hz : Gs.get e 3 = int 0 := h3
      simp only [↓eA, eB, reduceIte, Nat.reduceBEq, Int.reduceNeg, Int.reduceLT, Int.reduceLE, Int.reduceAdd, Int.reduceSub, Int.reduceMul, Int.reduceEq, Int.reduceToNat, Nat.reduceLT, Nat.reduceAdd, Nat.reduceMul, Nat.reduceSub, l8004, h1, hz, e_c0, e_rf]
      cases hc : (rf s.pit.x0 || rf s.pit.x1) <;> (try simp only [↓eA, eB, reduceIte, Nat.reduceBEq, Int.reduceNeg, Int.reduceLT, Int.reduceLE, Int.reduceAdd, Int.reduceSub, Int.reduceMul, Int.reduceEq, Int.reduceToNat, Nat.reduceLT, Nat.reduceAdd, Nat.reduceMul, Nat.reduceSub, hc]) <;> and_intros <;> first | trivial | rfl
    · have hz : Gs.get e 3 = int 1 := h3
      simp only [↓eA, eB, reduceIte, Nat.reduceBEq, Int.reduceNeg, Int.reduceLT, Int.reduceLE, Int.reduceAdd, Int.reduceSub, Int.reduceMul, Int.reduceEq, Int.reduceToNat, Nat.reduceLT, Nat.reduceAdd, Nat.reduceMul, Nat.reduceSub, l8004, h1, hz, e_c1, e_rf]
      cases hc : (rf s.pit.y0 || rf s.pit.y1) <;> (try simp only [↓eA, eB, reduceIte, Nat.reduceBEq, Int.reduceNeg, Int.reduceLT, Int.reduceLE, Int.reduceAdd, Int.reduceSub, Int.reduceMul, Int.reduceEq, Int.reduceToNat, Nat.reduceLT, Nat.reduceAdd, Nat.reduceMul, Nat.reduceSub, hc]) <;> and_intros <;> first | trivial | rfl
    · have hz : Gs.get e 3 = int 2 := h3
      simp only [↓eA, eB, reduceIte, Nat.reduceBEq, Int.reduceNeg, Int.reduceLT, Int.reduceLE, Int.reduceAdd, Int.reduceSub, Int.reduceMul, Int.reduceEq, Int.reduceToNat, Nat.reduceLT, Nat.reduceAdd, Nat.reduceMul, Nat.reduceSub, l8004, h1, hz, e_c2, e_rf]
      cases hc : (rf s.pit.z0 || rf s.pit.z1) <;> (try simp only [↓eA, eB, reduceIte, Nat.reduceBEq, Int.reduceNeg, Int.reduceLT, Int.reduceLE, Int.reduceAdd, Int.reduceSub, Int.reduceMul, Int.reduceEq, Int.reduceToNat, Nat.reduceLT, Nat.reduceAdd, Nat.reduceMul, Nat.reduceSub, hc]) <;> and_intros <;> first | trivial | rfl
  · rintro e ⟨h1, h3⟩
    have hz : Gs.get e 3 = int 3 := h3
    simp only [↓eA, eB, reduceIte, Nat.reduceBEq, Int.reduceNeg, Int.reduceLT, Int.reduceLE, Int.reduceAdd, Int.reduceSub, Int.reduceMul, Int.reduceEq, Int.reduceToNat, Nat.reduceLT, Nat.reduceAdd, Nat.reduceMul, Nat.reduceSub, l8004, h1, hz]
    and_intros <;> first | trivial | rfl
theorem e_rCheck (s : Survey) (hF : s.Fit) : L.call 8 [s.enc] [] = some (int (rCheck s), []) :=
  call_eq rfl rfl (by
    have hb := hF.bl; have hj := hF.jl; have hf := hF.fl
    have hnl := s.names_length
    unfold rCheck
    cases hz : sizeBad s with
    | true => have hz' := hz; simp only [sizeBad] at hz'; simp only [↓eA, eB, reduceIte, Nat.reduceBEq, Int.reduceNeg, Int.reduceLT, Int.reduceLE, Int.reduceAdd, Int.reduceSub, Int.reduceMul, Int.reduceEq, Int.reduceToNat, Nat.reduceLT, Nat.reduceAdd, Nat.reduceMul, Nat.reduceSub, c8, hz']
    | false =>
    have hz' := hz; simp only [sizeBad] at hz'
    simp only [↓eA, eB, reduceIte, Nat.reduceBEq, Int.reduceNeg, Int.reduceLT, Int.reduceLE, Int.reduceAdd, Int.reduceSub, Int.reduceMul, Int.reduceEq, Int.reduceToNat, Nat.reduceLT, Nat.reduceAdd, Nat.reduceMul, Nat.reduceSub, c8, hz']
    generalize hE : (lim T).loop 8004 _ _ = R
    obtain ⟨X, e', H', rfl, rfl, h⟩ := Ends.at hE (lp_rc1 s _ rfl rfl)
    cases hk : rFar s.pit with
    | true => rw [hk] at h; obtain ⟨rfl, g2⟩ := h; simp only [↓eA, eB, reduceIte, Nat.reduceBEq, Int.reduceNeg, Int.reduceLT, Int.reduceLE, Int.reduceAdd, Int.reduceSub, Int.reduceMul, Int.reduceEq, Int.reduceToNat, Nat.reduceLT, Nat.reduceAdd, Nat.reduceMul, Nat.reduceSub, g2]
    | false =>
    rw [hk] at h; obtain ⟨rfl, g1⟩ := h
    cases hp : s.pit.ok with
    | false => simp only [↓eA, eB, reduceIte, Nat.reduceBEq, Int.reduceNeg, Int.reduceLT, Int.reduceLE, Int.reduceAdd, Int.reduceSub, Int.reduceMul, Int.reduceEq, Int.reduceToNat, Nat.reduceLT, Nat.reduceAdd, Nat.reduceMul, Nat.reduceSub, g1, e_rProper, hp]
    | true =>
    simp only [↓eA, eB, reduceIte, Nat.reduceBEq, Int.reduceNeg, Int.reduceLT, Int.reduceLE, Int.reduceAdd, Int.reduceSub, Int.reduceMul, Int.reduceEq, Int.reduceToNat, Nat.reduceLT, Nat.reduceAdd, Nat.reduceMul, Nat.reduceSub, g1, e_rProper, hp, e_rNames s hF.toFit0]
    generalize hE : (lim T).loop 8012 _ _ = R
    obtain ⟨X, e', H', rfl, rfl, h⟩ := Ends.at hE (lp_rc2 s false s.names (by omega) hF.nm _ (by simp only [↓eA, eB, reduceIte, Nat.reduceBEq, Int.reduceNeg, Int.reduceLT, Int.reduceLE, Int.reduceAdd, Int.reduceSub, Int.reduceMul, Int.reduceEq, Int.reduceToNat, Nat.reduceLT, Nat.reduceAdd, Nat.reduceMul, Nat.reduceSub, g1]) (by simp only [↓eA, eB, reduceIte, Nat.reduceBEq, Int.reduceNeg, Int.reduceLT, Int.reduceLE, Int.reduceAdd, Int.reduceSub, Int.reduceMul, Int.reduceEq, Int.reduceToNat, Nat.reduceLT, Nat.reduceAdd, Nat.reduceMul, Nat.reduceSub]) (by simp only [↓eA, eB, reduceIte, Nat.reduceBEq, Int.reduceNeg, Int.reduceLT, Int.reduceLE, Int.reduceAdd, Int.reduceSub, Int.reduceMul, Int.reduceEq, Int.reduceToNat, Nat.reduceLT, Nat.reduceAdd, Nat.reduceMul, Nat.reduceSub]))
    cases hk : s.names.any (fun n => !rName n) with
    | true => rw [hk] at h; obtain ⟨rfl, g2⟩ := h; simp only [↓eA, eB, reduceIte, Nat.reduceBEq, Int.reduceNeg, Int.reduceLT, Int.reduceLE, Int.reduceAdd, Int.reduceSub, Int.reduceMul, Int.reduceEq, Int.reduceToNat, Nat.reduceLT, Nat.reduceAdd, Nat.reduceMul, Nat.reduceSub, g2]
    | false =>
    rw [hk] at h; obtain ⟨rfl, g1⟩ := h
    cases hs : decide (rShapes s = 0) with
    | false => simp only [↓eA, eB, reduceIte, Nat.reduceBEq, Int.reduceNeg, Int.reduceLT, Int.reduceLE, Int.reduceAdd, Int.reduceSub, Int.reduceMul, Int.reduceEq, Int.reduceToNat, Nat.reduceLT, Nat.reduceAdd, Nat.reduceMul, Nat.reduceSub, g1, e_shapes s hF, hs]
    | true =>
    cases ho : rOut s with
    | true => simp only [↓eA, eB, reduceIte, Nat.reduceBEq, Int.reduceNeg, Int.reduceLT, Int.reduceLE, Int.reduceAdd, Int.reduceSub, Int.reduceMul, Int.reduceEq, Int.reduceToNat, Nat.reduceLT, Nat.reduceAdd, Nat.reduceMul, Nat.reduceSub, g1, e_shapes s hF, hs, e_rOutside s hF, ho]
    | false =>
    cases hu : unordered s with
    | true => simp only [↓eA, eB, reduceIte, Nat.reduceBEq, Int.reduceNeg, Int.reduceLT, Int.reduceLE, Int.reduceAdd, Int.reduceSub, Int.reduceMul, Int.reduceEq, Int.reduceToNat, Nat.reduceLT, Nat.reduceAdd, Nat.reduceMul, Nat.reduceSub, g1, e_shapes s hF, hs, e_rOutside s hF, ho, e_unordered s hF, hu]
    | false => simp only [↓eA, eB, reduceIte, Nat.reduceBEq, Int.reduceNeg, Int.reduceLT, Int.reduceLE, Int.reduceAdd, Int.reduceSub, Int.reduceMul, Int.reduceEq, Int.reduceToNat, Nat.reduceLT, Nat.reduceAdd, Nat.reduceMul, Nat.reduceSub, g1, e_shapes s hF, hs, e_rOutside s hF, ho, e_unordered s hF, hu])
end Tz
