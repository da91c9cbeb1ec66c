/- The reference: LeansOn and Carries; no conditions. -/
import Derived.Test.YthndcpffehneaaaGreatS66
set_option linter.unusedVariables false
set_option linter.unusedSimpArgs false
set_option linter.unusedSectionVars false
set_option linter.defProp false
set_option linter.deprecated false
open Gs Go
namespace Tz
/-! gangsawref18: Leans, LeansOn, Carries. -/
def flat2 (a b : Box) : Bool := ((decide (a.x0 < b.x1) && decide (b.x0 < a.x1)) && decide (a.y0 < b.y1)) && decide (b.y0 < a.y1)
theorem e_rFlat (a b : Box) : L.call 65 [a.enc, b.enc] [] = some (.bool (flat2 a b), []) :=
  call_eq rfl rfl (by simp only [↓eA, eB, reduceIte, Nat.reduceBEq, Int.reduceNeg, Int.reduceLT, Int.reduceLE, Int.reduceAdd, Int.reduceSub, Int.reduceMul, Int.reduceEq, Int.reduceToNat, Nat.reduceLT, Nat.reduceAdd, Nat.reduceMul, Nat.reduceSub, c65]; rfl)
def rleans (a b : Box) : Bool := decide (a.z0 = b.z1) && flat2 a b
theorem e_rLeans (a b : Box) : L.call 39 [a.enc, b.enc] [] = some (.bool (rleans a b), []) :=
  call_eq rfl rfl (by simp only [↓eA, eB, reduceIte, Nat.reduceBEq, Int.reduceNeg, Int.reduceLT, Int.reduceLE, Int.reduceAdd, Int.reduceSub, Int.reduceMul, Int.reduceEq, Int.reduceToNat, Nat.reduceLT, Nat.reduceAdd, Nat.reduceMul, Nat.reduceSub, c39, e_rFlat a b]; rfl)
theorem boxErr_ok {b : Box} (h : boxErr b = 0) : b.x0 < b.x1 ∧ b.y0 < b.y1 ∧ b.z0 < b.z1 := by
  unfold boxErr at h
  cases h1 : (far2 b.x0 b.x1 || (far2 b.y0 b.y1 || far2 b.z0 b.z1)) with
  | true => rw [h1] at h; simp at h
  | false =>
    rw [h1] at h
    simp only [cond_false] at h
    cases h2 : (decide (b.x1 ≤ b.x0) || (decide (b.y1 ≤ b.y0) || decide (b.z1 ≤ b.z0))) with
    | true => rw [h2] at h; simp at h
    | false => simp only [Bool.or_eq_false_iff, decide_eq_false_iff_not] at h2; omega
theorem rleans_eq {a b : Box} (ha : boxErr a = 0) (hb : boxErr b = 0) : rleans a b = leansB a b := by
  have h1 := boxErr_ok ha
  have h2 := boxErr_ok hb
  unfold rleans leansB flat2 over2
  rw [Bool.eq_iff_iff]; simp; omega
theorem find_idx (p : Block → Bool) : ∀ {bs : List Block} {a : Block}, bs.find? p = some a → ∃ j, bs.findIdx? p = some j ∧ bs[j]? = some a
  | [], a, h => by simp at h
  | b :: r, a, h => by
    rw [List.find?_cons] at h
    rw [List.findIdx?_cons]
    cases hb : p b with
    | true => rw [hb] at h; injection h with h; subst h; exact ⟨0, rfl, rfl⟩
    | false =>
      rw [hb] at h
      obtain ⟨j, h1, h2⟩ := find_idx p h
      exact ⟨j + 1, by simp [h1], by simpa using h2⟩
theorem lp_rLeansOn (bs : List Block) (hl : bs.length < 1000000) (a : Block) (e : Env) (H : Heap) (h0 : Gs.get e 0 = blks bs) (h5 : Gs.get e 5 = .ow 1005) (h6 : Gs.get e 6 = .ptr 6 0) (h7 : Gs.get e 7 = int 0) (hH6 : hget H 6 = some (.box a.cells false)) (hH : hget H 1005 = some (.row true 1 [] 0 true)) :
    Ends T 15004 e H (fun X e' H' => X = .ex 0 ∧ Gs.get e' 5 = .ow 1005 ∧ H' = [(6, .box a.cells false), (1005, .row true 1 (sl (namesOf (fun (b:Block) => rleans a.box b.box) bs)) 0 true)]) := by
  refine (loop_fold (T := T) (key := 15004) (li := l15004) rfl bs (fun (s : List ByteArray) (b : Block) => bif (fun (b:Block) => rleans a.box b.box) b then s ++ [b.name] else s)
    (fun i s e H => Gs.get e 0 = blks bs ∧ Gs.get e 5 = .ow 1005 ∧ Gs.get e 6 = .ptr 6 0 ∧ Gs.get e 7 = int i ∧ hget H 6 = some (.box a.cells false) ∧ hget H 1005 = some (.row true 1 (sl s) 0 true) ∧ s.length ≤ i)
    (fun s X e' H' => X = .ex 0 ∧ Gs.get e' 5 = .ow 1005 ∧ H' = [(6, .box a.cells false), (1005, .row true 1 (sl s) 0 true)]) ?_ ?_ [] e H ⟨h0, h5, h6, h7, hH6, hH, Nat.le_refl _⟩).mono ?_
  · rintro i b s e H hx hi ⟨h0, h5, h6, h7, hH6, hH, hs⟩
    have hx' : (bs.map Block.enc)[i]? = some b.enc := by simp [hx]
    have hfit : fits (s.length + (0 + 1)) 16 = true := fits_of (by omega)
    have hlr := e_rLeans a.box b.box
    have hlr' := e_rLeans b.box a.box
    cases hp : (fun (b:Block) => rleans a.box b.box) b with
    | true =>
      simp only at hp
      simp only [↓eA, eB, reduceIte, Nat.reduceBEq, Int.reduceNeg, Int.reduceLT, Int.reduceLE, Int.reduceAdd, Int.reduceSub, Int.reduceMul, Int.reduceEq, Int.reduceToNat, Nat.reduceLT, Nat.reduceAdd, Nat.reduceMul, Nat.reduceSub, l15004, h0, h5, h6, h7, hH6, hH, hi, hx', hlr, hlr', hp, hfit, List.length_map, wrap_succ (show i < 4611686018427387904 by omega)]
      refine ⟨trivial, trivial, trivial, trivial, trivial, trivial, ?_, ?_⟩
      · simp [sl]
      · simp; omega
    | false =>
      simp only at hp
      simp only [↓eA, eB, reduceIte, Nat.reduceBEq, Int.reduceNeg, Int.reduceLT, Int.reduceLE, Int.reduceAdd, Int.reduceSub, Int.reduceMul, Int.reduceEq, Int.reduceToNat, Nat.reduceLT, Nat.reduceAdd, Nat.reduceMul, Nat.reduceSub, l15004, h0, h5, h6, h7, hH6, hH, hi, hx', hlr, hlr', hp, wrap_succ (show i < 4611686018427387904 by omega)]
      refine ⟨trivial, trivial, trivial, trivial, trivial, trivial, trivial, by omega⟩
  · rintro s e H ⟨h0, h5, h6, h7, hH6, hH, hs⟩
    simp only [↓eA, eB, reduceIte, Nat.reduceBEq, Int.reduceNeg, Int.reduceLT, Int.reduceLE, Int.reduceAdd, Int.reduceSub, Int.reduceMul, Int.reduceEq, Int.reduceToNat, Nat.reduceLT, Nat.reduceAdd, Nat.reduceMul, Nat.reduceSub, l15004, h0, h5, h6, h7, hH6, hH, Nat.lt_irrefl]
    and_intros <;> first | trivial | rfl
  · rintro X e' H' ⟨rfl, g5, rfl⟩
    refine ⟨rfl, g5, ?_⟩
    have key : ∀ (l : List Block) (s : List ByteArray), l.foldl (fun s b => bif (fun (b:Block) => rleans a.box b.box) b then s ++ [b.name] else s) s = s ++ namesOf (fun (b:Block) => rleans a.box b.box) l := by
      intro l
      induction l with
      | nil => intro s; simp [namesOf]
      | cons b r ih =>
        intro s
        rw [List.foldl_cons, ih]
        cases hp : (fun (b:Block) => rleans a.box b.box) b <;> simp only at hp <;> simp [namesOf, hp]
    rw [key]; rfl
theorem e_rLeansOn (bs : List Block) (hl : bs.length < 1000000) (nm : ByteArray) (a : Block) (ha : bs.find? (named nm) = some a) : L.call 15 [blks bs, .str nm] [] = some (.fz false 1 (sl (sortB (namesOf (fun (b:Block) => rleans a.box b.box) bs))), []) :=
  call_eq rfl rfl (by
    obtain ⟨j, hj, hb⟩ := find_idx _ ha
    have hx : idxOf (named nm) bs = (j : Int) := by unfold idxOf; rw [hj]
    have hi := (List.getElem?_eq_some_iff.1 hb).1
    have hx' : (bs.map Block.enc)[j]? = some a.enc := by simp [hb]
    simp only [↓eA, eB, reduceIte, Nat.reduceBEq, Int.reduceNeg, Int.reduceLT, Int.reduceLE, Int.reduceAdd, Int.reduceSub, Int.reduceMul, Int.reduceEq, Int.reduceToNat, Nat.reduceLT, Nat.reduceAdd, Nat.reduceMul, Nat.reduceSub, c15, e_idx bs hl, hx, hi, hx']
    generalize hE : (lim T).loop 15004 _ _ = R
    obtain ⟨X, e', H', rfl, rfl, g5, rfl⟩ := Ends.at hE (lp_rLeansOn bs hl a _ _ rfl rfl rfl rfl rfl rfl)
    have hs := e_Sorted true (namesOf (fun (b:Block) => rleans a.box b.box) bs) (by have := namesOf_len (fun (b:Block) => rleans a.box b.box) bs; omega)
    simp only [↓eA, eB, reduceIte, Nat.reduceBEq, Int.reduceNeg, Int.reduceLT, Int.reduceLE, Int.reduceAdd, Int.reduceSub, Int.reduceMul, Int.reduceEq, Int.reduceToNat, Nat.reduceLT, Nat.reduceAdd, Nat.reduceMul, Nat.reduceSub, g5, hs])
theorem lp_rCarries (bs : List Block) (hl : bs.length < 1000000) (a : Block) (e : Env) (H : Heap) (h0 : Gs.get e 0 = blks bs) (h5 : Gs.get e 5 = .ow 1005) (h6 : Gs.get e 6 = .ptr 6 0) (h7 : Gs.get e 7 = int 0) (hH6 : hget H 6 = some (.box a.cells false)) (hH : hget H 1005 = some (.row true 1 [] 0 true)) :
    Ends T 16004 e H (fun X e' H' => X = .ex 0 ∧ Gs.get e' 5 = .ow 1005 ∧ H' = [(6, .box a.cells false), (1005, .row true 1 (sl (namesOf (fun (b:Block) => rleans b.box a.box) bs)) 0 true)]) := by
  refine (loop_fold (T := T) (key := 16004) (li := l16004) rfl bs (fun (s : List ByteArray) (b : Block) => bif (fun (b:Block) => rleans b.box a.box) b then s ++ [b.name] else s)
    (fun i s e H => Gs.get e 0 = blks bs ∧ Gs.get e 5 = .ow 1005 ∧ Gs.get e 6 = .ptr 6 0 ∧ Gs.get e 7 = int i ∧ hget H 6 = some (.box a.cells false) ∧ hget H 1005 = some (.row true 1 (sl s) 0 true) ∧ s.length ≤ i)
    (fun s X e' H' => X = .ex 0 ∧ Gs.get e' 5 = .ow 1005 ∧ H' = [(6, .box a.cells false), (1005, .row true 1 (sl s) 0 true)]) ?_ ?_ [] e H ⟨h0, h5, h6, h7, hH6, hH, Nat.le_refl _⟩).mono ?_
  · rintro i b s e H hx hi ⟨h0, h5, h6, h7, hH6, hH, hs⟩
    have hx' : (bs.map Block.enc)[i]? = some b.enc := by simp [hx]
    have hfit : fits (s.length + (0 + 1)) 16 = true := fits_of (by omega)
    have hlr := e_rLeans a.box b.box
    have hlr' := e_rLeans b.box a.box
    cases hp : (fun (b:Block) => rleans b.box a.box) b with
    | true =>
      simp only at hp
      simp only [↓eA, eB, reduceIte, Nat.reduceBEq, Int.reduceNeg, Int.reduceLT, Int.reduceLE, Int.reduceAdd, Int.reduceSub, Int.reduceMul, Int.reduceEq, Int.reduceToNat, Nat.reduceLT, Nat.reduceAdd, Nat.reduceMul, Nat.reduceSub, l16004, h0, h5, h6, h7, hH6, hH, hi, hx', hlr, hlr', hp, hfit, List.length_map, wrap_succ (show i < 4611686018427387904 by omega)]
      refine ⟨trivial, trivial, trivial, trivial, trivial, trivial, ?_, ?_⟩
      · simp [sl]
      · simp; omega
    | false =>
      simp only at hp
      simp only [↓eA, eB, reduceIte, Nat.reduceBEq, Int.reduceNeg, Int.reduceLT, Int.reduceLE, Int.reduceAdd, Int.reduceSub, Int.reduceMul, Int.reduceEq, Int.reduceToNat, Nat.reduceLT, Nat.reduceAdd, Nat.reduceMul, Nat.reduceSub, l16004, h0, h5, h6, h7, hH6, hH, hi, hx', hlr, hlr', hp, wrap_succ (show i < 4611686018427387904 by omega)]
      refine ⟨trivial, trivial, trivial, trivial, trivial, trivial, trivial, by omega⟩
  · rintro s e H ⟨h0, h5, h6, h7, hH6, hH, hs⟩
    simp only [↓eA, eB, reduceIte, Nat.reduceBEq, Int.reduceNeg, Int.reduceLT, Int.reduceLE, Int.reduceAdd, Int.reduceSub, Int.reduceMul, Int.reduceEq, Int.reduceToNat, Nat.reduceLT, Nat.reduceAdd, Nat.reduceMul, Nat.reduceSub, l16004, h0, h5, h6, h7, hH6, hH, Nat.lt_irrefl]
    and_intros <;> first | trivial | rfl
  · rintro X e' H' ⟨rfl, g5, rfl⟩
    refine ⟨rfl, g5, ?_⟩
    have key : ∀ (l : List Block) (s : List ByteArray), l.foldl (fun s b => bif (fun (b:Block) => rleans b.box a.box) b then s ++ [b.name] else s) s = s ++ namesOf (fun (b:Block) => rleans b.box a.box) l := by
      intro l
      induction l with
      | nil => intro s; simp [namesOf]
      | cons b r ih =>
        intro s
        rw [List.foldl_cons, ih]
        cases hp : (fun (b:Block) => rleans b.box a.box) b <;> simp only at hp <;> simp [namesOf, hp]
    rw [key]; rfl
theorem e_rCarries (bs : List Block) (hl : bs.length < 1000000) (nm : ByteArray) (a : Block) (ha : bs.find? (named nm) = some a) : L.call 16 [blks bs, .str nm] [] = some (.fz false 1 (sl (sortB (namesOf (fun (b:Block) => rleans b.box a.box) bs))), []) :=
  call_eq rfl rfl (by
    obtain ⟨j, hj, hb⟩ := find_idx _ ha
    have hx : idxOf (named nm) bs = (j : Int) := by unfold idxOf; rw [hj]
    have hi := (List.getElem?_eq_some_iff.1 hb).1
    have hx' : (bs.map Block.enc)[j]? = some a.enc := by simp [hb]
    simp only [↓eA, eB, reduceIte, Nat.reduceBEq, Int.reduceNeg, Int.reduceLT, Int.reduceLE, Int.reduceAdd, Int.reduceSub, Int.reduceMul, Int.reduceEq, Int.reduceToNat, Nat.reduceLT, Nat.reduceAdd, Nat.reduceMul, Nat.reduceSub, c16, e_idx bs hl, hx, hi, hx']
    generalize hE : (lim T).loop 16004 _ _ = R
    obtain ⟨X, e', H', rfl, rfl, g5, rfl⟩ := Ends.at hE (lp_rCarries bs hl a _ _ rfl rfl rfl rfl rfl rfl)
    have hs := e_Sorted true (namesOf (fun (b:Block) => rleans b.box a.box) bs) (by have := namesOf_len (fun (b:Block) => rleans b.box a.box) bs; omega)
    simp only [↓eA, eB, reduceIte, Nat.reduceBEq, Int.reduceNeg, Int.reduceLT, Int.reduceLE, Int.reduceAdd, Int.reduceSub, Int.reduceMul, Int.reduceEq, Int.reduceToNat, Nat.reduceLT, Nat.reduceAdd, Nat.reduceMul, Nat.reduceSub, g5, hs])
/-! The law. -/
theorem names_eq {bs : List Block} {p q : Block → Bool} (h : ∀ b ∈ bs, p b = q b) : namesOf p bs = namesOf q bs := by
  unfold namesOf
  rw [List.filter_congr h]
theorem find_none_all {bs : List Block} (h : bs.find? badBox = none) : ∀ b ∈ bs, boxErr b.box = 0 := by
  intro b hb
  have := List.find?_eq_none.1 h b hb
  simpa [badBox] using this
end Tz
