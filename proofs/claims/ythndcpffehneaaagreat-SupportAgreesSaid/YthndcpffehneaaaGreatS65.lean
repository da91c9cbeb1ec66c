/- The reference: index and Check; no conditions. -/
import Derived.Test.YthndcpffehneaaaGreatS64
set_option linter.unusedVariables false
set_option linter.unusedSimpArgs false
set_option linter.unusedSectionVars false
set_option linter.defProp false
set_option linter.deprecated false
set_option maxRecDepth 100000
open Gs Go
namespace Tz.C18
/-! gangsawref18: index, Check. -/
theorem lp_idx (bs : List Block) (hl : bs.length < 1000000) (nm : ByteArray) (e : Env) (H : Heap) (h0 : Gs.get e 0 = blks bs) (h1 : Gs.get e 1 = .str nm) (h5 : Gs.get e 5 = int 0) (hH : H = []) :
    Ends T 38002 e H (fun X e' H' => match bs.findIdx? (named nm) with | some j => X = .ret ∧ Gs.get e' 4 = int j | none => X = .ex 0) := by
  refine (loop_thru (T := T) (key := 38002) (li := l38002) rfl (fun (i : Nat) (b : Block) => bif named nm b then .inl i else .inr (i + 1)) bs
    (fun i s e H => s = i ∧ Gs.get e 0 = blks bs ∧ Gs.get e 1 = .str nm ∧ Gs.get e 5 = int i ∧ H = [])
    (fun i X e' H' => X = .ret ∧ Gs.get e' 4 = int i) (fun s X e' H' => X = .ex 0) ?_ ?_ ?_ bs [] 0 e H rfl ⟨rfl, h0, h1, h5, hH⟩).mono fun X e' H' h => ?_
  · rintro i b s s' e H hx ⟨rfl, h0, h1, h5, rfl⟩ hf
    have hi := (List.getElem?_eq_some_iff.1 hx).1
    have hx' : (bs.map Block.enc)[s]? = some b.enc := by simp [hx]
    have hn : named nm b = false := by cases hb : named nm b <;> simp_all
    rw [hn] at hf
    injection hf with hf; subst hf
    have hq : seq b.name nm = false := by rw [seq_comm]; exact hn
    simp only [↓eA, eB, reduceIte, Nat.reduceBEq, Int.reduceNeg, Int.reduceLT, Int.reduceLE, Int.reduceAdd, Int.reduceSub, Int.reduceMul, Int.reduceEq, Int.reduceToNat, Nat.reduceLT, Nat.reduceAdd, Nat.reduceMul, Nat.reduceSub, l38002, h0, h1, h5, hi, hx', hq, wrap_succ (show s < 4611686018427387904 by omega)]
    and_intros <;> first | trivial | rfl
  · rintro i b s r e H hx ⟨rfl, h0, h1, h5, rfl⟩ hf
    have hi := (List.getElem?_eq_some_iff.1 hx).1
    have hx' : (bs.map Block.enc)[s]? = some b.enc := by simp [hx]
    have hn : named nm b = true := by cases hb : named nm b <;> simp_all
    rw [hn] at hf
    injection hf with hf; subst hf
    have hq : seq b.name nm = true := by rw [seq_comm]; exact hn
    simp only [↓eA, eB, reduceIte, Nat.reduceBEq, Int.reduceNeg, Int.reduceLT, Int.reduceLE, Int.reduceAdd, Int.reduceSub, Int.reduceMul, Int.reduceEq, Int.reduceToNat, Nat.reduceLT, Nat.reduceAdd, Nat.reduceMul, Nat.reduceSub, l38002, h0, h1, h5, hi, hx', hq]
    and_intros <;> first | trivial | rfl
  · rintro s e H ⟨rfl, h0, h1, h5, rfl⟩
    simp only [↓eA, eB, reduceIte, Nat.reduceBEq, Int.reduceNeg, Int.reduceLT, Int.reduceLE, Int.reduceAdd, Int.reduceSub, Int.reduceMul, Int.reduceEq, Int.reduceToNat, Nat.reduceLT, Nat.reduceAdd, Nat.reduceMul, Nat.reduceSub, l38002, h0, h1, h5, Nat.lt_irrefl]
    and_intros <;> first | trivial | rfl
  · rw [thru_idx] at h
    cases hd : bs.findIdx? (named nm) <;> rw [hd] at h
    · exact h
    · simpa using h
theorem e_idx (bs : List Block) (hl : bs.length < 1000000) (nm : ByteArray) : L.call 38 [blks bs, .str nm] [] = some (int (idxOf (named nm) bs), []) :=
  call_eq rfl rfl (by
    simp only [↓eA, eB, reduceIte, Nat.reduceBEq, Int.reduceNeg, Int.reduceLT, Int.reduceLE, Int.reduceAdd, Int.reduceSub, Int.reduceMul, Int.reduceEq, Int.reduceToNat, Nat.reduceLT, Nat.reduceAdd, Nat.reduceMul, Nat.reduceSub, c38]
    generalize hE : (lim T).loop 38002 _ _ = R
    obtain ⟨X, e', H', rfl, hp⟩ := Ends.at hE (lp_idx bs hl nm _ _ rfl rfl rfl rfl)
    unfold idxOf
    cases hf : bs.findIdx? (named nm) with
    | some j => rw [hf] at hp; obtain ⟨rfl, g4⟩ := hp; simp only [↓eA, eB, reduceIte, Nat.reduceBEq, Int.reduceNeg, Int.reduceLT, Int.reduceLE, Int.reduceAdd, Int.reduceSub, Int.reduceMul, Int.reduceEq, Int.reduceToNat, Nat.reduceLT, Nat.reduceAdd, Nat.reduceMul, Nat.reduceSub, g4]
    | none => rw [hf] at hp; subst hp; simp only [↓eA, eB, reduceIte, Nat.reduceBEq, Int.reduceNeg, Int.reduceLT, Int.reduceLE, Int.reduceAdd, Int.reduceSub, Int.reduceMul, Int.reduceEq, Int.reduceToNat, Nat.reduceLT, Nat.reduceAdd, Nat.reduceMul, Nat.reduceSub])
theorem lp_rck1 (bs : List Block) (hl : bs.length < 1000000) (nm : ByteArray) (e : Env) (H : Heap) (h0 : Gs.get e 0 = blks bs) (h1 : Gs.get e 1 = .str nm) (h5 : Gs.get e 5 = int 0) (hH : H = []) :
    Ends T 13004 e H (fun X e' H' => match bs.find? badBox with
      | some b => X = .ret ∧ Gs.get e' 4 = int (boxErr b.box)
      | none => X = .ex 0 ∧ Gs.get e' 0 = blks bs ∧ Gs.get e' 1 = .str nm ∧ H' = []) := by
  refine (loop_findH (T := T) (key := 13004) (li := l13004) rfl bs badBox (fun i e H => Gs.get e 0 = blks bs ∧ Gs.get e 1 = .str nm ∧ Gs.get e 5 = int i ∧ H = [])
    (fun b X e' H' => X = .ret ∧ Gs.get e' 4 = int (boxErr b.box)) (fun X e' H' => X = .ex 0 ∧ Gs.get e' 0 = blks bs ∧ Gs.get e' 1 = .str nm ∧ H' = []) ?_ ?_ e H ⟨h0, h1, h5, hH⟩).mono fun X e' H' h => by cases hf : bs.find? badBox <;> rw [hf] at h <;> exact h
  · rintro i b e H hx hi ⟨h0, h1, h5, rfl⟩
    have hx' : (bs.map Block.enc)[i]? = some b.enc := by simp [hx]
    simp only [↓eA, eB, reduceIte, Nat.reduceBEq, Int.reduceNeg, Int.reduceLT, Int.reduceLE, Int.reduceAdd, Int.reduceSub, Int.reduceMul, Int.reduceEq, Int.reduceToNat, Nat.reduceLT, Nat.reduceAdd, Nat.reduceMul, Nat.reduceSub, l13004, h0, h1, h5, hi, hx', e_rbCheck b.box, wrap_succ (show i < 4611686018427387904 by omega)]
    cases hb : badBox b <;> simp only [badBox, Bool.not_eq_true', Bool.not_eq_false'] at hb <;> simp only [↓eA, eB, reduceIte, Nat.reduceBEq, Int.reduceNeg, Int.reduceLT, Int.reduceLE, Int.reduceAdd, Int.reduceSub, Int.reduceMul, Int.reduceEq, Int.reduceToNat, Nat.reduceLT, Nat.reduceAdd, Nat.reduceMul, Nat.reduceSub, hb]
    · and_intros <;> first | trivial | rfl
    · and_intros <;> first | trivial | rfl
  · rintro e H ⟨h0, h1, h5, rfl⟩
    simp only [↓eA, eB, reduceIte, Nat.reduceBEq, Int.reduceNeg, Int.reduceLT, Int.reduceLE, Int.reduceAdd, Int.reduceSub, Int.reduceMul, Int.reduceEq, Int.reduceToNat, Nat.reduceLT, Nat.reduceAdd, Nat.reduceMul, Nat.reduceSub, l13004, h0, h1, h5, Nat.lt_irrefl]
    and_intros <;> first | trivial | rfl
theorem findIdx_pre (p : Block → Bool) (b : Block) (hb : p b = true) (r : List Block) : ∀ pre : List Block, idxOf p (pre ++ b :: r) = (pre.length : Int) ↔ pre.any p = false
  | [] => by simp [idxOf, List.findIdx?_cons, hb]
  | c :: pre => by
    have ih := findIdx_pre p b hb r pre
    unfold idxOf at ih ⊢
    simp only [List.cons_append, List.findIdx?_cons, List.any_cons]
    cases hc : p c with
    | true => simp; omega
    | false =>
      simp only [Bool.false_or]
      rw [← ih]
      cases (pre ++ b :: r).findIdx? p with
      | none => simp; omega
      | some j => simp
theorem thru_dup2 (bs : List Block) : ∀ (r pre : List Block), bs = pre ++ r → thru (R := Unit) (fun (i : Nat) b => bif !decide (idxOf (named b.name) bs = (i : Int)) then .inl () else .inr (i + 1)) r pre.length = bif dupF pre r then .inl () else .inr bs.length
  | [], pre, h => by rw [h]; simp [thru, dupF]
  | b :: r, pre, h => by
    have hi := findIdx_pre (named b.name) b (seq_refl _) r pre
    rw [← h] at hi
    simp only [thru, dupF]
    cases hp : pre.any (named b.name) with
    | true =>
      have : ¬ idxOf (named b.name) bs = (pre.length : Int) := fun e => by rw [hi.1 e] at hp; cases hp
      rw [decide_eq_false this]; rfl
    | false =>
      rw [decide_eq_true (hi.2 hp)]
      simp only [Bool.not_true, cond_false, Bool.false_or]
      have := thru_dup2 bs r (pre ++ [b]) (by rw [h]; simp)
      rw [List.length_append] at this
      exact this
theorem lp_rck2 (bs : List Block) (hl : bs.length < 1000000) (nm : ByteArray) (e : Env) (H : Heap) (h0 : Gs.get e 0 = blks bs) (h1 : Gs.get e 1 = .str nm) (h7 : Gs.get e 7 = int 0) (hH : H = []) :
    Ends T 13010 e H (fun X e' H' => match dupF [] bs with
      | true => X = .ret ∧ Gs.get e' 4 = int 5
      | false => X = .ex 2 ∧ Gs.get e' 0 = blks bs ∧ Gs.get e' 1 = .str nm ∧ H' = []) := by
  refine (loop_thru (T := T) (key := 13010) (li := l13010) rfl (fun (i : Nat) (b : Block) => bif !decide (idxOf (named b.name) bs = (i : Int)) then .inl () else .inr (i + 1)) bs
    (fun i s e H => s = i ∧ Gs.get e 0 = blks bs ∧ Gs.get e 1 = .str nm ∧ Gs.get e 7 = int i ∧ H = [])
    (fun _ X e' H' => X = .ret ∧ Gs.get e' 4 = int 5) (fun _ X e' H' => X = .ex 2 ∧ Gs.get e' 0 = blks bs ∧ Gs.get e' 1 = .str nm ∧ H' = []) ?_ ?_ ?_ bs [] 0 e H rfl ⟨rfl, h0, h1, h7, hH⟩).mono fun X e' H' h => ?_
  · rintro i b s s' e H hx ⟨rfl, h0, h1, h7, rfl⟩ hf
    have hi := (List.getElem?_eq_some_iff.1 hx).1
    have hx' : (bs.map Block.enc)[s]? = some b.enc := by simp [hx]
    have hn : decide (idxOf (named b.name) bs = (s : Int)) = true := by cases hb : decide (idxOf (named b.name) bs = (s : Int)) <;> simp_all
    rw [hn] at hf
    injection hf with hf; subst hf
    simp only [↓eA, eB, reduceIte, Nat.reduceBEq, Int.reduceNeg, Int.reduceLT, Int.reduceLE, Int.reduceAdd, Int.reduceSub, Int.reduceMul, Int.reduceEq, Int.reduceToNat, Nat.reduceLT, Nat.reduceAdd, Nat.reduceMul, Nat.reduceSub, l13010, h0, h1, h7, hi, hx', e_idx bs hl, hn, wrap_succ (show s < 4611686018427387904 by omega)]
    and_intros <;> first | trivial | rfl
  · rintro i b s r e H hx ⟨rfl, h0, h1, h7, rfl⟩ hf
    have hi := (List.getElem?_eq_some_iff.1 hx).1
    have hx' : (bs.map Block.enc)[s]? = some b.enc := by simp [hx]
    have hn : decide (idxOf (named b.name) bs = (s : Int)) = false := by cases hb : decide (idxOf (named b.name) bs = (s : Int)) <;> simp_all
    simp only [↓eA, eB, reduceIte, Nat.reduceBEq, Int.reduceNeg, Int.reduceLT, Int.reduceLE, Int.reduceAdd, Int.reduceSub, Int.reduceMul, Int.reduceEq, Int.reduceToNat, Nat.reduceLT, Nat.reduceAdd, Nat.reduceMul, Nat.reduceSub, l13010, h0, h1, h7, hi, hx', e_idx bs hl, hn]
    and_intros <;> first | trivial | rfl
  · rintro s e H ⟨rfl, h0, h1, h7, rfl⟩
    simp only [↓eA, eB, reduceIte, Nat.reduceBEq, Int.reduceNeg, Int.reduceLT, Int.reduceLE, Int.reduceAdd, Int.reduceSub, Int.reduceMul, Int.reduceEq, Int.reduceToNat, Nat.reduceLT, Nat.reduceAdd, Nat.reduceMul, Nat.reduceSub, l13010, h0, h1, h7, Nat.lt_irrefl]
    and_intros <;> first | trivial | rfl
  · rw [show (0 : Nat) = ([] : List Block).length from rfl, thru_dup2 bs bs [] rfl] at h
    cases hd : dupF [] bs <;> rw [hd] at h <;> exact h
theorem idx_neg (p : Block → Bool) (bs : List Block) : decide (idxOf p bs < 0) = (bs.find? p).isNone := by
  unfold idxOf
  induction bs with
  | nil => rfl
  | cons b r ih =>
    rw [List.findIdx?_cons, List.find?_cons]
    cases p b with
    | true => simp
    | false =>
      simp only
      rw [← ih]
      cases r.findIdx? p with
      | none => simp
      | some j => simp; omega
theorem e_rCheck (bs : List Block) (hl : bs.length < 1000000) (nm : ByteArray) : L.call 13 [blks bs, .str nm] [] = some (int (findR bs nm).1, []) :=
  call_eq rfl rfl (by
    unfold findR
    simp only [↓eA, eB, reduceIte, Nat.reduceBEq, Int.reduceNeg, Int.reduceLT, Int.reduceLE, Int.reduceAdd, Int.reduceSub, Int.reduceMul, Int.reduceEq, Int.reduceToNat, Nat.reduceLT, Nat.reduceAdd, Nat.reduceMul, Nat.reduceSub, c13]
    cases hlen : decide (256 < (bs.length : Int)) with
    | true => simp only [↓eA, eB, reduceIte, Nat.reduceBEq, Int.reduceNeg, Int.reduceLT, Int.reduceLE, Int.reduceAdd, Int.reduceSub, Int.reduceMul, Int.reduceEq, Int.reduceToNat, Nat.reduceLT, Nat.reduceAdd, Nat.reduceMul, Nat.reduceSub]
    | false =>
    simp only [↓eA, eB, reduceIte, Nat.reduceBEq, Int.reduceNeg, Int.reduceLT, Int.reduceLE, Int.reduceAdd, Int.reduceSub, Int.reduceMul, Int.reduceEq, Int.reduceToNat, Nat.reduceLT, Nat.reduceAdd, Nat.reduceMul, Nat.reduceSub]
    generalize hE : (lim T).loop 13004 _ _ = R
    obtain ⟨X, e', H', rfl, hp⟩ := Ends.at hE (lp_rck1 bs hl nm _ _ rfl rfl rfl rfl)
    cases hf : bs.find? badBox with
    | some b =>
      rw [hf] at hp
      obtain ⟨rfl, g4⟩ := hp
      simp only [↓eA, eB, reduceIte, Nat.reduceBEq, Int.reduceNeg, Int.reduceLT, Int.reduceLE, Int.reduceAdd, Int.reduceSub, Int.reduceMul, Int.reduceEq, Int.reduceToNat, Nat.reduceLT, Nat.reduceAdd, Nat.reduceMul, Nat.reduceSub, g4]
    | none =>
    rw [hf] at hp
    obtain ⟨rfl, g0, g1, rfl⟩ := hp
    simp only [↓eA, eB, reduceIte, Nat.reduceBEq, Int.reduceNeg, Int.reduceLT, Int.reduceLE, Int.reduceAdd, Int.reduceSub, Int.reduceMul, Int.reduceEq, Int.reduceToNat, Nat.reduceLT, Nat.reduceAdd, Nat.reduceMul, Nat.reduceSub, g0, g1]
    generalize hE : (lim T).loop 13010 _ _ = R
    obtain ⟨X, e', H', rfl, hp⟩ := Ends.at hE (lp_rck2 bs hl nm _ _ (by simp only [↓eA, eB, reduceIte, Nat.reduceBEq, Int.reduceNeg, Int.reduceLT, Int.reduceLE, Int.reduceAdd, Int.reduceSub, Int.reduceMul, Int.reduceEq, Int.reduceToNat, Nat.reduceLT, Nat.reduceAdd, Nat.reduceMul, Nat.reduceSub, g0]) (by simp only [↓eA, eB, reduceIte, Nat.reduceBEq, Int.reduceNeg, Int.reduceLT, Int.reduceLE, Int.reduceAdd, Int.reduceSub, Int.reduceMul, Int.reduceEq, Int.reduceToNat, Nat.reduceLT, Nat.reduceAdd, Nat.reduceMul, Nat.reduceSub, g1]) (by simp only [↓eA, eB, reduceIte, Nat.reduceBEq, Int.reduceNeg, Int.reduceLT, Int.reduceLE, Int.reduceAdd, Int.reduceSub, Int.reduceMul, Int.reduceEq, Int.reduceToNat, Nat.reduceLT, Nat.reduceAdd, Nat.reduceMul, Nat.reduceSub]) rfl)
    cases hd : dupF [] bs with
    | true =>
      rw [hd] at hp
      obtain ⟨rfl, g4⟩ := hp
      simp only [↓eA, eB, reduceIte, Nat.reduceBEq, Int.reduceNeg, Int.reduceLT, Int.reduceLE, Int.reduceAdd, Int.reduceSub, Int.reduceMul, Int.reduceEq, Int.reduceToNat, Nat.reduceLT, Nat.reduceAdd, Nat.reduceMul, Nat.reduceSub, g4]
    | false =>
    rw [hd] at hp
    obtain ⟨rfl, g0, g1, rfl⟩ := hp
    have hi := idx_neg (named nm) bs
    cases hn : bs.find? (named nm) with
    | none =>
      rw [hn] at hi
      simp only [↓eA, eB, reduceIte, Nat.reduceBEq, Int.reduceNeg, Int.reduceLT, Int.reduceLE, Int.reduceAdd, Int.reduceSub, Int.reduceMul, Int.reduceEq, Int.reduceToNat, Nat.reduceLT, Nat.reduceAdd, Nat.reduceMul, Nat.reduceSub, g0, g1, e_idx bs hl, hi, Option.isNone_none]
    | some b =>
      rw [hn] at hi
      simp only [↓eA, eB, reduceIte, Nat.reduceBEq, Int.reduceNeg, Int.reduceLT, Int.reduceLE, Int.reduceAdd, Int.reduceSub, Int.reduceMul, Int.reduceEq, Int.reduceToNat, Nat.reduceLT, Nat.reduceAdd, Nat.reduceMul, Nat.reduceSub, g0, g1, e_idx bs hl, hi, Option.isNone_some])
end Tz.C18
