/- support.find; no conditions. -/
import Derived.Test.YthndcpffehneaaaGreatS62
set_option linter.unusedVariables false
set_option linter.unusedSimpArgs false
set_option linter.unusedSectionVars false
set_option linter.defProp false
set_option linter.deprecated false
set_option maxRecDepth 100000
open Gs Go
namespace Tz.C18
/-! support.find -/
def ents : List Block → List D
  | [] => []
  | b :: r => .str b.name :: b.enc :: ents r
def named (n : ByteArray) (b : Block) : Bool := seq n b.name
theorem mfind_ents (n : ByteArray) : ∀ l, mfind (.str n) (ents l) = some ((l.find? (named n)).map Block.enc)
  | [] => rfl
  | b :: r => by
    simp only [ents, mfind, keyEq, List.find?, named]
    cases h : seq n b.name with
    | true => rfl
    | false => exact mfind_ents n r
theorem mput_ents (b : Block) : ∀ l, l.any (named b.name) = false → mput (.str b.name) b.enc (ents l) = some (ents (l ++ [b]))
  | [], _ => rfl
  | c :: r, h => by
    simp only [List.any_cons, Bool.or_eq_false_iff] at h
    have h1 : seq b.name c.name = false := h.1
    simp only [ents, mput, keyEq, h1, mput_ents b r h.2, List.cons_append]
/-- Whether a list has one name twice, behind others. -/
def dupF : List Block → List Block → Bool
  | _, [] => false
  | s, b :: r => s.any (named b.name) || dupF (s ++ [b]) r
theorem thru_dup : ∀ (r s : List Block), thru (R := Unit) (fun (s : List Block) b => bif s.any (named b.name) then .inl () else .inr (s ++ [b])) r s = bif dupF s r then .inl () else .inr (s ++ r)
  | [], s => by simp [thru, dupF]
  | b :: r, s => by
    simp only [thru, dupF]
    cases h : s.any (named b.name) with
    | true => rfl
    | false => simp only [cond_false, Bool.false_or]; rw [thru_dup r (s ++ [b])]; simp
abbrev zblk : List D := [.str .empty, int 0, int 0, int 0, int 0, int 0, int 0]
def badBox (b : Block) : Bool := !decide (boxErr b.box = 0)
theorem lp_find1 (bs : List Block) (hl : bs.length < 1000000) (nm : ByteArray) (e : Env) (H : Heap) (h0 : Gs.get e 0 = blks bs) (h1 : Gs.get e 1 = .str nm) (h4 : Gs.get e 4 = .ptr 4 0) (h20 : Gs.get e 20 = blks bs) (h21 : Gs.get e 21 = int bs.length) (h22 : Gs.get e 22 = int 0) (hH : hget H 4 = some (.box zblk false)) :
    Ends T 32004 e H (fun X e' H' => match bs.find? badBox with
      | some b => X = .ret ∧ Gs.get e' 4 = .fp zblk 0 ∧ Gs.get e' 5 = int (boxErr b.box)
      | none => X = .ex 0 ∧ Gs.get e' 0 = blks bs ∧ Gs.get e' 1 = .str nm ∧ Gs.get e' 4 = .ptr 4 0 ∧ H' = [(4, .box zblk false)]) := by
  refine (loop_findH (T := T) (key := 32004) (li := l32004) rfl bs badBox (fun i e H => Gs.get e 0 = blks bs ∧ Gs.get e 1 = .str nm ∧ Gs.get e 4 = .ptr 4 0 ∧ Gs.get e 20 = blks bs ∧ Gs.get e 21 = int bs.length ∧ Gs.get e 22 = int i ∧ hget H 4 = some (.box zblk false))
    (fun b X e' H' => X = .ret ∧ Gs.get e' 4 = .fp zblk 0 ∧ Gs.get e' 5 = int (boxErr b.box)) (fun X e' H' => X = .ex 0 ∧ Gs.get e' 0 = blks bs ∧ Gs.get e' 1 = .str nm ∧ Gs.get e' 4 = .ptr 4 0 ∧ H' = [(4, .box zblk false)]) ?_ ?_ e H ⟨h0, h1, h4, h20, h21, h22, hH⟩).mono fun X e' H' h => by cases hf : bs.find? badBox <;> rw [hf] at h <;> exact h
  · rintro i b e H hx hi ⟨h0, h1, h4, h20, h21, h22, hH⟩
    have hx' : (bs.map Block.enc)[i]? = some b.enc := by simp [hx]
    simp only [↓eA, eB, seval, l32004, h0, h1, h4, h20, h21, h22, hH, hi, hx', e_bCheck b.box, wrap_succ (show i < 4611686018427387904 by omega)]
    cases hb : badBox b <;> simp only [badBox, Bool.not_eq_true', Bool.not_eq_false'] at hb <;> simp only [↓eA, eB, seval, hb]
    · and_intros <;> first | trivial | rfl
    · and_intros <;> first | trivial | rfl
  · rintro e H ⟨h0, h1, h4, h20, h21, h22, hH⟩
    simp only [↓eA, eB, seval, l32004, h0, h1, h4, h20, h21, h22, hH, Nat.lt_irrefl]
    and_intros <;> first | trivial | rfl
theorem lp_find2 (bs : List Block) (hl : bs.length < 1000000) (nm : ByteArray) (e : Env) (H : Heap) (h1 : Gs.get e 1 = .str nm) (h4 : Gs.get e 4 = .ptr 4 0) (h9 : Gs.get e 9 = .mp 34) (h35 : Gs.get e 35 = blks bs) (h36 : Gs.get e 36 = int bs.length) (h37 : Gs.get e 37 = int 0) (hH : hget H 4 = some (.box zblk false)) (hM : hget H 34 = some (.mapB [] false)) :
    Ends T 32012 e H (fun X e' H' => match dupF [] bs with
      | true => X = .ret ∧ Gs.get e' 4 = .fp zblk 0 ∧ Gs.get e' 5 = int 5
      | false => X = .ex 2 ∧ Gs.get e' 1 = .str nm ∧ Gs.get e' 4 = .ptr 4 0 ∧ Gs.get e' 9 = .mp 34 ∧ H' = [(4, .box zblk false), (34, .mapB (ents bs) false)]) := by
  refine (loop_thru (T := T) (key := 32012) (li := l32012) rfl (fun (s : List Block) b => bif s.any (named b.name) then .inl () else .inr (s ++ [b])) bs
    (fun i s e H => Gs.get e 1 = .str nm ∧ Gs.get e 4 = .ptr 4 0 ∧ Gs.get e 9 = .mp 34 ∧ Gs.get e 35 = blks bs ∧ Gs.get e 36 = int bs.length ∧ Gs.get e 37 = int i ∧ hget H 4 = some (.box zblk false) ∧ hget H 34 = some (.mapB (ents s) false))
    (fun _ X e' H' => X = .ret ∧ Gs.get e' 4 = .fp zblk 0 ∧ Gs.get e' 5 = int 5) (fun s X e' H' => X = .ex 2 ∧ Gs.get e' 1 = .str nm ∧ Gs.get e' 4 = .ptr 4 0 ∧ Gs.get e' 9 = .mp 34 ∧ H' = [(4, .box zblk false), (34, .mapB (ents s) false)]) ?_ ?_ ?_ bs [] [] e H rfl ⟨h1, h4, h9, h35, h36, h37, hH, hM⟩).mono fun X e' H' h => ?_
  · rintro i b s s' e H hx ⟨h1, h4, h9, h35, h36, h37, hH, hM⟩ hf
    have hi := (List.getElem?_eq_some_iff.1 hx).1
    have hx' : (bs.map Block.enc)[i]? = some b.enc := by simp [hx]
    have hn : s.any (named b.name) = false := by cases hb : s.any (named b.name) <;> simp_all
    rw [hn] at hf
    injection hf with hf; subst hf
    have hm : mfind (.str b.name) (ents s) = some none := by
      rw [mfind_ents]
      rw [any_find] at hn
      cases hq : s.find? (named b.name) with
      | none => rfl
      | some c => rw [hq] at hn; cases hn
    have hp := mput_ents b s hn
    simp only [↓eA, eB, seval, l32012, h1, h4, h9, h35, h36, h37, hH, hM, hi, hx', hm, hp, wrap_succ (show i < 4611686018427387904 by omega)]
    and_intros <;> first | trivial | rfl
  · rintro i b s r e H hx ⟨h1, h4, h9, h35, h36, h37, hH, hM⟩ hf
    have hi := (List.getElem?_eq_some_iff.1 hx).1
    have hx' : (bs.map Block.enc)[i]? = some b.enc := by simp [hx]
    have hn : s.any (named b.name) = true := by cases hb : s.any (named b.name) <;> simp_all
    have hm : ∃ c : Block, mfind (.str b.name) (ents s) = some (some c.enc) := by
      rw [mfind_ents]
      rw [any_find] at hn
      cases hq : s.find? (named b.name) with
      | none => rw [hq] at hn; cases hn
      | some c => exact ⟨c, rfl⟩
    obtain ⟨c, hm⟩ := hm
    simp only [↓eA, eB, seval, l32012, h1, h4, h9, h35, h36, h37, hH, hM, hi, hx', hm]
    and_intros <;> first | trivial | rfl
  · rintro s e H ⟨h1, h4, h9, h35, h36, h37, hH, hM⟩
    simp only [↓eA, eB, seval, l32012, h1, h4, h9, h35, h36, h37, hH, hM, Nat.lt_irrefl]
    and_intros <;> first | trivial | rfl
  · rw [thru_dup] at h
    cases hd : dupF [] bs <;> rw [hd] at h <;> exact h
def findR (bs : List Block) (nm : ByteArray) : Int × List D := bif decide (256 < (bs.length : Int)) then (7, zblk) else match bs.find? badBox with
  | some b => (boxErr b.box, zblk)
  | none => bif dupF [] bs then (5, zblk) else match bs.find? (named nm) with
    | none => (3, zblk)
    | some b => (0, [.str b.name, int b.box.x0, int b.box.y0, int b.box.z0, int b.box.x1, int b.box.y1, int b.box.z1])
theorem e_find (bs : List Block) (hl : bs.length < 1000000) (nm : ByteArray) : L.call 32 [blks bs, .str nm] [] = some (.tup [.agg (findR bs nm).2, int (findR bs nm).1], []) :=
  call_eq rfl rfl (by
    unfold findR
    simp only [↓eA, eB, seval, c32]
    cases hlen : decide (256 < (bs.length : Int)) with
    | true => simp only [↓eA, eB, seval]
    | false =>
    simp only [↓eA, eB, seval]
    generalize hE : (lim T).loop 32004 _ _ = R
    obtain ⟨X, e', H', rfl, hp⟩ := Ends.at hE (lp_find1 bs hl nm _ _ rfl rfl rfl rfl rfl rfl rfl)
    cases hf : bs.find? badBox with
    | some b =>
      rw [hf] at hp
      obtain ⟨rfl, g4, g5⟩ := hp
      simp only [↓eA, eB, seval, g4, g5]
    | none =>
    rw [hf] at hp
    obtain ⟨rfl, g0, g1, g4, rfl⟩ := hp
    simp only [↓eA, eB, seval, g0, g1, g4]
    generalize hE : (lim T).loop 32012 _ _ = R
    obtain ⟨X, e', H', rfl, hp⟩ := Ends.at hE (lp_find2 bs hl nm _ _ (by simp only [↓eA, eB, seval, g1]) (by simp only [↓eA, eB, seval, g4]) (by simp only [↓eA, eB, seval]) (by simp only [↓eA, eB, seval]) (by simp only [↓eA, eB, seval]) (by simp only [↓eA, eB, seval]) rfl rfl)
    cases hd : dupF [] bs with
    | true =>
      rw [hd] at hp
      obtain ⟨rfl, g4, g5⟩ := hp
      simp only [↓eA, eB, seval, g4, g5]
    | false =>
    rw [hd] at hp
    obtain ⟨rfl, g1, g4, g9, rfl⟩ := hp
    have hm := mfind_ents nm bs
    cases hn : bs.find? (named nm) with
    | none =>
      rw [hn] at hm
      simp only [Option.map_none] at hm
      simp only [↓eA, eB, seval, g1, g4, g9, hm]
    | some b =>
      rw [hn] at hm
      simp only [Option.map_some] at hm
      simp only [↓eA, eB, seval, g1, g4, g9, hm])
end Tz.C18
