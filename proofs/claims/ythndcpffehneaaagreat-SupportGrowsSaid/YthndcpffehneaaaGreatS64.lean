/- support.LeansOn and Carries; no conditions. -/
import Derived.Test.YthndcpffehneaaaGreatS63
import Derived.Test.YthndcpffehneaaaGreatGsF
set_option linter.unusedVariables false
set_option linter.unusedSimpArgs false
set_option linter.unusedSectionVars false
set_option linter.defProp false
set_option linter.deprecated false
set_option maxRecDepth 100000
open Gs Go
namespace Tz.C18
/-! support.over, names, LeansOn, Carries. -/
def over2 (a b : Box) : Bool := decide (max a.x0 b.x0 < min a.x1 b.x1) && decide (max a.y0 b.y0 < min a.y1 b.y1)
theorem e_over (a b : Box) : L.call 35 [a.enc, b.enc] [] = some (.bool (over2 a b), []) :=
  call_eq rfl rfl (by simp only [↓eA, eB, seval, c35]; rfl)
abbrev Block.cells (b : Block) : List D := [.str b.name, int b.box.x0, int b.box.y0, int b.box.z0, int b.box.x1, int b.box.y1, int b.box.z1]
def leansB (a b : Box) : Bool := decide (a.z0 = b.z1) && over2 a b
theorem e_leans1 (a b : Block) : L.call 34 [b.enc, .fp a.cells 0] [] = some (.bool (leansB a.box b.box), []) :=
  call_eq rfl rfl (by simp only [↓eA, eB, seval, c34, e_over a.box b.box]; rfl)
theorem over_comm (a b : Box) : over2 a b = over2 b a := by
  unfold over2
  rw [Int.max_comm a.x0, Int.max_comm a.y0, Int.min_comm a.x1, Int.min_comm a.y1]
theorem e_carries1 (a b : Block) : L.call 36 [b.enc, .fp a.cells 0] [] = some (.bool (leansB b.box a.box), []) :=
  call_eq rfl rfl (by simp only [↓eA, eB, seval, c36, e_over a.box b.box, over_comm a.box b.box]; rfl)
theorem e_sort (nz : Bool) (l : List ByteArray) (hb : l.length < 4611686018427387904) : L.call 63 [.ow 500000] [(500000, .row nz 1 (l.map .str) 0 false)] = some (.tup [], [(500000, .row nz 1 ((sortB l).map .str) 0 false)]) :=
  ext_eq (s := sortStrX) rfl (by simp [sortStrX, hget, strs_map, hset, hb])
def namesOf (p : Block → Bool) (bs : List Block) : List ByteArray := (bs.filter p).map (·.name)
theorem namesOf_len (p : Block → Bool) (bs : List Block) : (namesOf p bs).length ≤ bs.length := by
  unfold namesOf; rw [List.length_map]; exact List.length_filter_le _ _
theorem lp_names (bs : List Block) (hl : bs.length < 1000000) (g : Nat) (cs : List D) (p : Block → Bool) (hg : ∀ b ∈ bs, L.call g [b.enc, .fp cs 0] [] = some (.bool (p b), [])) (e : Env) (H : Heap) (h1 : Gs.get e 1 = .fn g [.fp cs 0]) (h5 : Gs.get e 5 = .ow 1005) (h8 : Gs.get e 8 = blks bs) (h9 : Gs.get e 9 = int bs.length) (h10 : Gs.get e 10 = int 0) (hH : hget H 1005 = some (.row true 1 [] 0 true)) :
    Ends T 33003 e H (fun X e' H' => X = .ex 0 ∧ Gs.get e' 5 = .ow 1005 ∧ H' = [(1005, .row true 1 ((namesOf p bs).map .str) 0 true)]) := by
  refine (loop_fold (T := T) (key := 33003) (li := l33003) rfl bs (fun (a : List ByteArray) (b : Block) => bif p b then a ++ [b.name] else a)
    (fun i a e H => Gs.get e 1 = .fn g [.fp cs 0] ∧ Gs.get e 5 = .ow 1005 ∧ Gs.get e 8 = blks bs ∧ Gs.get e 9 = int bs.length ∧ Gs.get e 10 = int i ∧ hget H 1005 = some (.row true 1 (a.map .str) 0 true) ∧ a.length ≤ i)
    (fun a X e' H' => X = .ex 0 ∧ Gs.get e' 5 = .ow 1005 ∧ H' = [(1005, .row true 1 (a.map .str) 0 true)]) ?_ ?_ [] e H ⟨h1, h5, h8, h9, h10, hH, Nat.le_refl _⟩).mono ?_
  · rintro i b a e H hx hi ⟨h1, h5, h8, h9, h10, hH, ha⟩
    have hx' : (bs.map Block.enc)[i]? = some b.enc := by simp [hx]
    have hfit : fits (a.length + (0 + 1)) 16 = true := fits_of (by omega)
    have hc := hg b (List.mem_of_getElem? hx)
    cases hp : p b with
    | true =>
      rw [hp] at hc
      simp only [↓eA, eB, seval, l33003, h1, h5, h8, h9, h10, hH, hi, hx', hc, hfit, List.length_map, wrap_succ (show i < 4611686018427387904 by omega)]
      refine ⟨trivial, trivial, trivial, trivial, trivial, trivial, ?_, ?_⟩
      · simp
      · simp; omega
    | false =>
      rw [hp] at hc
      simp only [↓eA, eB, seval, l33003, h1, h5, h8, h9, h10, hH, hi, hx', hc, wrap_succ (show i < 4611686018427387904 by omega)]
      refine ⟨trivial, trivial, trivial, trivial, trivial, trivial, trivial, by omega⟩
  · rintro a e H ⟨h1, h5, h8, h9, h10, hH, ha⟩
    simp only [↓eA, eB, seval, l33003, h1, h5, h8, h9, h10, hH, Nat.lt_irrefl]
    and_intros <;> first | trivial | rfl
  · rintro X e' H' ⟨rfl, g5, rfl⟩
    refine ⟨rfl, g5, ?_⟩
    have key : ∀ (l : List Block) (a : List ByteArray), l.foldl (fun a b => bif p b then a ++ [b.name] else a) a = a ++ namesOf p l := by
      intro l
      induction l with
      | nil => intro a; simp [namesOf]
      | cons b r ih =>
        intro a
        rw [List.foldl_cons, ih]
        cases hp : p b <;> simp [namesOf, hp]
    rw [key]; rfl
theorem e_names (bs : List Block) (hl : bs.length < 1000000) (g : Nat) (cs : List D) (p : Block → Bool) (hg : ∀ b ∈ bs, L.call g [b.enc, .fp cs 0] [] = some (.bool (p b), [])) :
    L.call 33 [blks bs, .fn g [.fp cs 0]] [] = some (.fz true 1 ((sortB (namesOf p bs)).map .str), []) :=
  call_eq rfl rfl (by
    simp only [↓eA, eB, seval, c33]
    generalize hE : (lim T).loop 33003 _ _ = R
    obtain ⟨X, e', H', rfl, rfl, g5, rfl⟩ := Ends.at hE (lp_names bs hl g cs p hg _ _ rfl rfl rfl rfl rfl rfl)
    have hs := e_sort true (namesOf p bs) (by have := namesOf_len p bs; omega)
    simp only [↓eA, eB, seval, g5, hs, killE_nil])
theorem findR_cases (bs : List Block) (nm : ByteArray) : ((findR bs nm).2 = zblk ∧ decide ((findR bs nm).1 = 0) = false) ∨ (∃ b, bs.find? (named nm) = some b ∧ bs.find? badBox = none ∧ dupF [] bs = false ∧ decide (256 < (bs.length : Int)) = false ∧ findR bs nm = (0, b.cells)) := by
  unfold findR
  cases hlen : decide (256 < (bs.length : Int)) with
  | true => exact .inl ⟨rfl, rfl⟩
  | false =>
  simp only [cond_false]
  cases hf : bs.find? badBox with
  | some b =>
    have := List.find?_some hf
    simp only [badBox, Bool.not_eq_true'] at this
    exact .inl ⟨rfl, this⟩
  | none =>
  cases hd : dupF [] bs with
  | true => exact .inl ⟨rfl, rfl⟩
  | false =>
  simp only [cond_false]
  cases hn : bs.find? (named nm) with
  | none => exact .inl ⟨rfl, rfl⟩
  | some b => exact .inr ⟨b, by first | rfl | trivial, by first | rfl | trivial, by first | rfl | trivial, by first | rfl | trivial, rfl⟩
theorem e_LeansOn_bad (bs : List Block) (hl : bs.length < 1000000) (nm : ByteArray) (hz : (findR bs nm).2 = zblk) (h : decide ((findR bs nm).1 = 0) = false) : L.call 11 [blks bs, .str nm] [] = some (.tup [.fz true 1 [], int (findR bs nm).1], []) :=
  call_eq rfl rfl (by
    have hf := e_find bs hl nm
    rw [hz] at hf
    generalize (findR bs nm).1 = e at h hf
    simp only [↓eA, eB, seval, c11, hf, h])
theorem e_LeansOn_ok (bs : List Block) (hl : bs.length < 1000000) (nm : ByteArray) (a : Block) (hz : findR bs nm = (0, a.cells)) : L.call 11 [blks bs, .str nm] [] = some (.tup [.fz true 1 ((sortB (namesOf (fun (b:Block) => leansB a.box b.box) bs)).map .str), int 0], []) :=
  call_eq rfl rfl (by
    have hf := e_find bs hl nm
    rw [hz] at hf
    have hn := e_names bs hl 34 a.cells (fun (b:Block) => leansB a.box b.box) (fun b _ => e_leans1 a b)
    simp only [↓eA, eB, seval, c11, hf, hn, killE_nil])
theorem e_Carries_bad (bs : List Block) (hl : bs.length < 1000000) (nm : ByteArray) (hz : (findR bs nm).2 = zblk) (h : decide ((findR bs nm).1 = 0) = false) : L.call 12 [blks bs, .str nm] [] = some (.tup [.fz true 1 [], int (findR bs nm).1], []) :=
  call_eq rfl rfl (by
    have hf := e_find bs hl nm
    rw [hz] at hf
    generalize (findR bs nm).1 = e at h hf
    simp only [↓eA, eB, seval, c12, hf, h])
theorem e_Carries_ok (bs : List Block) (hl : bs.length < 1000000) (nm : ByteArray) (a : Block) (hz : findR bs nm = (0, a.cells)) : L.call 12 [blks bs, .str nm] [] = some (.tup [.fz true 1 ((sortB (namesOf (fun (b:Block) => leansB b.box a.box) bs)).map .str), int 0], []) :=
  call_eq rfl rfl (by
    have hf := e_find bs hl nm
    rw [hz] at hf
    have hn := e_names bs hl 36 a.cells (fun (b:Block) => leansB b.box a.box) (fun b _ => e_carries1 a b)
    simp only [↓eA, eB, seval, c12, hf, hn, killE_nil])
end Tz.C18
