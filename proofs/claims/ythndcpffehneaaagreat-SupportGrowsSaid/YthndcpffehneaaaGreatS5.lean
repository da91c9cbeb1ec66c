/- Simple polygons; no conditions. -/
import Derived.Test.YthndcpffehneaaaGreatS4
set_option linter.unusedVariables false
set_option linter.unusedSimpArgs false
set_option linter.unusedSectionVars false
set_option linter.defProp false
set_option linter.deprecated false
set_option maxRecDepth 100000
open Gs Go
namespace Tz

theorem e_folded {a b c : Pt} (h : Tri a b c) (hn : ori a b c ≠ 0) : L.call 221 [a.enc, b.enc, c.enc] [] = some (.bool false, []) :=
  call_eq rfl rfl (by
    have h0 : decide (ori a b c = 0) = false := decide_eq_false hn
    simp only [↓eA, eB, seval, c221, e_orient h, h0])
theorem onS_false {a b c : Pt} (hn : ori a b c ≠ 0) : onS a b c = false := by
  have h0 : decide (ori a b c = 0) = false := decide_eq_false hn
  simp [onS, h0]
theorem dz {n : Nat} (h : 0 < n) : decide ((n : Int) = 0) = false := decide_eq_false (by omega)
def nx (p : List Pt) (i : Nat) : Nat := (i + 1) % p.length
theorem nx_lt {p : List Pt} {i : Nat} (h : 0 < p.length) : nx p i < p.length := Nat.mod_lt _ h
theorem e_end {p : List Pt} {i : Nat} (hp : 0 < p.length) (hi : i < 4611686018427387904) : L.call 189 [poly p, int i] [] = some ((pt p (nx p i)).enc, []) :=
  call_eq rfl rfl (by
    have hlt : (i + 1) % p.length < p.length := nx_lt hp
    simp only [↓eA, eB, seval, c189, wrap_succ hi, dz hp, tmod_nat, hlt, get_pt hlt]
    rfl)
/-- All corners turn to the left. -/
def turns (p : List Pt) : Bool := (List.range p.length).any fun i => !decide (ori (pt p i) (pt p (nx p i)) (pt p (nx p (nx p i))) = 1)
def crossB (p : List Pt) (i k : Nat) : Bool := !decide ((nx p k : Int) = i) && meets (pt p i) (pt p (nx p i)) (pt p k) (pt p (nx p k))
def crosses (p : List Pt) : Bool := (List.range p.length).any fun i => (List.range' (i + 2) (p.length - (i + 2))).any (crossB p i)
def AllIn (p : List Pt) : Prop := ∀ c ∈ p, c.In
theorem AllIn.pt {p : List Pt} (h : AllIn p) {i : Nat} (hi : i < p.length) : (pt p i).In := h _ (pt_mem hi)
theorem wrap_two {i : Nat} (h : i < 4611686018427387904) : IntKind.i64.wrap ((i : Int) + 2) = ((i + 2 : Nat) : Int) := by
  rw [IntKind.wrap_i64]; omega
theorem lp_in (p : List Pt) (hb : p.length < 1000000000) (ha : AllIn p) (i : Nat) (hi : i < p.length) (e : Env) (h0 : Gs.get e 0 = poly p) (h3 : Gs.get e 3 = int p.length) (h4 : Gs.get e 4 = int i) (h5 : Gs.get e 5 = int (i + 2 : Nat)) (h9 : Gs.get e 9 = int p.length) (h10 : Gs.get e 10 = int i) :
    Ends T 190008 e [] (fun X e' H' => H' = [] ∧ match (List.range' (i + 2) (p.length - (i + 2))).any (crossB p i) with | true => X = .ret ∧ Gs.get e' 2 = .bool false | false => X = .ex 2 ∧ Gs.get e' 0 = poly p ∧ Gs.get e' 3 = int p.length ∧ Gs.get e' 9 = int p.length ∧ Gs.get e' 10 = int i) := by
  have hp : 0 < p.length := by omega
  refine loop_fr (T := T) (key := 190008) (li := l190008) rfl (i + 2) p.length (crossB p i) [] (fun k e => Gs.get e 0 = poly p ∧ Gs.get e 3 = int p.length ∧ Gs.get e 4 = int i ∧ Gs.get e 5 = int k ∧ Gs.get e 9 = int p.length ∧ Gs.get e 10 = int i) (fun X e' => X = .ret ∧ Gs.get e' 2 = .bool false) (fun X e' => X = .ex 2 ∧ Gs.get e' 0 = poly p ∧ Gs.get e' 3 = int p.length ∧ Gs.get e' 9 = int p.length ∧ Gs.get e' 10 = int i) ?_ ?_ e ⟨h0, h3, h4, h5, h9, h10⟩
  · rintro k e hk hlt ⟨h0, h3, h4, h5, h9, h10⟩
    have e1 := e_end hp (show i < 4611686018427387904 by omega) (p := p)
    have e2 := e_end hp (show k < 4611686018427387904 by omega) (p := p)
    have e3 := e_meet (ha.pt hi) (ha.pt (nx_lt (i := i) hp)) (ha.pt hlt) (ha.pt (nx_lt (i := k) hp))
    have hnx : (k + 1) % p.length = nx p k := rfl
    simp only [↓eA, eB, seval, l190008, h0, h3, h4, h5, h9, h10, hlt, hi, wrap_succ (show k < 4611686018427387904 by omega), dz hp, tmod_nat, get_pt hi, get_pt hlt, e1, e2, e3, hnx]
    cases hb : crossB p i k <;> simp only [crossB] at hb <;> simp only [↓eA, eB, seval, hb]
    · exact ⟨trivial, trivial, trivial, trivial, trivial, trivial, trivial, trivial⟩
    · exact ⟨trivial, trivial, trivial, trivial⟩
  · rintro k e hk _ ⟨h0, h3, h4, h5, h9, h10⟩
    have hlt : ¬ k < p.length := by omega
    simp only [↓eA, eB, seval, l190008, h0, h3, h4, h5, h9, h10, hlt]
    exact ⟨trivial, trivial, trivial, trivial, trivial, trivial, trivial⟩
theorem lp_out (p : List Pt) (hb : p.length < 1000000000) (ha : AllIn p) (ht : turns p = false) (e : Env) (h0 : Gs.get e 0 = poly p) (h3 : Gs.get e 3 = int p.length) (h9 : Gs.get e 9 = int p.length) (h10 : Gs.get e 10 = int 0) :
    Ends T 190003 e [] (fun X e' H' => H' = [] ∧ match crosses p with | true => X = .ret ∧ Gs.get e' 2 = .bool false | false => X = .ex 0) := by
  refine loop_rng (T := T) (key := 190003) (li := l190003) rfl p.length (fun i => (List.range' (i + 2) (p.length - (i + 2))).any (crossB p i)) [] (fun i e => Gs.get e 0 = poly p ∧ Gs.get e 3 = int p.length ∧ Gs.get e 9 = int p.length ∧ Gs.get e 10 = int i) (fun X e' => X = .ret ∧ Gs.get e' 2 = .bool false) (fun X e' => X = .ex 0) ?_ ?_ e ⟨h0, h3, h9, h10⟩
  · rintro i e hi ⟨h0, h3, h9, h10⟩
    have hp : 0 < p.length := by omega
    have hori : ori (pt p i) (pt p (nx p i)) (pt p (nx p (nx p i))) ≠ 0 := by
      have := List.any_eq_false.1 ht i (by simpa using hi)
      have : ori (pt p i) (pt p (nx p i)) (pt p (nx p (nx p i))) = 1 := by simpa using this
      rw [this]; decide
    have e1 := e_end hp (show i < 4611686018427387904 by omega) (p := p)
    have hnl : nx p i < p.length := nx_lt hp
    have e2 := e_end hp (show nx p i < 4611686018427387904 by omega) (p := p)
    have e3 := e_folded (tri (ha.pt hi) (ha.pt (nx_lt (i := i) hp)) (ha.pt (nx_lt (i := nx p i) hp))) hori
    have hnx : (i + 1) % p.length = nx p i := rfl
    simp only [↓eA, eB, seval, l190003, h0, h3, h9, h10, hi, wrap_succ (show i < 4611686018427387904 by omega), wrap_two (show i < 4611686018427387904 by omega), dz hp, tmod_nat, get_pt hi, e1, hnx, e2, e3]
    generalize hE : (lim T).loop 190008 _ _ = R
    obtain ⟨X, e', H', rfl, rfl, hP⟩ := Ends.at hE (lp_in p hb ha i hi _ rfl rfl rfl rfl rfl rfl)
    cases hc : (List.range' (i + 2) (p.length - (i + 2))).any (crossB p i) with
    | true =>
      rw [hc] at hP
      obtain ⟨rfl, h2⟩ := hP
      simp only [↓eA, eB, seval, h2]
      exact ⟨trivial, trivial, trivial, trivial⟩
    | false =>
      rw [hc] at hP
      obtain ⟨rfl, g0, g3, g9, g10⟩ := hP
      simp only [↓eA, eB, seval, g0, g3, g9, g10, wrap_succ (show i < 4611686018427387904 by omega)]
      exact ⟨trivial, trivial, trivial, trivial, trivial, trivial⟩
  · rintro e ⟨h0, h3, h9, h10⟩
    simp only [↓eA, eB, seval, l190003, h0, h3, h9, h10, Nat.lt_irrefl]
    exact ⟨trivial, trivial, trivial⟩
theorem e_simple (p : List Pt) (hb : p.length < 1000000000) (ha : AllIn p) (ht : turns p = false) : L.call 190 [poly p] [] = some (.bool (!crosses p), []) :=
  call_eq rfl rfl (by
    simp only [↓eA, eB, seval, c190]
    generalize hE : (lim T).loop 190003 _ _ = R
    obtain ⟨X, e', H', rfl, rfl, hP⟩ := Ends.at hE (lp_out p hb ha ht _ rfl rfl rfl rfl)
    cases hc : crosses p with
    | true => rw [hc] at hP; obtain ⟨rfl, h2⟩ := hP; simp only [↓eA, eB, seval, h2]
    | false => rw [hc] at hP; subst hP; simp only [↓eA, eB, seval])
end Tz
