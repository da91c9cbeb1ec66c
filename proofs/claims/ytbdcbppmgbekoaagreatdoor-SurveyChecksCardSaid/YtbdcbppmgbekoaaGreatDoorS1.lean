/- Data types and first equations; no conditions. -/
import Derived.Test.YtbdcbppmgbekoaaGreatDoorTab
import Derived.Test.YtbdcbppmgbekoaaGreatDoorGsF
set_option linter.unusedVariables false
set_option linter.unusedSimpArgs false
set_option linter.unusedSectionVars false
set_option linter.defProp false
set_option linter.deprecated false
open Gs Go
namespace Tz
noncomputable abbrev L : Ora := lim T

structure Bed where
  name : ByteArray
  z : Int
structure Joint where
  name : ByteArray
  axis : Int
  at_ : Int
  lo : Int
  hi : Int
structure Pt where
  x : Int
  y : Int
structure Flaw where
  name : ByteArray
  base : List Pt
  lo : Int
  hi : Int
structure Box where
  x0 : Int
  y0 : Int
  z0 : Int
  x1 : Int
  y1 : Int
  z1 : Int
structure Survey where
  pit : Box
  o0 : Bool
  o1 : Bool
  o2 : Bool
  o3 : Bool
  beds : List Bed
  joints : List Joint
  flaws : List Flaw
abbrev int (n : Int) : D := .int .i64 n
abbrev Bed.enc (b : Bed) : D := .agg [.str b.name, int b.z]
abbrev Joint.enc (j : Joint) : D := .agg [.str j.name, int j.axis, int j.at_, int j.lo, int j.hi]
abbrev Pt.enc (p : Pt) : D := .agg [int p.x, int p.y]
abbrev poly (l : List Pt) : D := .fz false 2 (l.map Pt.enc)
abbrev Flaw.enc (f : Flaw) : D := .agg [.str f.name, poly f.base, int f.lo, int f.hi]
abbrev Box.enc (b : Box) : D := .agg [int b.x0, int b.y0, int b.z0, int b.x1, int b.y1, int b.z1]
abbrev Survey.cells (s : Survey) : List D := [int s.pit.x0, int s.pit.y0, int s.pit.z0, int s.pit.x1, int s.pit.y1, int s.pit.z1, .bool s.o0, .bool s.o1, .bool s.o2, .bool s.o3,
  .fz false 2 (s.beds.map Bed.enc), .fz false 5 (s.joints.map Joint.enc), .fz false 4 (s.flaws.map Flaw.enc)]
abbrev Survey.enc (s : Survey) : D := .agg s.cells

theorem e_coord (x y z a : Int) : L.call 26 [.agg [int x, int y, int z], int a] [] = some (int (if a = 0 then x else if a = 1 then y else z), []) :=
  call_eq rfl rfl (by
    by_cases h0 : a = 0
    · simp only [↓eA, eB, reduceIte, Nat.reduceBEq, Int.reduceNeg, Int.reduceLT, Int.reduceLE, Int.reduceAdd, Int.reduceSub, Int.reduceMul, Int.reduceEq, Int.reduceToNat, Nat.reduceLT, Nat.reduceAdd, Nat.reduceMul, Nat.reduceSub, c26, h0]
    · by_cases h1 : a = 1
      · simp only [↓eA, eB, reduceIte, Nat.reduceBEq, Int.reduceNeg, Int.reduceLT, Int.reduceLE, Int.reduceAdd, Int.reduceSub, Int.reduceMul, Int.reduceEq, Int.reduceToNat, Nat.reduceLT, Nat.reduceAdd, Nat.reduceMul, Nat.reduceSub, c26, h0, h1]
      · simp only [↓eA, eB, reduceIte, Nat.reduceBEq, Int.reduceNeg, Int.reduceLT, Int.reduceLE, Int.reduceAdd, Int.reduceSub, Int.reduceMul, Int.reduceEq, Int.reduceToNat, Nat.reduceLT, Nat.reduceAdd, Nat.reduceMul, Nat.reduceSub, c26, h0, h1])
theorem e_in (n lo hi : Int) : L.call 85 [int n, int lo, int hi] [] = some (.bool (decide (lo ≤ n) && decide (n ≤ hi)), []) :=
  call_eq rfl rfl (by simp only [↓eA, eB, reduceIte, Nat.reduceBEq, Int.reduceNeg, Int.reduceLT, Int.reduceLE, Int.reduceAdd, Int.reduceSub, Int.reduceMul, Int.reduceEq, Int.reduceToNat, Nat.reduceLT, Nat.reduceAdd, Nat.reduceMul, Nat.reduceSub, c85])
theorem e_far (n : Int) : L.call 25 [int n] [] = some (.bool (!(decide (-1000000 ≤ n) && decide (n ≤ 1000000))), []) :=
  call_eq rfl rfl (by simp only [↓eA, eB, reduceIte, Nat.reduceBEq, Int.reduceNeg, Int.reduceLT, Int.reduceLE, Int.reduceAdd, Int.reduceSub, Int.reduceMul, Int.reduceEq, Int.reduceToNat, Nat.reduceLT, Nat.reduceAdd, Nat.reduceMul, Nat.reduceSub, c25, e_in])
def Box.ok (b : Box) : Bool := decide (b.x0 < b.x1) && decide (b.y0 < b.y1) && decide (b.z0 < b.z1)
theorem e_rProper (b : Box) : L.call 27 [b.enc] [] = some (.bool b.ok, []) :=
  call_eq rfl rfl (by simp only [↓eA, eB, reduceIte, Nat.reduceBEq, Int.reduceNeg, Int.reduceLT, Int.reduceLE, Int.reduceAdd, Int.reduceSub, Int.reduceMul, Int.reduceEq, Int.reduceToNat, Nat.reduceLT, Nat.reduceAdd, Nat.reduceMul, Nat.reduceSub, c27]; rfl)
theorem e_proper (b : Box) : L.call 36 [b.enc] [] = some (.bool b.ok, []) :=
  call_eq rfl rfl (by simp only [↓eA, eB, reduceIte, Nat.reduceBEq, Int.reduceNeg, Int.reduceLT, Int.reduceLE, Int.reduceAdd, Int.reduceSub, Int.reduceMul, Int.reduceEq, Int.reduceToNat, Nat.reduceLT, Nat.reduceAdd, Nat.reduceMul, Nat.reduceSub, c36]; rfl)
def Box.inside (a b : Box) : Bool := !((decide (a.x0 < b.x0) || decide (b.x1 < a.x1)) || ((decide (a.y0 < b.y0) || decide (b.y1 < a.y1)) || (decide (a.z0 < b.z0) || decide (b.z1 < a.z1))))
/-! Names. -/
abbrev u8 (n : Int) : D := .int .u8 n
def dig (n : Int) : Bool := decide (48 ≤ n) && decide (n ≤ 57)
def let_ (n : Int) : Bool := (decide (97 ≤ n) && decide (n ≤ 122)) || (decide (65 ≤ n) && decide (n ≤ 90))
def wrd (n : Int) : Bool := (dig n || let_ n) || decide (n = 95)
theorem e_digit (n : Int) : L.call 124 [u8 n] [] = some (.bool (dig n), []) := call_eq rfl rfl (by simp only [↓eA, eB, reduceIte, Nat.reduceBEq, Int.reduceNeg, Int.reduceLT, Int.reduceLE, Int.reduceAdd, Int.reduceSub, Int.reduceMul, Int.reduceEq, Int.reduceToNat, Nat.reduceLT, Nat.reduceAdd, Nat.reduceMul, Nat.reduceSub, c124]; rfl)
theorem e_letter (n : Int) : L.call 87 [u8 n] [] = some (.bool (let_ n), []) := call_eq rfl rfl (by simp only [↓eA, eB, reduceIte, Nat.reduceBEq, Int.reduceNeg, Int.reduceLT, Int.reduceLE, Int.reduceAdd, Int.reduceSub, Int.reduceMul, Int.reduceEq, Int.reduceToNat, Nat.reduceLT, Nat.reduceAdd, Nat.reduceMul, Nat.reduceSub, c87]; rfl)
theorem e_part (n : Int) : L.call 86 [u8 n] [] = some (.bool (wrd n), []) := call_eq rfl rfl (by simp only [↓eA, eB, reduceIte, Nat.reduceBEq, Int.reduceNeg, Int.reduceLT, Int.reduceLE, Int.reduceAdd, Int.reduceSub, Int.reduceMul, Int.reduceEq, Int.reduceToNat, Nat.reduceLT, Nat.reduceAdd, Nat.reduceMul, Nat.reduceSub, c86, e_digit, e_letter]; rfl)
/-- A byte that a name can't have at a place. -/
def badAt (s : ByteArray) (i : Nat) : Bool := (!wrd (bat s i) || (decide (65 ≤ bat s i) && decide (bat s i ≤ 90))) || (decide ((i : Int) = 0) && !let_ (bat s i))
def rName (s : ByteArray) : Bool := !((List.range s.size).any (badAt s)) && (decide (1 ≤ (s.size : Int)) && decide ((s.size : Int) ≤ 24))
theorem lp_rName (s : ByteArray) (hb : s.size < 1000000000) (e : Env) (h0 : Gs.get e 0 = .str s) (h2 : Gs.get e 3 = int 0) :
    Ends T 28002 e [] (fun X e' H' => H' = [] ∧ match (List.range s.size).any (badAt s) with | true => X = .ret ∧ Gs.get e' 2 = .bool false | false => X = .ex 0 ∧ Gs.get e' 0 = .str s) := by
  refine loop_rng (T := T) (key := 28002) (li := l28002) rfl s.size (badAt s) [] (fun i e => Gs.get e 0 = .str s ∧ Gs.get e 3 = int i) (fun X e' => X = .ret ∧ Gs.get e' 2 = .bool false) (fun X e' => X = .ex 0 ∧ Gs.get e' 0 = .str s) ?_ ?_ e ⟨h0, h2⟩
  · rintro i e hlt ⟨h0, h3⟩
    simp only [↓eA, eB, reduceIte, Nat.reduceBEq, Int.reduceNeg, Int.reduceLT, Int.reduceLE, Int.reduceAdd, Int.reduceSub, Int.reduceMul, Int.reduceEq, Int.reduceToNat, Nat.reduceLT, Nat.reduceAdd, Nat.reduceMul, Nat.reduceSub, l28002, h0, h3, hlt, e_part, e_letter, wrap_succ (show i < 4611686018427387904 by omega)]
    cases hb : badAt s i <;> simp only [badAt] at hb <;> simp only [↓eA, eB, reduceIte, Nat.reduceBEq, Int.reduceNeg, Int.reduceLT, Int.reduceLE, Int.reduceAdd, Int.reduceSub, Int.reduceMul, Int.reduceEq, Int.reduceToNat, Nat.reduceLT, Nat.reduceAdd, Nat.reduceMul, Nat.reduceSub, hb]
    · exact ⟨trivial, trivial, trivial, trivial⟩
    · exact ⟨trivial, trivial, trivial, trivial⟩
  · rintro e ⟨h0, h3⟩
    simp only [↓eA, eB, reduceIte, Nat.reduceBEq, Int.reduceNeg, Int.reduceLT, Int.reduceLE, Int.reduceAdd, Int.reduceSub, Int.reduceMul, Int.reduceEq, Int.reduceToNat, Nat.reduceLT, Nat.reduceAdd, Nat.reduceMul, Nat.reduceSub, l28002, h0, h3, Nat.lt_irrefl]
    exact ⟨trivial, trivial, trivial, trivial⟩
theorem e_rName (s : ByteArray) (hb : s.size < 1000000000) : L.call 28 [.str s] [] = some (.bool (rName s), []) :=
  call_eq rfl rfl (by
    simp only [↓eA, eB, reduceIte, Nat.reduceBEq, Int.reduceNeg, Int.reduceLT, Int.reduceLE, Int.reduceAdd, Int.reduceSub, Int.reduceMul, Int.reduceEq, Int.reduceToNat, Nat.reduceLT, Nat.reduceAdd, Nat.reduceMul, Nat.reduceSub, c28]
    obtain ⟨X, e', H', h, rfl, hp⟩ := lp_rName s hb [(0, .str s), (2, .bool false), (3, int 0)] rfl rfl
    rw [h]
    cases hf : (List.range s.size).any (badAt s) with
    | true =>
      rw [hf] at hp
      obtain ⟨rfl, h2⟩ := hp
      simp only [↓eA, eB, reduceIte, Nat.reduceBEq, Int.reduceNeg, Int.reduceLT, Int.reduceLE, Int.reduceAdd, Int.reduceSub, Int.reduceMul, Int.reduceEq, Int.reduceToNat, Nat.reduceLT, Nat.reduceAdd, Nat.reduceMul, Nat.reduceSub, h2, rName, hf]
    | false =>
      rw [hf] at hp
      obtain ⟨rfl, h2⟩ := hp
      simp only [↓eA, eB, reduceIte, Nat.reduceBEq, Int.reduceNeg, Int.reduceLT, Int.reduceLE, Int.reduceAdd, Int.reduceSub, Int.reduceMul, Int.reduceEq, Int.reduceToNat, Nat.reduceLT, Nat.reduceAdd, Nat.reduceMul, Nat.reduceSub, h2, rName, hf])
end Tz
