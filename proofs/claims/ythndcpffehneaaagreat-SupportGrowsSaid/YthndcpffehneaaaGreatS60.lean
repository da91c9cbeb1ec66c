/- Boxes that are clear of each other; no conditions. -/
import Derived.Test.YthndcpffehneaaaGreatS16
set_option linter.unusedVariables false
set_option linter.unusedSimpArgs false
set_option linter.unusedSectionVars false
set_option linter.defProp false
set_option linter.deprecated false
set_option maxRecDepth 100000
open Gs Go
namespace Tz.C18
structure Safety where
  batter : Int
  width : Int
abbrev Safety.enc (s : Safety) : D := .agg [int s.batter, int s.width]
def inr (n : Int) : Bool := decide (-1000000 ≤ n) && decide (n ≤ 1000000)
theorem e_in (n : Int) : L.call 41 [int n] [] = some (.bool (inr n), []) :=
  call_eq rfl rfl (by simp only [↓eA, eB, seval, c41]; rfl)
abbrev wsub (a b : Int) : Int := IntKind.i64.wrap (a - b)
def gap (a b : Box) : Int := max (max (max (wsub a.x0 b.x1) (wsub b.x0 a.x1)) 0) (max (max (wsub a.y0 b.y1) (wsub b.y0 a.y1)) 0)
theorem e_gap (a b : Box) : L.call 42 [a.enc, b.enc] [] = some (int (gap a b), []) :=
  call_eq rfl rfl (by simp only [↓eA, eB, seval, c42]; rfl)
theorem max_turn (p q : Int) : max 0 (max p q) = max (max q p) 0 := by rw [Int.max_comm 0, Int.max_comm p q]
def bad3 (x y z : Int) : Bool := (!inr x || !inr y) || !inr z
def _root_.Tz.Box.near (b : Box) : Bool := !bad3 b.x0 b.y0 b.z0 && !bad3 b.x1 b.y1 b.z1
theorem i40 : inb 0 4 = true := rfl
theorem i41 : inb 1 4 = true := rfl
theorem i42 : inb 2 4 = true := rfl
theorem i43 : inb 3 4 = true := rfl
def rule (s : Safety) : Bool := ((decide (s.batter < 0) || decide (10000 < s.batter)) || decide (s.width < 0)) || decide (1000000 < s.width)
abbrev wmul (a b : Int) : Int := IntKind.i64.wrap (a * b)
def away (s : Safety) (a b : Box) : Bool := decide (wsub b.z0 a.z0 ≤ 0) || decide (IntKind.i64.wrap (wmul s.batter (wsub b.z0 a.z0) + wmul 1000 s.width) ≤ wmul 1000 (gap a b))
def clearB (s : Safety) (a b : Box) : Bool := bif (a.near && b.near) && !rule s then away s a b else false
theorem e_Clear (s : Safety) (a b : Box) : L.call 17 [s.enc, a.enc, b.enc] [] = some (.bool (clearB s a b), []) :=
  call_eq rfl rfl (by
    simp only [↓eA, eB, seval, c17]
    rw [loop_unfold_c (T := T) (k := 17003) rfl]
    simp only [↓eA, eB, seval, l17003, e_in, i40]
    unfold clearB Box.near bad3
    cases h0 : (!inr a.x0 || !inr a.y0 || !inr a.z0) with
    | true => simp only [↓eA, eB, seval]
    | false =>
    simp only [↓eA, eB, seval]
    rw [loop_unfold_c (T := T) (k := 17003) rfl]
    simp only [↓eA, eB, seval, l17003, e_in, i41]
    cases h1 : (!inr a.x1 || !inr a.y1 || !inr a.z1) with
    | true => simp only [↓eA, eB, seval]
    | false =>
    simp only [↓eA, eB, seval]
    rw [loop_unfold_c (T := T) (k := 17003) rfl]
    simp only [↓eA, eB, seval, l17003, e_in, i42]
    cases h2 : (!inr b.x0 || !inr b.y0 || !inr b.z0) with
    | true => simp only [↓eA, eB, seval]
    | false =>
    simp only [↓eA, eB, seval]
    rw [loop_unfold_c (T := T) (k := 17003) rfl]
    simp only [↓eA, eB, seval, l17003, e_in, i43]
    cases h3 : (!inr b.x1 || !inr b.y1 || !inr b.z1) with
    | true => simp only [↓eA, eB, seval]
    | false =>
    simp only [↓eA, eB, seval]
    rw [loop_unfold_c (T := T) (k := 17003) rfl]
    simp only [↓eA, eB, seval, l17003]
    unfold rule
    cases h4 : (((decide (s.batter < 0) || decide (10000 < s.batter)) || decide (s.width < 0)) || decide (1000000 < s.width)) with
    | true => simp only [↓eA, eB, seval]
    | false =>
    simp only [↓eA, eB, seval, e_gap]
    rfl)
def bad4 (p q : Int) : Bool := ((decide (p < -1000000) || decide (1000000 < p)) || decide (q < -1000000)) || decide (1000000 < q)
def _root_.Tz.Box.rnear (b : Box) : Bool := !(bad4 b.x0 b.x1 || (bad4 b.y0 b.y1 || bad4 b.z0 b.z1))
theorem near_eq (b : Box) : b.rnear = b.near := by
  unfold Box.rnear Box.near bad4 bad3 inr
  rw [Bool.eq_iff_iff]; simp; omega
def rclear (s : Safety) (a b : Box) : Bool := bif ((((( !a.rnear || !b.rnear) || decide (s.batter < 0)) || decide (10000 < s.batter)) || decide (s.width < 0)) || decide (1000000 < s.width)) then false else away s a b
theorem clear_eq (s : Safety) (a b : Box) : clearB s a b = rclear s a b := by
  unfold clearB rclear rule
  rw [near_eq, near_eq]
  cases a.near <;> cases b.near <;> simp only [Bool.not_true, Bool.not_false, Bool.true_or, Bool.false_or, Bool.or_true, Bool.true_and, Bool.false_and, Bool.and_false, cond_true, cond_false]
  cases (((decide (s.batter < 0) || decide (10000 < s.batter)) || decide (s.width < 0)) || decide (1000000 < s.width)) <;> rfl
end Tz.C18
