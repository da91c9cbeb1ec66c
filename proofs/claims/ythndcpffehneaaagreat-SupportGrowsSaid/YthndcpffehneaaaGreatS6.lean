/- Polygons of the reference; no conditions. -/
import Derived.Test.YthndcpffehneaaaGreatS5
set_option linter.unusedVariables false
set_option linter.unusedSimpArgs false
set_option linter.unusedSectionVars false
set_option linter.defProp false
set_option linter.deprecated false
set_option maxRecDepth 100000
open Gs Go
namespace Tz

def convex (p : List Pt) : Bool := !turns p && !crosses p
/-! polygon.Check. -/
def eqPt (a b : Pt) : Bool := decide (a.x = b.x) && decide (a.y = b.y)
def dup (p : List Pt) : Bool := (List.range p.length).any fun i => eqPt (pt p i) (pt p (nx p i))
def anyOut (p : List Pt) : Bool := p.any fun a => !a.ok
/-- The first error of a polygon. -/
def polyErr (p : List Pt) : Int := if 64 < p.length then 7 else if p.length < 3 then 1 else if anyOut p then 6 else if dup p then 5 else 0
theorem nlt {a b : Nat} (h : ¬ a < b) : decide ((a : Int) < (b : Int)) = false := decide_eq_false (by omega)
theorem anyOut_in {p : List Pt} (h : anyOut p = false) : AllIn p := fun c hc => Pt.ok_in.1 (by
  have := List.any_eq_false.1 h c hc
  simpa using this)
end Tz
