/- SupportClears of every rule and two boxes; no conditions. -/
import Derived.Test.YthndcpffehneaaaGreatS60
import Derived.Test.YthndcpffehneaaaGreatS0A
set_option linter.unusedVariables false
set_option linter.unusedSimpArgs false
set_option linter.unusedSectionVars false
set_option linter.defProp false
set_option linter.deprecated false
open Gs Go
namespace Tz
theorem clears_true (s : Safety) (a b : Box) : L.call 4 [s.enc, a.enc, b.enc] [] = some (.bool true, []) :=
  call_eq rfl rfl (by
    have hw : L.call 10 [] [] = some (.bool true, []) := Aw.aw_run
    simp only [↓eA, eB, reduceIte, Nat.reduceBEq, Int.reduceNeg, Int.reduceLT, Int.reduceLE, Int.reduceAdd, Int.reduceSub, Int.reduceMul, Int.reduceEq, Int.reduceToNat, Nat.reduceLT, Nat.reduceAdd, Nat.reduceMul, Nat.reduceSub, c4, hw, e_Clear, e_rClear, clear_eq, beq_self_eq_true])
end Tz
