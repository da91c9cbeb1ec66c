/- The checker passes for the functions of this seat; no conditions. -/
import Derived.Test.YtogfagkjndoefaaGreatTab
import Derived.Test.YtogfagkjndoefaaGreatProg
set_option linter.all false
open Gs Go
namespace Tz
noncomputable def chk1 (p:Nat×FI):Bool:=match Go.Proofs.Tryz.prog.funcs[p.1]? with
  | some fn=>okFn Go.Proofs.Tryz.prog T fn p.2
  | none=>false
theorem all_ok:fns.all chk1=true:=by kernel_rfl
theorem mixed_ok:Go.Proofs.Tryz.prog.follows .mixedOrders=true:=by kernel_rfl
end Tz
