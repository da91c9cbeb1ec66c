/- A closed run of the evaluator; no conditions. -/
import Derived.Test.YtbdcbppmgbekoaaGreatTab
import Derived.KernelRfl
set_option linter.all false
set_option maxRecDepth 100000
open Gs Go
namespace Tz
theorem aw_run:(rounds T 100).call 6 [] []=some (.bool true,[]):=by kernel_rfl
end Tz
