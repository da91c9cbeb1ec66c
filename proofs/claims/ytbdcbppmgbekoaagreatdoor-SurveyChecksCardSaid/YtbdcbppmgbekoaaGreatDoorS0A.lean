/- A closed run of the evaluator; no conditions. -/
import Derived.Test.YtbdcbppmgbekoaaGreatDoorTab
set_option linter.unusedVariables false
set_option linter.unusedSimpArgs false
set_option linter.unusedSectionVars false
set_option linter.defProp false
set_option linter.deprecated false
open Gs Go
namespace Tz
theorem aw_run : (rounds T 100).call 6 [] [] = some (.bool true, []) := by kernel_rfl
end Tz
