/- part P21; no conditions. -/
import Derived.Test.YtogfagkjndoefaaGreatP20
set_option linter.all false
open Gs Go
namespace Tz
section
variable {xs ys zs:List Int}
end
end Tz
