/- Normal forms of interval lists; The form of the reference is normal; The two checks agree; no conditions. -/
import Derived.Test.YtboigolndjinhaaGreatS66toS22
import Derived.Test.YtboigolndjinhaaGreatP0
set_option linter.all false
open Gs Go
namespace Tz
end Tz
open Gs Go
namespace Tz
end Tz
open Gs Go
namespace Tz
theorem any_congr {α:Type}{l:List α}{p q:α→Bool}(h:∀ x∈l,p x=q x):l.any p=l.any q:=by
 induction l with
 | nil=>rfl
 | cons x r ih=>simp only [List.any_cons]; rw [h x (by simp),ih fun y hy=>h y (by simp [hy])]
end Tz
