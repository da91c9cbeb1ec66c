/- Shapes, order and place, reference; Check, Boxed and Open, reference; part S91; Interval ends, reference; Interval ends, second part; Set and Same, reference; no conditions. -/
import Derived.Test.YtboigolndjinhaaGreatS77toS82
import Derived.Test.YtboigolndjinhaaGreatS87toS67
set_option linter.all false
set_option maxRecDepth 100000
open Gs Go
namespace Tz
def nm (l:List ByteArray)(i:Nat):ByteArray:=l[i]?.getD ⟨#[]⟩
end Tz
set_option maxRecDepth 100000
open Gs Go
namespace Tz
def rf (n:Int):Bool:=!(decide (-1000000≤n) && decide (n≤1000000))
end Tz
set_option maxRecDepth 100000
open Gs Go
namespace Tz.C18
end Tz.C18
set_option maxRecDepth 100000
open Gs Go
namespace Tz
end Tz
set_option maxRecDepth 100000
open Gs Go
namespace Tz
end Tz
set_option maxHeartbeats 2000000
set_option maxRecDepth 100000
open Gs Go
namespace Tz
end Tz
