/- part S92; part S93; part S94; part S95; part S96; part S97; no conditions. -/
import Derived.Test.YtboigolndjinhaaGreatS66toS22
import Derived.Test.YtboigolndjinhaaGreatP1toP3
import Derived.Test.YtboigolndjinhaaGreatS17toS86
import Derived.Test.YtboigolndjinhaaGreatS87toS65
set_option linter.all false
set_option maxRecDepth 100000
open Gs Go
namespace Tz.C18
theorem cut_str (l:List ByteArray)(i:Nat):cut (l.map D.str) 0 i=(l.take i).map D.str:=by simp [cut,List.map_take]
end Tz.C18
set_option maxRecDepth 100000
open Gs Go
namespace Tz.C18
end Tz.C18
set_option maxRecDepth 100000
open Gs Go
namespace Tz.C18
end Tz.C18
set_option maxRecDepth 100000
open Gs Go
namespace Tz.C18
end Tz.C18
set_option maxRecDepth 100000
open Gs Go
namespace Tz.C18
end Tz.C18
set_option maxRecDepth 100000
open Gs Go
namespace Tz.C18
end Tz.C18
