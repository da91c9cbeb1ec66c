/- part P0; no conditions. -/
import Derived.Test.YtboigolndjinhaaGreatS13toS62
set_option linter.all false
open Gs Go
namespace Tz
def Pts (l:List (Int×Int))(n:Int):Prop:=∃ p∈l,p.1≤n∧n≤p.2
theorem pts_one (p:Int×Int)(n:Int):Pts [p] n↔p.1≤n∧n≤p.2:=by
 simp [Pts]
end Tz
