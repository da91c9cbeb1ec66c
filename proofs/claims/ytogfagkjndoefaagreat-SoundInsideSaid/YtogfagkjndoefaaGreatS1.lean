/- Data types and first equations; no conditions. -/
import Derived.Test.YtogfagkjndoefaaGreatTab
import Derived.Test.YtogfagkjndoefaaGreatGsF
set_option linter.all false
set_option maxRecDepth 100000
open Gs Go
namespace Tz
noncomputable abbrev L:Ora:=lim T
structure Bed where
 name:ByteArray
 z:Int
structure Joint where
 name:ByteArray
 axis:Int
 at_:Int
 lo:Int
 hi:Int
structure Pt where
 x:Int
 y:Int
structure Flaw where
 name:ByteArray
 base:List Pt
 lo:Int
 hi:Int
structure Box where
 x0:Int
 y0:Int
 z0:Int
 x1:Int
 y1:Int
 z1:Int
structure Survey where
 pit:Box
 o0:Bool
 o1:Bool
 o2:Bool
 o3:Bool
 beds:List Bed
 joints:List Joint
 flaws:List Flaw
abbrev int (n:Int):D:=.int .i64 n
abbrev Bed.enc (b:Bed):D:=.agg [.str b.name,int b.z]
abbrev Joint.enc (j:Joint):D:=.agg [.str j.name,int j.axis,int j.at_,int j.lo,int j.hi]
abbrev Pt.enc (p:Pt):D:=.agg [int p.x,int p.y]
abbrev poly (l:List Pt):D:=.fz false 2 (l.map Pt.enc)
abbrev Flaw.enc (f:Flaw):D:=.agg [.str f.name,poly f.base,int f.lo,int f.hi]
abbrev Box.enc (b:Box):D:=.agg [int b.x0,int b.y0,int b.z0,int b.x1,int b.y1,int b.z1]
abbrev Survey.cells (s:Survey):List D:=[int s.pit.x0,int s.pit.y0,int s.pit.z0,int s.pit.x1,int s.pit.y1,int s.pit.z1,.bool s.o0,.bool s.o1,.bool s.o2,.bool s.o3,
 .fz false 2 (s.beds.map Bed.enc),.fz false 5 (s.joints.map Joint.enc),.fz false 4 (s.flaws.map Flaw.enc)]
abbrev Survey.enc (s:Survey):D:=.agg s.cells
def Box.ok (b:Box):Bool:=decide (b.x0 < b.x1) && decide (b.y0 < b.y1) && decide (b.z0 < b.z1)
theorem e_proper (b:Box):L.call 112 [b.enc] []=some (.bool b.ok,[]):=
 call_eq rfl rfl (by simp only [↓eA,eB,seval,c112]; rfl)
abbrev u8 (n:Int):D:=.int .u8 n
end Tz
