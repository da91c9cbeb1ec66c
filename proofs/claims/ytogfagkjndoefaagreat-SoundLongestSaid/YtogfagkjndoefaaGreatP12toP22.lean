/- part P12; part P22; no conditions. -/
import Derived.Test.YtogfagkjndoefaaGreatS148toS149
import Derived.Test.YtogfagkjndoefaaGreatP21
set_option linter.all false
open Gs Go
namespace Tz
structure Sub (c b:Box):Prop where
 x0:b.x0≤c.x0
 y0:b.y0≤c.y0
 z0:b.z0≤c.z0
 x1:c.x1≤b.x1
 y1:c.y1≤b.y1
 z1:c.z1≤b.z1
section
variable {s:Survey} {b c:Box} {ax at_:Int}
theorem names_nodup (h:SurveyOk s):s.names.Nodup:=by
 have hd:=h.dis
 simp only [disordered,Bool.or_eq_false_iff,decide_eq_false_iff_not,ne_eq,Classical.not_not] at hd
 have h1:=(dd_nodup _ (sortB_sorted s.names)).1 (by rw [hd.2.2.2,(sortB_perm _).length_eq])
 exact (sortB_perm s.names).nodup_iff.1 h1
end
end Tz
open Gs Go
namespace Tz
structure Wit where
 kind:Int
 name:ByteArray
 cell:V3
 st:Int
abbrev zW:Wit:=⟨0,.empty,⟨0,0,0⟩,0⟩
def cw1 (n:Int)(w:Wit)(o:Option V3):Wit:=match o with
  | none=>w
  | some c=>bif decide (w.kind=0) || bef c w.cell then ⟨1,.empty,c,n⟩ else w
structure CellW (l:List Ev) (b:Box) (w:Wit):Prop where
 no:w.kind=0→w=zW∧∀ c,b.has c=true→stAt l c=1
 yes:w.kind≠0→w.kind=1∧w=⟨1,.empty,w.cell,w.st⟩∧b.has w.cell=true∧stAt l w.cell=w.st∧w.st≠1
def headW (k:Int)(l:List ByteArray)(els:Wit):Wit:=match l with
  | n :: _=>⟨k,n,⟨0,0,0⟩,0⟩
  | []=>els
def isBed (s:Survey)(n:ByteArray):Bool:=s.beds.any fun x=>seq x.name n
def bedsT (s:Survey)(b:Box):List ByteArray:=(thrR s b).filter (isBed s)
def jntsT (s:Survey)(b:Box):List ByteArray:=(thrR s b).filter fun n=>!isBed s n
def findW (s:Survey)(cw:Wit)(b:Box):Wit:=bif outOf b s.pit then ⟨5,.empty,⟨0,0,0⟩,0⟩ else bif decide (cw.kind=0) then headW 2 (flawsR s b) (headW 3 (bedsT s b) (headW 4 (jntsT s b) zW)) else cw
structure SoundOk (s:Survey) (l:List Ev) (b:Box):Prop where
 inn:outOf b s.pit=false
 cells:∀ c,b.has c=true→stAt l c=1
 fl:flawsR s b=[]
 bd:bedsT s b=[]
 jn:jntsT s b=[]
end Tz
