/- Normal forms of interval lists; The form of the reference is normal; The two checks agree; no conditions. -/
import Derived.Test.YtogfagkjndoefaaGreatS17toS22
set_option linter.all false
open Gs Go
namespace Tz
def Pts (l:List (Int×Int))(n:Int):Prop:=∃ p∈l,p.1≤n∧n≤p.2
end Tz
open Gs Go
namespace Tz
end Tz
open Gs Go
namespace Tz
theorem ddF_nodup:∀ (l:List ByteArray) (p:ByteArray),SortedB (p :: l)→((ddF seq p l).length=l.length↔(p :: l).Nodup)
 | [],p,_=>by simp [ddF]
 | y :: r,p,h=>by
   have h1:=List.pairwise_cons.1 h
   have ih:=ddF_nodup r y h1.2
   simp only [ddF]
   cases hs:seq y p with
   | true=>
     have hyp:=seq_iff.1 hs
     have hle:=dd_length_le seq r y
     simp only [cond_true]
     constructor
     · intro he; simp only [List.length_cons] at he; omega
     · intro hn; subst hyp; simp at hn
   | false=>
     have hyp:=seq_false.1 hs
     simp only [cond_false,List.length_cons,Nat.succ_inj]
     rw [ih,List.nodup_cons (a:=p)]
     constructor
     · intro hn
       refine ⟨fun hm=>?_,hn⟩
       rcases List.mem_cons.1 hm with rfl | hm
       · exact hyp rfl
       · have h2:=List.pairwise_cons.1 h1.2
         have a1:=h1.1 y (by simp)
         have a2:=h2.1 p hm
         exact hyp (slt_total (by simpa using a1) (by simpa using a2))
     · exact fun hn=>hn.2
theorem dd_nodup (l:List ByteArray)(h:SortedB l):((dd seq l).length=l.length↔l.Nodup):=by
 cases l with
 | nil=>simp [dd]
 | cons p r=>
   simp only [dd,List.length_cons]
   rw [show ((ddF seq p r).length + 1=r.length + 1)↔((ddF seq p r).length=r.length) from Nat.succ_inj]
   exact ddF_nodup r p h
end Tz
