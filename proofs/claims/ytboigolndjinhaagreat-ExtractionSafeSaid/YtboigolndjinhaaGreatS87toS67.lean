/- part S87; part S88; part S110; part S90; The reference: index and Check; The reference: Sorted and Same; The reference: LeansOn and Carries; no conditions. -/
import Derived.Test.YtboigolndjinhaaGreatS83toS86
import Derived.Test.YtboigolndjinhaaGreatP0
import Derived.Test.YtboigolndjinhaaGreatS13toS62
import Derived.Test.YtboigolndjinhaaGreatS63toS71
set_option linter.all false
set_option maxRecDepth 100000
open Gs Go
namespace Tz.C18
structure Near (c:Box):Prop where
 x0 : -1000001≤c.x0∧c.x0≤1000001
 x1 : -1000001≤c.x1∧c.x1≤1000001
 y0 : -1000001≤c.y0∧c.y0≤1000001
 y1 : -1000001≤c.y1∧c.y1≤1000001
 z0 : -1000001≤c.z0∧c.z0≤1000001
 z1 : -1000001≤c.z1∧c.z1≤1000001
abbrev tkB (s:Site)(tk:List ByteArray):List Box:=(s.blocks.filter (taken tk)).map (·.box)
end Tz.C18
set_option maxRecDepth 100000
open Gs Go
namespace Tz.C18
end Tz.C18
set_option maxRecDepth 100000
open Gs Go
namespace Tz.C18
def freeN (s:Site)(tk:List ByteArray)(n:ByteArray):Bool:=decide (startErr s tk=0) && match s.blocks.find? (called n) with
 | some b=>possible s tk b
 | none=>false
def firstF (s:Site):List ByteArray→List ByteArray→Nat
 | pre,[]=>pre.length
 | pre,n :: r=>bif freeN s pre n then firstF s (pre ++ [n]) r else pre.length
def possO (s:Site):List ByteArray→List ByteArray→Bool
 | _,[]=>true
 | pre,n :: r=>freeN s pre n && possO s (pre ++ [n]) r
theorem first_ge (s:Site):∀ (r pre:List ByteArray),pre.length≤firstF s pre r∧firstF s pre r≤pre.length + r.length
 | [],pre=>by simp [firstF]
 | n :: r,pre=>by
   unfold firstF
   cases freeN s pre n with
   | true=>have:=first_ge s r (pre ++ [n]); simp only [cond_true,List.length_append,List.length_cons,List.length_nil] at *; omega
   | false=>simp
theorem first_take (s:Site):∀ (r pre:List ByteArray),possO s pre (r.take (firstF s pre r - pre.length))=true
 | [],pre=>by simp [firstF,possO]
 | n :: r,pre=>by
   unfold firstF
   cases h:freeN s pre n with
   | true=>
     have hg:=first_ge s r (pre ++ [n])
     have:=first_take s r (pre ++ [n])
     simp only [List.length_append,List.length_cons,List.length_nil] at this hg
     simp only [cond_true]
     rw [show firstF s (pre ++ [n]) r - pre.length=(firstF s (pre ++ [n]) r - (pre.length + (0 + 1))) + 1 by omega,List.take_succ_cons]
     unfold possO
     rw [h,this]; rfl
   | false=>simp [possO]
theorem free_facts {s:Site}{tk:List ByteArray}{n:ByteArray}(h:freeN s tk n=true):startErr s tk=0∧∃ b∈s.blocks,b.name=n∧possible s tk b=true:=by
 unfold freeN at h
 simp only [Bool.and_eq_true,decide_eq_true_eq] at h
 refine ⟨h.1,?_⟩
 cases hf:s.blocks.find? (called n) with
 | none=>rw [hf] at h; simp at h
 | some b=>
   rw [hf] at h
   have hc:called n b=true:=List.find?_some hf
   exact ⟨b,List.mem_of_find?_eq_some hf,seq_iff.1 hc,h.2⟩
theorem poss_inv {s:Site} : ∀ (r pre:List ByteArray),Inv s pre→possO s pre r=true→Inv s (pre ++ r)
 | [],pre,h,_=>by rw [List.append_nil]; exact h
 | n :: r,pre,h,hp=>by
   unfold possO at hp
   simp only [Bool.and_eq_true] at hp
   obtain ⟨_,b,hb,rfl,hpb⟩:=free_facts hp.1
   have:=poss_inv r (pre ++ [b.name]) (inv_step h hb hpb) hp.2
   rwa [List.append_assoc] at this
theorem taken_iff {tk:List ByteArray}{b:Block} : taken tk b=true↔b.name∈tk:=by
 unfold taken
 rw [List.any_eq_true]
 constructor
 · rintro ⟨x,hx,he⟩; rw [seq_iff.1 he]; exact hx
 · exact fun h=>⟨_,h,seq_refl _⟩
theorem poss_append {s:Site} : ∀ (a b pre:List ByteArray),possO s pre (a ++ b)=(possO s pre a && possO s (pre ++ a) b)
 | [],b,pre=>by simp [possO]
 | n :: a,b,pre=>by
   simp only [List.cons_append,possO]
   rw [poss_append a b (pre ++ [n]),Bool.and_assoc,List.append_assoc]; rfl
theorem start_of {s:Site}(h:siteErr s=0){tk:List ByteArray}(hn:tk.Nodup)(hk:∀ n∈tk,∃ b∈s.blocks,b.name=n):startErr s tk=0:=by
 unfold startErr
 have h1:tk.any (unknown s)=false:=List.any_eq_false.2 fun n hx=>by
   obtain ⟨b,hb,he⟩:=hk n hx
   simp only [unknown,Bool.not_eq_true',Bool.not_eq_false]
   exact List.any_eq_true.2 ⟨b,hb,by unfold called; rw [he]; exact seq_refl _⟩
 have h2:dupS [] tk=false:=(dupS_iff tk []).2 ⟨by simp,hn⟩
 rw [decide_eq_true h,h1,h2]; rfl
end Tz.C18
set_option maxRecDepth 100000
open Gs Go
namespace Tz.C18
def fullB (b:Box):Bool:=decide (b.x0 < b.x1) && decide (b.y0 < b.y1) && decide (b.z0 < b.z1)
def partsL (a c:Box):List Box:=
 [⟨a.x0,a.y0,a.z0,a.x1,a.y1,c.z0⟩,⟨a.x0,a.y0,c.z1,a.x1,a.y1,a.z1⟩,⟨a.x0,a.y0,c.z0,a.x1,c.y0,c.z1⟩,⟨a.x0,c.y1,c.z0,a.x1,a.y1,c.z1⟩,⟨a.x0,c.y0,c.z0,c.x0,c.y1,c.z1⟩,⟨c.x1,c.y0,c.z0,a.x1,c.y1,c.z1⟩]
def subsL (a b:Box):List Box:=bif fullB (inter a b) then (partsL a (inter a b)).filter fullB else [a]
def restL (out list:List Box):List Box:=list.foldl (fun out b=>out.flatMap fun a=>subsL a b) out
structure Cor (c:Box) (bs ss:List Box) (q:Box):Prop where
 f:fullB q=true
 x0:c.x0≤q.x0∧q.x1≤c.x1
 y0:c.y0≤q.y0∧q.y1≤c.y1
 z0:c.z0≤q.z0∧q.z1≤c.z1
 x:q.x0∈c.x0 :: bs.flatMap fun b=>[b.x0,b.x1]
 y:q.y0∈c.y0 :: bs.flatMap fun b=>[b.y0,b.y1]
 z:q.z0∈c.z0 :: ((bs.flatMap fun b=>[b.z0,b.z1]) ++ ss.map (·.z1))
end Tz.C18
set_option maxRecDepth 100000
open Gs Go
namespace Tz.C18
end Tz.C18
set_option maxRecDepth 100000
open Gs Go
namespace Tz.C18
end Tz.C18
set_option maxRecDepth 100000
open Gs Go
namespace Tz.C18
end Tz.C18
