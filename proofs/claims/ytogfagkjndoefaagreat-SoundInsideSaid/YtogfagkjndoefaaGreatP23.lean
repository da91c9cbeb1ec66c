/- part P23; no conditions. -/
import Derived.Test.YtogfagkjndoefaaGreatP20
import Derived.Test.YtogfagkjndoefaaGreatS160toS10i
set_option linter.all false
open Gs Go
namespace Tz
theorem insN_perm (x:Int):∀ l,(insN x l).Perm (x :: l)
 | []=>.refl _
 | y :: r=>by
   simp only [insN]
   cases decide (y < x) with
   | true=>exact ((insN_perm x r).cons y).trans (List.Perm.swap x y r)
   | false=>exact .refl _
theorem sortN_perm:∀ l,(sortN l).Perm l
 | []=>.refl _
 | x :: r=>(insN_perm x _).trans ((sortN_perm r).cons x)
theorem insN_sorted {x:Int} : ∀ {l:List Int},l.Pairwise (·≤·)→(insN x l).Pairwise (·≤·)
 | [],_=>List.pairwise_singleton _ _
 | y :: r,h=>by
   have hy:=List.pairwise_cons.1 h
   simp only [insN]
   cases hs:decide (y < x) with
   | true=>
     have hs:=of_decide_eq_true hs
     refine List.pairwise_cons.2 ⟨fun z hz=>?_,insN_sorted hy.2⟩
     rcases List.mem_cons.1 ((insN_perm x r).mem_iff.1 hz) with rfl | hz
     · omega
     · exact hy.1 z hz
   | false=>
     have hs:=of_decide_eq_false hs
     refine List.pairwise_cons.2 ⟨fun z hz=>?_,h⟩
     rcases List.mem_cons.1 hz with rfl | hz
     · omega
     · have:=hy.1 z hz; omega
theorem sortN_sorted:∀ l,(sortN l).Pairwise (·≤·)
 | []=>List.Pairwise.nil
 | x :: r=>insN_sorted (sortN_sorted r)
theorem ddF_ok:∀ (l:List Int) (p:Int),(p :: l).Pairwise (·≤·)→(p :: ddF eqI p l).Pairwise (· < ·)∧∀ x,x∈p :: ddF eqI p l↔x∈p :: l
 | [],p,_=>by simp [ddF]
 | y :: r,p,h=>by
   have h1:=List.pairwise_cons.1 h
   have hpy:=h1.1 y (by simp)
   obtain ⟨g1,g2⟩:=ddF_ok r y h1.2
   simp only [ddF]
   by_cases hyp:y=p
   · rw [show eqI y p=true from decide_eq_true hyp,cond_true]
     subst hyp
     exact ⟨g1,fun x=>by rw [g2 x]; simp⟩
   · rw [show eqI y p=false from decide_eq_false hyp,cond_false]
     refine ⟨List.pairwise_cons.2 ⟨fun x hx=>?_,g1⟩,fun x=>?_⟩
     · have:=(g2 x).1 hx
       rcases List.mem_cons.1 this with h | h
       · omega
       · have h2:=(List.pairwise_cons.1 h1.2).1 x h
         omega
     · rw [List.mem_cons,g2 x,←List.mem_cons]
theorem dd_ok:∀ {l:List Int},l.Pairwise (·≤·)→(dd eqI l).Pairwise (· < ·)∧∀ x,x∈dd eqI l↔x∈l
 | [],_=>by simp [dd]
 | p :: l,h=>ddF_ok l p h
theorem first_of {l:List Int}{lo:Int}(h:l.Pairwise (· < ·))(hm:lo∈l)(hl:∀ x∈l,lo≤x):l.head?=some lo:=by
 cases l with
 | nil=>cases hm
 | cons a r=>
   have ha:=hl a (by simp)
   rcases List.mem_cons.1 hm with h' | h'
   · rw [h']; rfl
   · have:=(List.pairwise_cons.1 h).1 lo h'; omega
theorem last_of:∀ {l:List Int} {hi:Int},l.Pairwise (· < ·)→hi∈l→(∀ x∈l,x≤hi)→l.getLast?=some hi
 | [],_,_,hm,_=>by cases hm
 | [a],hi,_,hm,_=>by rw [List.mem_singleton.1 hm]; rfl
 | a :: b :: r,hi,h,hm,hl=>by
   have h1:=List.pairwise_cons.1 h
   rw [List.getLast?_cons_cons]
   refine last_of h1.2 ?_ fun x hx=>hl x (List.mem_cons_of_mem _ hx)
   rcases List.mem_cons.1 hm with h' | h'
   · have:=h1.1 b (by simp)
     have:=hl b (by simp)
     omega
   · exact h'
def cutStep (lo hi:Int)(acc:List Int)(n:Int):List Int:=bif decide (lo < n) && decide (n < hi) then acc ++ [n] else acc
def cutStep2 (lo hi:Int)(f:Box→Int×Int)(acc:List Int)(x:Ev):List Int:=[(f x.box).1,(f x.box).2].foldl (cutStep lo hi) acc
def cutsL (lo hi:Int)(f:Box→Int×Int)(l:List Ev):List Int:=dd eqI (sortN (l.foldl (cutStep2 lo hi f) [lo,hi]))
theorem cut_mem {lo hi:Int} : ∀ (ns acc:List Int) (x:Int),x∈ns.foldl (cutStep lo hi) acc↔x∈acc∨x∈ns∧lo < x∧x < hi
 | [],acc,x=>by simp
 | n :: ns,acc,x=>by
   rw [List.foldl_cons,cut_mem ns]
   unfold cutStep
   by_cases h:lo < n∧n < hi
   · rw [decide_eq_true h.1,decide_eq_true h.2,Bool.and_self,cond_true]
     simp only [List.mem_append,List.mem_cons,List.not_mem_nil,or_false]
     constructor
     · rintro ((h1 | rfl) | h1)
       · exact .inl h1
       · exact .inr ⟨.inl rfl,h⟩
       · exact .inr ⟨.inr h1.1,h1.2⟩
     · rintro (h1 | ⟨rfl | h1,h2⟩)
       · exact .inl (.inl h1)
       · exact .inl (.inr rfl)
       · exact .inr ⟨h1,h2⟩
   · have:(decide (lo < n) && decide (n < hi))=false:=by
       simp only [Bool.and_eq_false_iff,decide_eq_false_iff_not]
       omega
     rw [this,cond_false]
     simp only [List.mem_cons]
     constructor
     · rintro (h1 | h1)
       · exact .inl h1
       · exact .inr ⟨.inr h1.1,h1.2⟩
     · rintro (h1 | ⟨rfl | h1,h2⟩)
       · exact .inl h1
       · exact absurd h2 h
       · exact .inr ⟨h1,h2⟩
theorem cut2_mem {lo hi:Int}{f:Box→Int×Int} : ∀ (l:List Ev) (acc:List Int) (x:Int),x∈l.foldl (cutStep2 lo hi f) acc↔x∈acc∨(∃ e∈l,x=(f e.box).1∨x=(f e.box).2)∧lo < x∧x < hi
 | [],acc,x=>by simp
 | e :: l,acc,x=>by
   rw [List.foldl_cons,cut2_mem l,cutStep2,cut_mem]
   simp only [List.mem_cons,List.not_mem_nil,or_false,exists_eq_or_imp]
   constructor
   · rintro ((h | ⟨h1,h2⟩) | ⟨h1,h2⟩)
     · exact .inl h
     · exact .inr ⟨.inl h1,h2⟩
     · exact .inr ⟨.inr h1,h2⟩
   · rintro (h | ⟨h1 | h1,h2⟩)
     · exact .inl (.inl h)
     · exact .inl (.inr ⟨h1,h2⟩)
     · exact .inr ⟨h1,h2⟩
theorem cut2_len {lo hi:Int}{f:Box→Int×Int} : ∀ (l:List Ev) (acc:List Int),(l.foldl (cutStep2 lo hi f) acc).length≤acc.length + 2 * l.length
 | [],acc=>by simp
 | e :: l,acc=>by
   rw [List.foldl_cons]
   have h1:=cut2_len (lo:=lo) (hi:=hi) (f:=f) l (cutStep2 lo hi f acc e)
   have h2:(cutStep2 lo hi f acc e).length≤acc.length + 2:=by
     unfold cutStep2
     simp only [List.foldl_cons,List.foldl_nil]
     have h3:∀ (a:List Int) (n:Int),(cutStep lo hi a n).length≤a.length + 1:=fun a n=>by
       unfold cutStep
       cases decide (lo < n) && decide (n < hi)<;>simp
     have:=h3 (cutStep lo hi acc (f e.box).1) (f e.box).2
     have:=h3 acc (f e.box).1
     omega
   simp only [List.length_cons]
   omega
theorem cutsL_ok {lo hi:Int}(h:lo < hi)(f:Box→Int×Int)(l:List Ev):Cuts lo hi (cutsL lo hi f l)∧∀ e∈l,(lo < (f e.box).1→(f e.box).1 < hi→(f e.box).1∈cutsL lo hi f l)∧(lo < (f e.box).2→(f e.box).2 < hi→(f e.box).2∈cutsL lo hi f l):=by
 obtain ⟨g1,g2⟩:=dd_ok (sortN_sorted (l.foldl (cutStep2 lo hi f) [lo,hi]))
 have hm:∀ x,x∈cutsL lo hi f l↔(x=lo∨x=hi)∨(∃ e∈l,x=(f e.box).1∨x=(f e.box).2)∧lo < x∧x < hi:=fun x=>by
   unfold cutsL
   rw [g2 x,(sortN_perm _).mem_iff,cut2_mem]
   simp
 have hr:∀ x∈cutsL lo hi f l,lo≤x∧x≤hi:=fun x hx=>by
   rcases (hm x).1 hx with (h | h) | ⟨_,h⟩<;>omega
 refine ⟨⟨g1,first_of g1 ((hm lo).2 (.inl (.inl rfl))) fun x hx=>(hr x hx).1,last_of g1 ((hm hi).2 (.inl (.inr rfl))) fun x hx=>(hr x hx).2,h⟩,fun e he=>⟨fun h1 h2=>(hm _).2 (.inr ⟨⟨e,he,.inl rfl⟩,h1,h2⟩),fun h1 h2=>(hm _).2 (.inr ⟨⟨e,he,.inr rfl⟩,h1,h2⟩)⟩⟩
theorem dd_len:∀ l:List Int,(dd eqI l).length≤l.length
 | []=>Nat.le_refl _
 | x :: r=>by simp only [dd,List.length_cons]; have:=dd_length_le eqI r x; omega
theorem cutsL_len (lo hi:Int)(f:Box→Int×Int)(l:List Ev):(cutsL lo hi f l).length≤2 + 2 * l.length:=by
 unfold cutsL
 have h1:=dd_len (sortN (l.foldl (cutStep2 lo hi f) [lo,hi]))
 have h2:=(sortN_perm (l.foldl (cutStep2 lo hi f) [lo,hi])).length_eq
 have h3:=cut2_len (lo:=lo) (hi:=hi) (f:=f) l [lo,hi]
 simp only [List.length_cons,List.length_nil] at h3
 omega
theorem prsI_len:∀ l:List Int,(prsI l).length=l.length - 1
 | []=>rfl
 | [a]=>rfl
 | a :: b :: r=>by simp only [prsI,List.length_cons,prsI_len (b :: r)]; simp
theorem prsI_get:∀ {l:List Int} {i:Nat} {p:Int×Int},(prsI l)[i]?=some p→l[i]?=some p.1∧l[i + 1]?=some p.2
 | [],i,p,h=>by simp [prsI] at h
 | [a],i,p,h=>by simp [prsI] at h
 | a :: b :: r,i,p,h=>by
   cases i with
   | zero=>simp [prsI] at h; subst h; exact ⟨rfl,rfl⟩
   | succ i=>
     simp only [prsI,List.getElem?_cons_succ] at h
     obtain ⟨h1,h2⟩:=prsI_get h
     exact ⟨by simpa using h1,by simpa using h2⟩
end Tz
