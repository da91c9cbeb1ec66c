/- part P0; no conditions. -/
import Derived.Test.YtboigolndjinhaaGreatS13toS64
set_option linter.all false
open Gs Go
namespace Tz
def Norm (l:List (Int×Int)):Prop:=l.Pairwise (fun p q=>p.2 + 1 < q.1)∧∀ p∈l,p.1≤p.2
def Pts (l:List (Int×Int))(n:Int):Prop:=∃ p∈l,p.1≤n∧n≤p.2
theorem norm_tail {p:Int×Int}{l:List (Int×Int)}(h:Norm (p :: l)):Norm l:=⟨(List.pairwise_cons.1 h.1).2,fun q hq=>h.2 q (by simp [hq])⟩
theorem pts_append (l m:List (Int×Int))(n:Int):Pts (l ++ m) n↔Pts l n∨Pts m n:=by
 constructor
 · rintro ⟨p,hp,h⟩
   rcases List.mem_append.1 hp with hp | hp
   · exact .inl ⟨p,hp,h⟩
   · exact .inr ⟨p,hp,h⟩
 · rintro (⟨p,hp,h⟩ | ⟨p,hp,h⟩)
   · exact ⟨p,List.mem_append.2 (.inl hp),h⟩
   · exact ⟨p,List.mem_append.2 (.inr hp),h⟩
theorem pts_one (p:Int×Int)(n:Int):Pts [p] n↔p.1≤n∧n≤p.2:=by
 simp [Pts]
theorem norm_snoc {l:List (Int×Int)}{p:Int×Int}(hl:Norm l)(hp:p.1≤p.2)(h:∀ q∈l,q.2 + 1 < p.1):Norm (l ++ [p]):=by
 refine ⟨List.pairwise_append.2 ⟨hl.1,List.pairwise_singleton _ _,fun a ha b hb=>?_⟩,fun q hq=>?_⟩
 · rw [List.mem_singleton] at hb; subst hb; exact h a ha
 · rcases List.mem_append.1 hq with hq | hq
   · exact hl.2 q hq
   · rw [List.mem_singleton] at hq; subst hq; exact hp
theorem norm_init {l:List (Int×Int)}{p:Int×Int}(h:Norm (l ++ [p])):Norm l∧p.1≤p.2∧∀ q∈l,q.2 + 1 < p.1:=by
 have h1:=List.pairwise_append.1 h.1
 exact ⟨⟨h1.1,fun q hq=>h.2 q (by simp [hq])⟩,h.2 p (by simp),fun q hq=>h1.2.2 q hq p (by simp)⟩
theorem mstep_norm {acc:List (Int×Int)}{x:Int×Int}(ha:Norm acc)(hx:x.1≤x.2)(h:∀ p∈acc,p.1≤x.1) :
   Norm (mstep acc x)∧(∀ p∈mstep acc x,p.1≤x.1)∧∀ n,Pts (mstep acc x) n↔Pts acc n∨x.1≤n∧n≤x.2:=by
 unfold mstep
 cases hl:acc.getLast? with
 | none=>
   have:acc=[]:=by simpa using hl
   subst this
   refine ⟨norm_snoc ha hx (by simp),by simp,fun n=>?_⟩
   rw [pts_append,pts_one]
 | some p=>
   obtain ⟨pre,rfl⟩:∃ pre,acc=pre ++ [p]:=List.getLast?_eq_some_iff.1 hl
   obtain ⟨h1,h2,h3⟩:=norm_init ha
   have hpx:=h p (by simp)
   simp only
   cases hc:decide (x.1≤p.2 + 1) with
   | true=>
     have hc':=of_decide_eq_true hc
     simp only [cond_true,List.dropLast_concat]
     refine ⟨norm_snoc h1 (by simp only; omega) h3,?_,fun n=>?_⟩
     · intro q hq
       rcases List.mem_append.1 hq with hq | hq
       · exact h q (by simp [hq])
       · rw [List.mem_singleton] at hq; subst hq; exact hpx
     · rw [pts_append,pts_one,pts_append,pts_one]
       simp only
       constructor
       · rintro (hq | hq)
         · exact .inl (.inl hq)
         · by_cases hn:n≤p.2
           · exact .inl (.inr ⟨hq.1,hn⟩)
           · exact .inr ⟨by omega,by omega⟩
       · rintro ((hq | hq) | hq)
         · exact .inl hq
         · exact .inr ⟨hq.1,by omega⟩
         · exact .inr ⟨by omega,by omega⟩
   | false=>
     have hc':=of_decide_eq_false hc
     simp only [cond_false]
     refine ⟨norm_snoc ha hx fun q hq=>?_,?_,fun n=>?_⟩
     · rcases List.mem_append.1 hq with hq | hq
       · have:=h3 q hq; omega
       · rw [List.mem_singleton] at hq; subst hq; omega
     · intro q hq
       rcases List.mem_append.1 hq with hq | hq
       · exact h q hq
       · rw [List.mem_singleton] at hq; subst hq; exact Int.le_refl _
     · rw [pts_append,pts_one]
theorem mfold_norm:∀ (xs acc:List (Int×Int)),Norm acc→(∀ x∈xs,x.1≤x.2)→xs.Pairwise (fun a b=>a.1≤b.1)→(∀ p∈acc,∀ x∈xs,p.1≤x.1)→
   Norm (xs.foldl mstep acc)∧∀ n,Pts (xs.foldl mstep acc) n↔Pts acc n∨Pts xs n
 | [],acc,ha,_,_,_=>⟨ha,fun n=>by simp [Pts]⟩
 | x :: r,acc,ha,hx,hs,h=>by
   have hs':=List.pairwise_cons.1 hs
   obtain ⟨h1,h2,h3⟩:=mstep_norm ha (hx x (by simp)) (fun p hp=>h p hp x (by simp))
   have ih:=mfold_norm r (mstep acc x) h1 (fun y hy=>hx y (by simp [hy])) hs'.2 (fun p hp y hy=>by have:=h2 p hp; have:=hs'.1 y hy; omega)
   refine ⟨ih.1,fun n=>?_⟩
   rw [List.foldl_cons,ih.2,h3,show x :: r=[x] ++ r from rfl,pts_append,pts_one,or_assoc]
theorem merged_norm (l:List (Int×Int))(h:∀ x∈l,x.1≤x.2):Norm (merged l)∧∀ n,Pts (merged l) n↔Pts l n:=by
 have hp:=sortIv_all l
 have:=mfold_norm (sortIv l) [] ⟨List.Pairwise.nil,by simp⟩ (fun x hx=>h x (hp.1.mem_iff.1 hx)) hp.2 (by simp)
 refine ⟨this.1,fun n=>?_⟩
 unfold merged
 rw [this.2]
 constructor
 · rintro (⟨p,hp',_⟩ | ⟨p,hp',h'⟩)
   · cases hp'
   · exact ⟨p,hp.1.mem_iff.1 hp',h'⟩
 · rintro ⟨p,hp',h'⟩
   exact .inr ⟨p,hp.1.mem_iff.2 hp',h'⟩
end Tz
