/- part P11; no conditions. -/
import Derived.Test.YtogfagkjndoefaaGreatP10
import Derived.Test.YtogfagkjndoefaaGreatS146toS147
set_option linter.all false
open Gs Go
namespace Tz
section
variable {p:List Pt}
theorem gat_prs {i:Nat}(hi:i < p.length):gat (prs p) i=((pt p i).x,(pt p i).y):=by
 simp [gat,prs,pt,hi]
theorem gnx_prs (i:Nat):gnx (prs p) i=nx p i:=by simp [gnx,nx,prs_len]
theorem gdet_prs {a b c:Nat}{q:List Pt}(ha:a < p.length)(hb:b < p.length)(hc:c < q.length):gdet (gat (prs p) a) (gat (prs p) b) (gat (prs q) c)=det (pt p a) (pt p b) (pt q c):=by
 rw [gat_prs ha,gat_prs hb,gat_prs hc]; rfl
theorem gconv_of (hp:3≤p.length)(ha:AllIn p)(hc:convex p=true):gconv (prs p)=true:=by
 have hn:0 < p.length:=by omega
 have h1:=turns_once hp ha hc
 have ht:turns p=false:=by
   simp only [convex,Bool.and_eq_true,Bool.not_eq_true'] at hc; exact hc.1
 unfold gconv
 rw [Bool.and_eq_true,Bool.not_eq_true',List.any_eq_false,decide_eq_true_eq,prs_len]
 refine ⟨fun i hi=>?_,?_⟩
 · have hi:=List.mem_range.1 hi
   have h2:=List.any_eq_false.1 ht i (List.mem_range.2 hi)
   have h3:ori (pt p i) (pt p (nx p i)) (pt p (nx p (nx p i)))=1:=by simpa using h2
   unfold gbad
   rw [gnx_prs,gnx_prs,gdet_prs hi (nx_lt hn) (nx_lt hn)]
   unfold ori sgn at h3
   split at h3
   · simp; omega
   · split at h3<;>omega
 · rw [←h1]
   congr 1
   apply List.filter_congr
   intro i hi
   have hi:=List.mem_range.1 hi
   unfold gsw swB
   rw [gnx_prs,gnx_prs,gat_prs hi,gat_prs (nx_lt hn),gat_prs (nx_lt hn)]
   rfl
theorem gdiv_all (a b:Int×Int)(q:List Pt):gdiv a b (prs q)=true↔∀ c∈q,gdet a b (c.x,c.y)≤0:=by
 unfold gdiv prs
 rw [Bool.not_eq_true',List.any_eq_false]
 constructor
 · intro h c hc
   have:=h _ (List.mem_map.2 ⟨c,hc,rfl⟩)
   simpa using this
 · intro h x hx
   obtain ⟨c,hc,rfl⟩:=List.mem_map.1 hx
   have:=h c hc
   simp; omega
theorem gedge_neg (l q:List (Int×Int)):gedge l q < 0↔∀ i,i < l.length→gdiv (gat l i) (gat l (gnx l i)) q=false:=by
 unfold gedge
 cases hf:(List.range l.length).find? (fun i=>gdiv (gat l i) (gat l (gnx l i)) q) with
 | none=>
   have:=List.find?_eq_none.1 hf
   constructor
   · intro _ i hi; simpa using this i (List.mem_range.2 hi)
   · intro _; simp
 | some k=>
   have h1:=List.find?_some hf
   have h2:=List.mem_range.1 (List.mem_of_find?_eq_some hf)
   constructor
   · intro h; exfalso; exact absurd h (by simp)
   · intro h; rw [h k h2] at h1; cases h1
theorem edge_p (b:Box):gedge (prs p) (prs (rect b)) < 0↔¬ Edg p b.x0 b.y0 b.x1 b.y1:=by
 rw [gedge_neg,prs_len]
 have key:∀ i,i < p.length→(gdiv (gat (prs p) i) (gat (prs p) (gnx (prs p) i)) (prs (rect b))=true↔(Rt (pt p i) (pt p (nx p i)) b.x0 b.y0∧Rt (pt p i) (pt p (nx p i)) b.x1 b.y0∧Rt (pt p i) (pt p (nx p i)) b.x1 b.y1∧Rt (pt p i) (pt p (nx p i)) b.x0 b.y1)):=by
   intro i hi
   have hn:0 < p.length:=by omega
   rw [gnx_prs,gat_prs hi,gat_prs (nx_lt hn),gdiv_all]
   simp only [rect,List.mem_cons,List.not_mem_nil,or_false,forall_eq_or_imp,forall_eq]
   exact Iff.rfl
 constructor
 · rintro h ⟨i,hi,hr⟩
   have:=(key i hi).2 hr
   rw [h i hi] at this; cases this
 · intro h i hi
   cases hg:gdiv (gat (prs p) i) (gat (prs p) (gnx (prs p) i)) (prs (rect b)) with
   | false=>rfl
   | true=>exact absurd ⟨i,hi,(key i hi).1 hg⟩ h
theorem edge_b {b:Box}(hx:b.x0 < b.x1)(hy:b.y0 < b.y1):gedge (prs (rect b)) (prs p) < 0↔¬ Side p b.x0 b.y0 b.x1 b.y1:=by
 rw [gedge_neg]
 have hl:(prs (rect b)).length=4:=rfl
 rw [hl]
 have s0:gdiv (gat (prs (rect b)) 0) (gat (prs (rect b)) (gnx (prs (rect b)) 0)) (prs p)=true↔∀ c∈p,c.y≤b.y0:=by
   rw [gdiv_all]
   refine forall_congr' fun c=>forall_congr' fun _=>?_
   show (b.x1 - b.x0) * (c.y - b.y0) - (b.y0 - b.y0) * (c.x - b.x0)≤0↔_
   rw [Int.sub_self,Int.zero_mul,Int.sub_zero]
   constructor
   · intro h
     rcases Int.lt_or_le b.y0 c.y with h1 | h1
     · have:=Int.mul_pos (show 0 < b.x1 - b.x0 by omega) (show 0 < c.y - b.y0 by omega); omega
     · exact h1
   · intro h
     have:=Int.mul_nonneg (show 0≤b.x1 - b.x0 by omega) (show 0≤b.y0 - c.y by omega)
     have e:(b.x1 - b.x0) * (c.y - b.y0) = -((b.x1 - b.x0) * (b.y0 - c.y)):=by rw [←Int.mul_neg]; congr 1; omega
     omega
 have s1:gdiv (gat (prs (rect b)) 1) (gat (prs (rect b)) (gnx (prs (rect b)) 1)) (prs p)=true↔∀ c∈p,b.x1≤c.x:=by
   rw [gdiv_all]
   refine forall_congr' fun c=>forall_congr' fun _=>?_
   show (b.x1 - b.x1) * (c.y - b.y0) - (b.y1 - b.y0) * (c.x - b.x1)≤0↔_
   rw [Int.sub_self,Int.zero_mul,Int.zero_sub]
   constructor
   · intro h
     rcases Int.lt_or_le c.x b.x1 with h1 | h1
     · have:=Int.mul_pos (show 0 < b.y1 - b.y0 by omega) (show 0 < b.x1 - c.x by omega)
       have e:(b.y1 - b.y0) * (c.x - b.x1) = -((b.y1 - b.y0) * (b.x1 - c.x)):=by rw [←Int.mul_neg]; congr 1; omega
       omega
     · exact h1
   · intro h
     have:=Int.mul_nonneg (show 0≤b.y1 - b.y0 by omega) (show 0≤c.x - b.x1 by omega)
     omega
 have s2:gdiv (gat (prs (rect b)) 2) (gat (prs (rect b)) (gnx (prs (rect b)) 2)) (prs p)=true↔∀ c∈p,b.y1≤c.y:=by
   rw [gdiv_all]
   refine forall_congr' fun c=>forall_congr' fun _=>?_
   show (b.x0 - b.x1) * (c.y - b.y1) - (b.y1 - b.y1) * (c.x - b.x1)≤0↔_
   rw [Int.sub_self,Int.zero_mul,Int.sub_zero]
   have e:(b.x0 - b.x1) * (c.y - b.y1) = -((b.x1 - b.x0) * (c.y - b.y1)):=by rw [←Int.neg_mul]; congr 1; omega
   constructor
   · intro h
     rcases Int.lt_or_le c.y b.y1 with h1 | h1
     · have:=Int.mul_pos (show 0 < b.x1 - b.x0 by omega) (show 0 < b.y1 - c.y by omega)
       have e':(b.x1 - b.x0) * (c.y - b.y1) = -((b.x1 - b.x0) * (b.y1 - c.y)):=by rw [←Int.mul_neg]; congr 1; omega
       omega
     · exact h1
   · intro h
     have:=Int.mul_nonneg (show 0≤b.x1 - b.x0 by omega) (show 0≤c.y - b.y1 by omega)
     omega
 have s3:gdiv (gat (prs (rect b)) 3) (gat (prs (rect b)) (gnx (prs (rect b)) 3)) (prs p)=true↔∀ c∈p,c.x≤b.x0:=by
   rw [gdiv_all,show gnx (prs (rect b)) 3=0 by simp [gnx,prs,rect]]
   refine forall_congr' fun c=>forall_congr' fun _=>?_
   show (b.x0 - b.x0) * (c.y - b.y1) - (b.y0 - b.y1) * (c.x - b.x0)≤0↔_
   rw [Int.sub_self,Int.zero_mul,Int.zero_sub]
   have e:(b.y0 - b.y1) * (c.x - b.x0) = -((b.y1 - b.y0) * (c.x - b.x0)):=by rw [←Int.neg_mul]; congr 1; omega
   constructor
   · intro h
     rcases Int.lt_or_le b.x0 c.x with h1 | h1
     · have:=Int.mul_pos (show 0 < b.y1 - b.y0 by omega) (show 0 < c.x - b.x0 by omega)
       omega
     · exact h1
   · intro h
     have:=Int.mul_nonneg (show 0≤b.y1 - b.y0 by omega) (show 0≤b.x0 - c.x by omega)
     have e':(b.y1 - b.y0) * (c.x - b.x0) = -((b.y1 - b.y0) * (b.x0 - c.x)):=by rw [←Int.mul_neg]; congr 1; omega
     omega
 constructor
 · rintro h (g | g | g | g)
   · have:=s0.2 g; rw [h 0 (by omega)] at this; cases this
   · have:=s1.2 g; rw [h 1 (by omega)] at this; cases this
   · have:=s2.2 g; rw [h 2 (by omega)] at this; cases this
   · have:=s3.2 g; rw [h 3 (by omega)] at this; cases this
 · intro h i hi
   rw [←Bool.not_eq_true]
   intro hg
   apply h
   have:i=0∨i=1∨i=2∨i=3:=by omega
   rcases this with rfl | rfl | rfl | rfl
   · exact .inl (s0.1 hg)
   · exact .inr (.inl (s1.1 hg))
   · exact .inr (.inr (.inl (s2.1 hg)))
   · exact .inr (.inr (.inr (s3.1 hg)))
def Off (p:List Pt)(b:Box):Prop:=Side p b.x0 b.y0 b.x1 b.y1∨Edg p b.x0 b.y0 b.x1 b.y1
theorem meets_off {b:Box}(hok:b.ok=true)(lo hi:Int):pMeets p lo hi (rect b) b.z0 b.z1=true↔(lo < b.z1∧b.z0 < hi)∧¬ Off p b:=by
 simp only [Box.ok,Bool.and_eq_true,decide_eq_true_eq] at hok
 unfold pMeets Off
 simp only [Bool.and_eq_true,decide_eq_true_eq]
 rw [edge_p,edge_b hok.1.1 hok.1.2,not_or]
 constructor
 · rintro ⟨⟨h1,h2⟩,h3⟩; exact ⟨h1,h3,h2⟩
 · rintro ⟨h1,h2,h3⟩; exact ⟨⟨h1,h3⟩,h2⟩
end
end Tz
