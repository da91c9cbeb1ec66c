/- part P11; no conditions. -/
import Derived.Test.YtogfagkjndoefaaGreatP10
import Derived.Test.YtogfagkjndoefaaGreatS146toS147
set_option linter.all false
open Gs Go
namespace Tz
section
variable {p:List Pt}
theorem gat_prs {i:Nat}(hi:i < p.length):gat (prs p) i=((pt p i).x,(pt p i).y):=by
 simp [gat,prs,pt,hi]
theorem gnx_prs (i:Nat):gnx (prs p) i=nx p i:=by simp [gnx,nx,prs_len]
theorem gdet_prs {a b c:Nat}{q:List Pt}(ha:a < p.length)(hb:b < p.length)(hc:c < q.length):gdet (gat (prs p) a) (gat (prs p) b) (gat (prs q) c)=det (pt p a) (pt p b) (pt q c):=by
 rw [gat_prs ha,gat_prs hb,gat_prs hc]; rfl
theorem gconv_of (hp:3≤p.length)(ha:AllIn p)(hc:convex p=true):gconv (prs p)=true:=by
 have hn:0 < p.length:=by omega
 have h1:=turns_once hp ha hc
 have ht:turns p=false:=by
   simp only [convex,Bool.and_eq_true,Bool.not_eq_true'] at hc; exact hc.1
 unfold gconv
 rw [Bool.and_eq_true,Bool.not_eq_true',List.any_eq_false,decide_eq_true_eq,prs_len]
 refine ⟨fun i hi=>?_,?_⟩
 · have hi:=List.mem_range.1 hi
   have h2:=List.any_eq_false.1 ht i (List.mem_range.2 hi)
   have h3:ori (pt p i) (pt p (nx p i)) (pt p (nx p (nx p i)))=1:=by simpa using h2
   unfold gbad
   rw [gnx_prs,gnx_prs,gdet_prs hi (nx_lt hn) (nx_lt hn)]
   unfold ori sgn at h3
   split at h3
   · simp; omega
   · split at h3<;>omega
 · rw [←h1]
   congr 1
   apply List.filter_congr
   intro i hi
   have hi:=List.mem_range.1 hi
   unfold gsw swB
   rw [gnx_prs,gnx_prs,gat_prs hi,gat_prs (nx_lt hn),gat_prs (nx_lt hn)]
   rfl
end
end Tz
