/- part P10; no conditions. -/
import Derived.Test.YtogfagkjndoefaaGreatP5toP9
set_option linter.all false
open Gs Go
namespace Tz
def rq (v:Pt):Pt:=⟨v.y,-v.x⟩
theorem det_rq (a b c:Pt):det (rq a) (rq b) (rq c)=det a b c:=by unfold det rq; grind
section
variable {p:List Pt} {x0 x1 a y0 y1:Int}
theorem nx_rq (p:List Pt)(i:Nat):nx (p.map rq) i=nx p i:=by unfold nx; rw [List.length_map]
theorem pt_rq {i:Nat}(h:i < p.length):pt (p.map rq) i=rq (pt p i):=by simp [pt,h]
theorem Cvx.rq (h:Cvx p):Cvx (p.map rq):=by
 have hn:0 < p.length:=by have:=h.len; omega
 have l1:=nx_lt (p:=p) (i:=0) hn
 refine ⟨by rw [List.length_map]; exact h.len,fun {i k} hi hk=>?_,?_⟩
 · rw [List.length_map] at hi hk
   rw [nx_rq,pt_rq hi,pt_rq hk,pt_rq (nx_lt hn),det_rq]
   exact h.g hi hk
 · rw [nx_rq,nx_rq,pt_rq hn,pt_rq l1,pt_rq (nx_lt hn),det_rq]
   exact h.s
end
end Tz
