/- Closed cells of the row; no conditions. -/
import Derived.Test.YtogfagkjndoefaaGreatX3toX31
import Derived.RangeFuncCalls
import Derived.RangeFuncNested
set_option linter.all false
namespace Go
section
variable {n:Nat} {P:Program} {ops:Array Oper} {md:Region.Mode} {Q:Exit→Act→World→Prop}
def noDefer (ops:Array Oper):Bool:=ops.all fun o=>match o.op with | .defer _=>false | _=>true
theorem noDefer_spec (h:noDefer ops=true){i:Nat}{o:Oper}(ho:ops[i]?=some o):∀ c,o.op≠.defer c:=by
 intro c hc
 have h1:=Array.all_eq_true'.1 h o (Array.mem_of_getElem? ho)
 rw [hc] at h1; cases h1
theorem wpOpIn_round {l i:Nat}(hd:noDefer ops=true){K:Act→World→Prop}{a:Act}{w:World}(h:wpOpIn Fence.wide n P ops Q i K a w):wpOpIn (Fence.wide.inRound l) n P ops Q i K a w:=by
 unfold wpOpIn at *
 split
 · rename_i ho; simp only [ho] at h; exact h
 · rename_i o ho
   simp only [ho] at h
   split
   · rename_i hw
     simp only [hw,if_true] at h
     refine ⟨fun f _=>trivial,?_⟩
     have h2:=h.2
     rw [Oper.semAt_eq _ _ _ (noDefer_spec hd ho)] at h2 ⊢
     generalize (execOp a.eval o).run P w=r at *
     cases r with
     | ok x w'=>cases x<;>exact h2
     | halt x w'=>cases x<;>exact h2
   · rename_i hw; simp only [hw] at h; exact ⟨fun f _=>trivial,h.2⟩
theorem wpAnyIn_round {l:Nat}(hd:noDefer ops=true):∀ (fuel:Nat) (listed:Array Bool) (a:Act) (w:World),wpAnyIn Fence.wide n P md ops Q fuel listed a w→wpAnyIn (Fence.wide.inRound l) n P md ops Q fuel listed a w
 | 0,_,_,_,h=>h
 | fuel + 1,_,_,_,h=>⟨h.1,fun i hi=>wpOpIn_round hd (wpOpIn_mono (fun a' w'=>wpAnyIn_round hd fuel _ a' w') (h.2 i hi))⟩
theorem region_round {l id:Nat}{a:Act}{w:World}(hm:P.follows .mixedOrders=true)(hd:noDefer ops=true)
   (h:wpAnyIn Fence.wide n P .any ops Q ops.size (Array.replicate ops.size false) a w.drew):(Code.region id ops true).wpIn (Fence.wide.inRound l) n P Q a w:=
 wpIn_region_any hm (wpAnyIn_round hd _ _ _ _ h)
end
end Go
