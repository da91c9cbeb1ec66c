/- The sorts of the library, laid at this program; Rows that a call turns; part X20; slices.Sort of strings; part X29; part X30; part X31; no conditions. -/
import Derived.Test.YtogfagkjndoefaaGreatProg
import Derived.Shelf.SlSortCmp.WholeK
import Derived.Shelf.SortM.Plain
import Derived.Shelf.SortM.SortNone
import Derived.Shelf.SlicesG.Cmp
import Derived.KernelRfl
import Derived.Test.YtogfagkjndoefaaGreatGsF
import Derived.Test.YtogfagkjndoefaaGreatTab
import Derived.StillTail
import Derived.OrdersIn
import Derived.TacticsIn
import Derived.ControlIn
import Derived.RangeFuncBox
import Derived.RangeFuncLeaves
import Derived.RangeFuncWrites
import Derived.WalkKit
import Derived.OwnWalkIn
import Derived.TacticsInMore
import Derived.LoopNIn
import Derived.LoopIn
import Derived.BigRegionIn
import Derived.StillTailTactics
import Derived.IntWalk
set_option linter.all false
namespace Go.Proofs
open Go.Shelf
def Tryz.sortBox_ren:Go.Shelf.Ren:=⟨fun | 6=>59 | 15=>96 | 14=>95 | 28=>149 | 29=>150 | 20=>141 | 21=>142 | 22=>143 | 23=>144 | 24=>145 | 25=>146 | 26=>147 | 27=>148 | 46=>185 | 47=>186 | 48=>187 | 49=>188 | 50=>189 | 57=>212 | n=>n,fun | 22=>57 | 24=>25 | 25=>110 | 3=>3 | 39=>136 | 0=>0 | 53=>175 | 55=>177 | 4=>4 | 46=>168 | 45=>167 | 50=>172 | 5=>5 | 9=>9 | 66=>201 | 70=>96 | 76=>222 | 77=>162 | n=>n,fun | n=>n⟩
theorem Tryz.sortBox:Go.Proofs.SlLaysF0.n6 Tryz.prog Tryz.sortBox_ren:={
 mixed:=by kernel_rfl
 f6:=⟨Tryz.f59.name,by decide,Tryz.func59.trans (congrArg some (by kernel_rfl))⟩
 f14:=⟨Tryz.f95.name,by decide,Tryz.func95.trans (congrArg some (by kernel_rfl))⟩
 f15:=Tryz.func96.trans (congrArg some (by kernel_rfl))
 f20:=⟨Tryz.f141.name,by decide,Tryz.func141.trans (congrArg some (by kernel_rfl))⟩
 f21:=⟨Tryz.f142.name,by decide,Tryz.func142.trans (congrArg some (by kernel_rfl))⟩
 f22:=⟨Tryz.f143.name,by decide,Tryz.func143.trans (congrArg some (by kernel_rfl))⟩
 f23:=⟨Tryz.f144.name,by decide,Tryz.func144.trans (congrArg some (by kernel_rfl))⟩
 f24:=⟨Tryz.f145.name,by decide,Tryz.func145.trans (congrArg some (by kernel_rfl))⟩
 f25:=⟨Tryz.f146.name,by decide,Tryz.func146.trans (congrArg some (by kernel_rfl))⟩
 f26:=⟨Tryz.f147.name,by decide,Tryz.func147.trans (congrArg some (by kernel_rfl))⟩
 f27:=⟨Tryz.f148.name,by decide,Tryz.func148.trans (congrArg some (by kernel_rfl))⟩
 f28:=Tryz.func149.trans (congrArg some (by kernel_rfl))
 f29:=Tryz.func150.trans (congrArg some (by kernel_rfl))
 f46:=⟨Tryz.f185.name,by decide,Tryz.func185.trans (congrArg some (by kernel_rfl))⟩
 f47:=Tryz.func186.trans (congrArg some (by kernel_rfl))
 f48:=Tryz.func187.trans (congrArg some (by kernel_rfl))
 f49:=⟨Tryz.f188.name,by decide,Tryz.func188.trans (congrArg some (by kernel_rfl))⟩
 f50:=⟨Tryz.f189.name,by decide,Tryz.func189.trans (congrArg some (by kernel_rfl))⟩
 f57:=⟨Tryz.f212.name,by decide,Tryz.func212.trans (congrArg some (by kernel_rfl))⟩
 t0:=Tryz.underlying0
 a0:=Tryz.isAgg0
 z0:=Tryz.sizeOf0
 v0:=Tryz.zeroValue0
 t3:=Tryz.underlying3
 a3:=Tryz.isAgg3
 z3:=Tryz.sizeOf3
 v3:=Tryz.zeroValue3
 t4:=Tryz.underlying4
 a4:=Tryz.isAgg4
 z4:=Tryz.sizeOf4
 v4:=Tryz.zeroValue4
 t5:=Tryz.underlying5
 a5:=Tryz.isAgg5
 z5:=Tryz.sizeOf5
 v5:=Tryz.zeroValue5
 t9:=Tryz.underlying9
 a9:=Tryz.isAgg9
 z9:=Tryz.sizeOf9
 v9:=Tryz.zeroValue9
 t22:=Tryz.underlying57
 a22:=Tryz.isAgg57
 z22:=Tryz.sizeOf57
 v22:=Tryz.zeroValue57
 t25:=Tryz.underlying110
 a25:=Tryz.isAgg110
 z25:=Tryz.sizeOf110
 v25:=Tryz.zeroValue110
 t39:=Tryz.underlying136
 a39:=Tryz.isAgg136
 z39:=Tryz.sizeOf136
 v39:=Tryz.zeroValue136
 t45:=Tryz.underlying167
 a45:=Tryz.isAgg167
 z45:=Tryz.sizeOf167
 v45:=Tryz.zeroValue167
 t46:=Tryz.underlying168
 a46:=Tryz.isAgg168
 z46:=Tryz.sizeOf168
 v46:=Tryz.zeroValue168
 t50:=Tryz.underlying172
 a50:=Tryz.isAgg172
 z50:=Tryz.sizeOf172
 v50:=Tryz.zeroValue172
 t53:=Tryz.underlying175
 a53:=Tryz.isAgg175
 z53:=Tryz.sizeOf175
 v53:=Tryz.zeroValue175
 t55:=Tryz.underlying177
 a55:=Tryz.isAgg177
 z55:=Tryz.sizeOf177
 v55:=Tryz.zeroValue177
 t66:=Tryz.underlying201
 a66:=Tryz.isAgg201
 z66:=Tryz.sizeOf201
 v66:=Tryz.zeroValue201
 t70:=Tryz.underlying96
 a70:=Tryz.isAgg96
 z70:=Tryz.sizeOf96
 v70:=Tryz.zeroValue96
 t76:=Tryz.underlying222
 a76:=Tryz.isAgg222
 z76:=Tryz.sizeOf222
 v76:=Tryz.zeroValue222
 t77:=Tryz.underlying162
 a77:=Tryz.isAgg162
 z77:=Tryz.sizeOf162
 v77:=Tryz.zeroValue162 }
def Tryz.mSort_ren:Go.Shelf.Ren:=⟨fun | 6=>139 | 8=>96 | 9=>184 | 19=>149 | 20=>150 | 21=>203 | 22=>204 | 23=>205 | 24=>206 | 25=>207 | 26=>208 | 27=>209 | 28=>210 | 29=>211 | 36=>231 | 31=>186 | 32=>187 | 37=>232 | 38=>233 | 39=>234 | 41=>241 | n=>n,fun | 27=>93 | 29=>9 | 3=>3 | 32=>136 | 26=>93 | 0=>0 | 44=>175 | 46=>177 | 4=>4 | 36=>168 | 35=>167 | 41=>172 | 5=>5 | 9=>9 | 53=>201 | 57=>96 | 63=>222 | 64=>162 | n=>n,fun | n=>n⟩
theorem Tryz.mSort:Go.Proofs.SlLaysM.n6 Tryz.prog Tryz.mSort_ren:={
 mixed:=by kernel_rfl
 f6:=⟨Tryz.f139.name,by decide,Tryz.func139.trans (congrArg some (by kernel_rfl))⟩
 f8:=Tryz.func96.trans (congrArg some (by kernel_rfl))
 f9:=⟨Tryz.f184.name,by decide,Tryz.func184.trans (congrArg some (by kernel_rfl))⟩
 f19:=Tryz.func149.trans (congrArg some (by kernel_rfl))
 f20:=Tryz.func150.trans (congrArg some (by kernel_rfl))
 f21:=⟨Tryz.f203.name,by decide,Tryz.func203.trans (congrArg some (by kernel_rfl))⟩
 f22:=⟨Tryz.f204.name,by decide,Tryz.func204.trans (congrArg some (by kernel_rfl))⟩
 f23:=⟨Tryz.f205.name,by decide,Tryz.func205.trans (congrArg some (by kernel_rfl))⟩
 f24:=⟨Tryz.f206.name,by decide,Tryz.func206.trans (congrArg some (by kernel_rfl))⟩
 f25:=⟨Tryz.f207.name,by decide,Tryz.func207.trans (congrArg some (by kernel_rfl))⟩
 f26:=⟨Tryz.f208.name,by decide,Tryz.func208.trans (congrArg some (by kernel_rfl))⟩
 f27:=⟨Tryz.f209.name,by decide,Tryz.func209.trans (congrArg some (by kernel_rfl))⟩
 f28:=⟨Tryz.f210.name,by decide,Tryz.func210.trans (congrArg some (by kernel_rfl))⟩
 f29:=⟨Tryz.f211.name,by decide,Tryz.func211.trans (congrArg some (by kernel_rfl))⟩
 f31:=Tryz.func186.trans (congrArg some (by kernel_rfl))
 f32:=Tryz.func187.trans (congrArg some (by kernel_rfl))
 f36:=⟨Tryz.f231.name,by decide,Tryz.func231.trans (congrArg some (by kernel_rfl))⟩
 f37:=⟨Tryz.f232.name,by decide,Tryz.func232.trans (congrArg some (by kernel_rfl))⟩
 f38:=⟨Tryz.f233.name,by decide,Tryz.func233.trans (congrArg some (by kernel_rfl))⟩
 f39:=⟨Tryz.f234.name,by decide,Tryz.func234.trans (congrArg some (by kernel_rfl))⟩
 f41:=⟨Tryz.f241.name,by decide,Tryz.func241.trans (congrArg some (by kernel_rfl))⟩
 t0:=Tryz.underlying0
 a0:=Tryz.isAgg0
 z0:=Tryz.sizeOf0
 v0:=Tryz.zeroValue0
 t3:=Tryz.underlying3
 a3:=Tryz.isAgg3
 z3:=Tryz.sizeOf3
 v3:=Tryz.zeroValue3
 t4:=Tryz.underlying4
 a4:=Tryz.isAgg4
 z4:=Tryz.sizeOf4
 v4:=Tryz.zeroValue4
 t5:=Tryz.underlying5
 a5:=Tryz.isAgg5
 z5:=Tryz.sizeOf5
 v5:=Tryz.zeroValue5
 t9:=Tryz.underlying9
 a9:=Tryz.isAgg9
 z9:=Tryz.sizeOf9
 v9:=Tryz.zeroValue9
 t26:=Tryz.underlying93
 a26:=Tryz.isAgg93
 z26:=Tryz.sizeOf93
 v26:=Tryz.zeroValue93
 t27:=Tryz.underlying93
 a27:=Tryz.isAgg93
 z27:=Tryz.sizeOf93
 v27:=Tryz.zeroValue93
 t29:=Tryz.underlying9
 a29:=Tryz.isAgg9
 z29:=Tryz.sizeOf9
 v29:=Tryz.zeroValue9
 t32:=Tryz.underlying136
 a32:=Tryz.isAgg136
 z32:=Tryz.sizeOf136
 v32:=Tryz.zeroValue136
 t35:=Tryz.underlying167
 a35:=Tryz.isAgg167
 z35:=Tryz.sizeOf167
 v35:=Tryz.zeroValue167
 t36:=Tryz.underlying168
 a36:=Tryz.isAgg168
 z36:=Tryz.sizeOf168
 v36:=Tryz.zeroValue168
 t41:=Tryz.underlying172
 a41:=Tryz.isAgg172
 z41:=Tryz.sizeOf172
 v41:=Tryz.zeroValue172
 t44:=Tryz.underlying175
 a44:=Tryz.isAgg175
 z44:=Tryz.sizeOf175
 v44:=Tryz.zeroValue175
 t46:=Tryz.underlying177
 a46:=Tryz.isAgg177
 z46:=Tryz.sizeOf177
 v46:=Tryz.zeroValue177
 t53:=Tryz.underlying201
 a53:=Tryz.isAgg201
 z53:=Tryz.sizeOf201
 v53:=Tryz.zeroValue201
 t57:=Tryz.underlying96
 a57:=Tryz.isAgg96
 z57:=Tryz.sizeOf96
 v57:=Tryz.zeroValue96
 t63:=Tryz.underlying222
 a63:=Tryz.isAgg222
 z63:=Tryz.sizeOf222
 v63:=Tryz.zeroValue222
 t64:=Tryz.underlying162
 a64:=Tryz.isAgg162
 z64:=Tryz.sizeOf162
 v64:=Tryz.zeroValue162 }
def Tryz.mInt_ren:Go.Shelf.Ren:=⟨fun | 5=>153 | 8=>96 | 7=>190 | 19=>149 | 20=>150 | 10=>213 | 11=>214 | 12=>215 | 13=>216 | 14=>217 | 15=>218 | 16=>219 | 17=>220 | 18=>221 | 30=>235 | 31=>186 | 32=>187 | 33=>236 | 34=>237 | 35=>151 | 40=>242 | n=>n,fun | 23=>88 | 25=>3 | 3=>3 | 32=>136 | 22=>88 | 0=>0 | 44=>175 | 46=>177 | 4=>4 | 36=>168 | 35=>167 | 41=>172 | 5=>5 | 9=>9 | 53=>201 | 57=>96 | 63=>222 | 64=>162 | n=>n,fun | n=>n⟩
theorem Tryz.mInt:Go.Proofs.SlLaysM.n5 Tryz.prog Tryz.mInt_ren:={
 mixed:=by kernel_rfl
 f5:=⟨Tryz.f153.name,by decide,Tryz.func153.trans (congrArg some (by kernel_rfl))⟩
 f7:=⟨Tryz.f190.name,by decide,Tryz.func190.trans (congrArg some (by kernel_rfl))⟩
 f8:=Tryz.func96.trans (congrArg some (by kernel_rfl))
 f10:=⟨Tryz.f213.name,by decide,Tryz.func213.trans (congrArg some (by kernel_rfl))⟩
 f11:=⟨Tryz.f214.name,by decide,Tryz.func214.trans (congrArg some (by kernel_rfl))⟩
 f12:=⟨Tryz.f215.name,by decide,Tryz.func215.trans (congrArg some (by kernel_rfl))⟩
 f13:=⟨Tryz.f216.name,by decide,Tryz.func216.trans (congrArg some (by kernel_rfl))⟩
 f14:=⟨Tryz.f217.name,by decide,Tryz.func217.trans (congrArg some (by kernel_rfl))⟩
 f15:=⟨Tryz.f218.name,by decide,Tryz.func218.trans (congrArg some (by kernel_rfl))⟩
 f16:=⟨Tryz.f219.name,by decide,Tryz.func219.trans (congrArg some (by kernel_rfl))⟩
 f17:=⟨Tryz.f220.name,by decide,Tryz.func220.trans (congrArg some (by kernel_rfl))⟩
 f18:=⟨Tryz.f221.name,by decide,Tryz.func221.trans (congrArg some (by kernel_rfl))⟩
 f19:=Tryz.func149.trans (congrArg some (by kernel_rfl))
 f20:=Tryz.func150.trans (congrArg some (by kernel_rfl))
 f30:=⟨Tryz.f235.name,by decide,Tryz.func235.trans (congrArg some (by kernel_rfl))⟩
 f31:=Tryz.func186.trans (congrArg some (by kernel_rfl))
 f32:=Tryz.func187.trans (congrArg some (by kernel_rfl))
 f33:=⟨Tryz.f236.name,by decide,Tryz.func236.trans (congrArg some (by kernel_rfl))⟩
 f34:=⟨Tryz.f237.name,by decide,Tryz.func237.trans (congrArg some (by kernel_rfl))⟩
 f35:=⟨Tryz.f151.name,by decide,Tryz.func151.trans (congrArg some (by kernel_rfl))⟩
 f40:=⟨Tryz.f242.name,by decide,Tryz.func242.trans (congrArg some (by kernel_rfl))⟩
 t0:=Tryz.underlying0
 a0:=Tryz.isAgg0
 z0:=Tryz.sizeOf0
 v0:=Tryz.zeroValue0
 t3:=Tryz.underlying3
 a3:=Tryz.isAgg3
 z3:=Tryz.sizeOf3
 v3:=Tryz.zeroValue3
 t4:=Tryz.underlying4
 a4:=Tryz.isAgg4
 z4:=Tryz.sizeOf4
 v4:=Tryz.zeroValue4
 t5:=Tryz.underlying5
 a5:=Tryz.isAgg5
 z5:=Tryz.sizeOf5
 v5:=Tryz.zeroValue5
 t9:=Tryz.underlying9
 a9:=Tryz.isAgg9
 z9:=Tryz.sizeOf9
 v9:=Tryz.zeroValue9
 t22:=Tryz.underlying88
 a22:=Tryz.isAgg88
 z22:=Tryz.sizeOf88
 v22:=Tryz.zeroValue88
 t23:=Tryz.underlying88
 a23:=Tryz.isAgg88
 z23:=Tryz.sizeOf88
 v23:=Tryz.zeroValue88
 t25:=Tryz.underlying3
 a25:=Tryz.isAgg3
 z25:=Tryz.sizeOf3
 v25:=Tryz.zeroValue3
 t32:=Tryz.underlying136
 a32:=Tryz.isAgg136
 z32:=Tryz.sizeOf136
 v32:=Tryz.zeroValue136
 t35:=Tryz.underlying167
 a35:=Tryz.isAgg167
 z35:=Tryz.sizeOf167
 v35:=Tryz.zeroValue167
 t36:=Tryz.underlying168
 a36:=Tryz.isAgg168
 z36:=Tryz.sizeOf168
 v36:=Tryz.zeroValue168
 t41:=Tryz.underlying172
 a41:=Tryz.isAgg172
 z41:=Tryz.sizeOf172
 v41:=Tryz.zeroValue172
 t44:=Tryz.underlying175
 a44:=Tryz.isAgg175
 z44:=Tryz.sizeOf175
 v44:=Tryz.zeroValue175
 t46:=Tryz.underlying177
 a46:=Tryz.isAgg177
 z46:=Tryz.sizeOf177
 v46:=Tryz.zeroValue177
 t53:=Tryz.underlying201
 a53:=Tryz.isAgg201
 z53:=Tryz.sizeOf201
 v53:=Tryz.zeroValue201
 t57:=Tryz.underlying96
 a57:=Tryz.isAgg96
 z57:=Tryz.sizeOf96
 v57:=Tryz.zeroValue96
 t63:=Tryz.underlying222
 a63:=Tryz.isAgg222
 z63:=Tryz.sizeOf222
 v63:=Tryz.zeroValue222
 t64:=Tryz.underlying162
 a64:=Tryz.isAgg162
 z64:=Tryz.sizeOf162
 v64:=Tryz.zeroValue162 }
end Go.Proofs
namespace Gs
open Go Go.Sort
variable [GlobTab]
theorem blk_in {K:Km}{Q:Pm}{w:World}{b:Nat}{x:Blk}(h:BlkOk K Q w b x){B o n:Nat}{k:Option (Bool×Nat×Nat)}(hk:K b=some ⟨some (B,o,n),k⟩):B < w.heap.size:=by
 have key:∀ {ob:Obj},w.heap[B]?=some ob→B < w.heap.size:=fun h=>(Array.getElem?_eq_some_iff.1 h).1
 cases x with
 | itr s pos=>obtain ⟨B',h1,h2,h3⟩:=h; rw [hk] at h1; injection h1 with h1; injection h1 with h1 _; injection h1 with h1; injection h1 with h1 _; subst h1; exact key h2
 | mapB cs fr=>obtain ⟨B',es,cl,h1,h2,_⟩:=h; rw [hk] at h1; injection h1 with h1; injection h1 with h1 _; injection h1 with h1; injection h1 with h1 _; subst h1; exact key h2
 | box cs fr=>obtain ⟨B',vs,t,h1,h2,_⟩:=h; rw [hk] at h1; injection h1 with h1; injection h1 with h1 _; injection h1 with h1; injection h1 with h1 _; subst h1; exact key h2
 | row nz esz xs p d=>
   obtain ⟨_,_,_,h⟩:=h
   rcases h with ⟨g1,_⟩ | ⟨B',base,vs,t,g1,_,g3,_⟩
   · rw [hk] at g1; injection g1 with g1; injection g1 with g1 _; cases g1
   · rw [hk] at g1; injection g1 with g1; injection g1 with g1 _; injection g1 with g1; injection g1 with g1 _; subst g1; exact key g3
theorem lt_of_peek {w:World}{B o:Nat}{v:Value}(h:Peek w B o v):B < w.heap.size:=by
 rcases h with h | ⟨_,es,c,h,_⟩
 · exact lt_of_cell h.1
 · exact (Array.getElem?_eq_some_iff.1 h).1
theorem Sim.turn {w0:World0}{K0 K:Km}{Q:Pm}{H:Heap}{w w':World}(hs:Sim w0 K0 K Q H w){b B base n:Nat}{k:Option (Bool×Nat×Nat)}{x y:Blk}(hx:hget H b=some x)(hk:K b=some ⟨some (B,base,n),k⟩)
   (hw:∀ k,k≠B→k < w.heap.size→w'.heap[k]?=w.heap[k]?) (hsz:w.heap.size≤w'.heap.size) (hos:w'.os=w.os) (hta:w'.tape=w.tape) (hou:w'.output=w.output)
   (hq:∀ o v,Q B o=some v→Peek w' B o v) (hnew:BlkOk K Q w' b y) (hcl:isClean y=true→isClean x=true) (hdr:w.drawn≤w'.drawn):Sim w0 K0 K Q (hset H b y) w':=by
 have hlow:=hs.low b _ B base n hk rfl
 refine ⟨⟨fun B' o v h=>?_,fun c z hz=>?_,fun c j hj=>?_,hs.inj⟩,⟨?_,?_,?_,?_,fun k hk' hn=>?_,fun hm=>Nat.le_trans (hs.kept.drawn hm) hdr⟩,hs.low,fun c hc hc' z hz hcz=>?_,hs.qk,hs.grow⟩
 · by_cases e:B'=B
   · subst e; exact hq o v h
   · have hv:=hs.val B' o v h
     exact hv.congr (hw B' e (lt_of_peek hv))
 · rw [hget_hset] at hz
   by_cases e:b=c
   · subst e; simp at hz; subst hz; exact hnew
   · rw [if_neg e] at hz
     have hbo:=hs.blk c z hz
     refine hbo.heap (fun _ h=>h) (fun _ _ h _=>h) (fun B' o n k h=>hw B' (fun e'=>?_) (blk_in hbo h)) (fun _ _ _ h=>h) fun _ _ _ _ _ _=>rfl
     subst e'
     exact e (hs.inj b c _ _ _ _ _ _ _ hk h rfl rfl)
 · rw [hget_hset]
   by_cases e:b=c
   · simp [e]
   · rw [if_neg e]; exact hs.dom c j hj
 · rw [hos]; exact hs.kept.os
 · rw [hta]; exact hs.kept.tape
 · rw [hou]; exact hs.kept.output
 · exact Nat.le_trans hs.kept.size hsz
 · rw [hw k (fun e=>?_) (Nat.lt_of_lt_of_le hk' hs.kept.size)]
   · exact hs.kept.block k hk' hn
   · subst e
     rcases hlow with h | h
     · exact hn h
     · omega
 · rw [hget_hset] at hz
   by_cases e:b=c
   · subst e; simp at hz; subst hz; exact hs.clean b hc hc' x hx (hcl hcz)
   · rw [if_neg e] at hz; exact hs.clean c hc hc' z hz hcz
theorem sim_of {K:Km}{Q:Pm}{H:Heap}{w:World}(hc:Core K Q H w):Sim ⟨w,Q⟩ K K Q H w:=⟨hc,⟨rfl,rfl,rfl,Nat.le_refl _,fun _ _ _=>rfl,fun _=>Nat.le_refl _⟩,fun b i B o n hk hl=>.inl ⟨b,i,o,n,hk,hl⟩,fun _ _ _ _ _ _=>rfl,fun _ _ _ _=>rfl,fun _ _ _ h=>h⟩
theorem row_turn {K:Km}{Q:Pm}{H:Heap}{w:World}(hc:Core K Q H w){b:Nat}{nz:Bool}{esz:Nat}{xs ys:List D}(hx:hget H b=some (.row nz esz xs 0 false)){B base:Nat}{vs:Array Value}{t:TypeId}
   (hk:K b=some ⟨some (B,base,vs.size),some (nz,esz,xs.length)⟩) (hnz:nz=true→xs≠[]) (hB:w.heap[B]?=some (.cells vs t (0,0))) (hsz:base + xs.length * esz≤vs.size) (hq:∀ o,base≤o→Q B o=none) (hq0:∀ o,o < base→True)
   (hlen:ys.length=xs.length) (hcl:closedL ys=true) (hsh:Shaped esz ys) {F:Array Value} (hF:F.size=xs.length * esz)
   (hel:∀ (i:Nat) (d:D),ys[i]?=some d→∀ (j:Nat) (c:D),(cellsOf d)[j]?=some c→∃ v,F[i * esz + j]?=some v∧Rel K Q c v∧v.oneCell'=true) (n:Nat) (os:Array Obj) :
   Sim ⟨w,Q⟩ K K Q (hset H b (.row nz esz ys 0 false)) (grow (putRow id (Sort.ahead w n) B base F) os):=by
 have hBl:B < w.heap.size:=(Array.getElem?_eq_some_iff.1 hB).1
 have hwB:(grow (putRow id (Sort.ahead w n) B base F) os).heap[B]?=some (.cells (putCells id base F vs) t (0,0)):=by
   have h1:(putRow id (Sort.ahead w n) B base F).heap[B]?=some (.cells (putCells id base F vs) t (0,0)):=by
     simp [putRow,mapBlock,Array.getElem?_modify,hB,onCells]
   show ((putRow id (Sort.ahead w n) B base F).heap ++ os)[B]?=_
   rw [Array.getElem?_append_left (by simpa using hBl)]; exact h1
 have hsz':(putCells id base F vs).size=vs.size:=by simp [putCells]
 refine (sim_of hc).turn hx hk (fun k hne hlt=>?_) ?_ rfl rfl rfl (fun o v ho=>?_) ?_ (fun _=>rfl) (Nat.le_add_right _ _)
 · show ((putRow id (Sort.ahead w n) B base F).heap ++ os)[k]?=_
   rw [Array.getElem?_append_left (by simpa using hlt)]
   simp only [putRow,mapBlock,Array.getElem?_modify,heap_ahead]
   rw [if_neg (fun e=>hne e.symm)]
 · show w.heap.size≤((putRow id (Sort.ahead w n) B base F).heap ++ os).size
   simp
 · have hob:o < base:=by
     rcases Nat.lt_or_ge o base with h | h
     · exact h
     · rw [hq o h] at ho; cases ho
   have hv:w.cell? ⟨B,o,none⟩=some v∧v.oneCell'=true:=by
     rcases hc.val B o v ho with h | ⟨_,es,c,h,_⟩
     · exact h
     · rw [hB] at h; cases h
   refine .inl ⟨?_,hv.2⟩
   rw [cell_of_heap hwB]
   have:=hv.1
   rw [cell_of_heap hB] at this
   simp only [putCells,Array.getElem?_mapIdx,this,Option.map_some]
   rw [if_neg (by omega)]
 · refine ⟨hcl,hsh,Nat.zero_le _,.inr ⟨B,base,putCells id base F vs,t,?_,?_,hwB,?_,?_,?_,?_⟩⟩
   · rw [hsz',hlen]; exact hk
   · intro h; have:=hnz h; intro he; apply this; rw [he] at hlen; exact List.eq_nil_of_length_eq_zero hlen.symm
   · rw [hsz',hlen]; exact hsz
   · intro i d hd j c hcj
     obtain ⟨v,h1,h2,h3⟩:=hel i d hd j c hcj
     refine ⟨v,?_,h2,h3⟩
     have hlt:i * esz + j < F.size:=(Array.getElem?_eq_some_iff.1 h1).1
     have hin:base + i * esz + j < vs.size:=by omega
     simp only [putCells,Array.getElem?_mapIdx,Array.getElem?_eq_getElem hin,Option.map_some]
     rw [if_pos (by omega)]
     have he:base + i * esz + j - base=i * esz + j:=by omega
     rw [he,getElem!_pos F _ hlt]
     have:=Array.getElem?_eq_getElem hlt
     rw [this] at h1; injection h1 with h1; rw [h1]; rfl
   · intro o ho; exact hq o (by omega)
   · intro o h1 h2; omega
end Gs
namespace Gs
open Go
variable [GlobTab]
theorem sim_below {K:Km}{Q:Pm}{H:Heap}{w w':World}(hc:Core K Q H w)(hb:RowKit.Below w.heap.size w w')(h0:GlobTab.counts=false):Sim ⟨w,Q⟩ K K Q H w':=by
 have hs:=sim_of hc
 have hv:∀ B o v,Q B o=some v→Peek w' B o v:=fun B o v h=>by
   have hv:=hc.val B o v h
   exact hv.congr (hb.block B (lt_of_peek hv))
 refine ⟨⟨hv,fun c z hz=>?_,hc.dom,hc.inj⟩,⟨hb.os,hb.tape,hb.output,hb.size,fun k hk hn=>hb.block k hk,fun hm=>by rw [h0] at hm; cases hm⟩,hs.low,hs.clean,hs.qk,hs.grow⟩
 have hbo:=hc.blk c z hz
 exact hbo.heap (fun _ h=>h) (fun _ _ h _=>h) (fun B o n k hk=>hb.block B (blk_in hbo hk)) (fun _ _ _ h=>h) (fun _ _ _ _ _ _=>rfl)
end Gs
namespace Gs
open Go Go.Sort Go.Proofs
theorem putRow_map {α:Type} [Inhabited α] (enc:α→Value)(w:World)(blk off:Nat)(d:Array α):putRow enc w blk off d=putRow id w blk off (d.map enc):=by
 unfold putRow
 congr 1
 funext c
 unfold putCells
 apply Array.ext
 · simp
 · intro i h1 h2
   simp only [Array.getElem_mapIdx,Array.size_map]
   split
   · rename_i h
     have hi:i - off < d.size:=by omega
     rw [getElem!_pos d _ hi,getElem!_pos (d.map enc) _ (by simpa using hi)]
     simp
   · rfl
theorem bytes_sorted (l:List ByteArray):(l.map fun s=>s.data.toList).mergeSort (fun x y=>decide (x≤y))=(sortB l).map fun s=>s.data.toList:=by
 have hp:((l.map fun s=>s.data.toList).mergeSort (fun x y=>decide (x≤y))).Perm (l.map fun s=>s.data.toList):=List.mergeSort_perm _ _
 have hs:((l.map fun s=>s.data.toList).mergeSort (fun x y=>decide (x≤y))).Pairwise (fun a b=>decide (a≤b)=true):=by
   apply List.pairwise_mergeSort
   · intro a b c h1 h2
     simp only [decide_eq_true_eq] at *
     exact List.le_trans h1 h2
   · intro a b
     simp only [Bool.or_eq_true,decide_eq_true_eq]
     exact List.le_total a b
 generalize (l.map fun s=>s.data.toList).mergeSort (fun x y=>decide (x≤y))=m at hp hs
 have hm:(m.map fun bs=>(⟨bs.toArray⟩:ByteArray))=sortB l:=by
   apply sortedB_unique
   · refine ((hp.map _).trans ?_).trans (sortB_perm l).symm
     rw [List.map_map]
     have e:((fun bs:List UInt8=>(⟨bs.toArray⟩:ByteArray)) ∘ fun s:ByteArray=>s.data.toList)=id:=by funext s; cases s; simp
     rw [e,List.map_id]
   · unfold SortedB
     rw [List.pairwise_map]
     refine hs.imp fun {a b} h=>?_
     cases hlt:slt ⟨b.toArray⟩ ⟨a.toArray⟩ with
     | false=>rfl
     | true=>
       rw [slt_iff] at hlt
       have h2:a≤b:=of_decide_eq_true h
       have e1:(⟨b.toArray⟩:ByteArray).toList=b:=by rw [Go.ByteArray.toList_eq]
       have e2:(⟨a.toArray⟩:ByteArray).toList=a:=by rw [Go.ByteArray.toList_eq]
       rw [e1,e2] at hlt
       exact absurd hlt (List.not_lt.2 h2)
   · exact sortB_sorted l
 rw [←hm,List.map_map]
 have e:((fun s:ByteArray=>s.data.toList) ∘ fun bs:List UInt8=>(⟨bs.toArray⟩:ByteArray))=id:=by funext s; simp
 rw [e,List.map_id]
theorem closedL_str:∀ l:List ByteArray,closedL (l.map .str)=true
 | []=>rfl
 | x :: r=>by simp only [List.map_cons,closedL,closed,cond_true,closedL_str r]
theorem shaped_str (l:List ByteArray):Shaped 1 (l.map .str):=by
 intro d hd
 obtain ⟨s,_,rfl⟩:=List.mem_map.1 hd
 rfl
theorem frozen_no {w:World}{B:Nat}{vs:Array Value}{t:TypeId}(h:w.heap[B]?=some (.cells vs t (0,0)))(o:Nat):w.frozen? ⟨B,o,none⟩=false:=by
 simp [World.frozen?,h]
theorem ret_tup {K:Km}{Q:Pm} : Rel K Q (.tup []) (.tuple #[]):=.tup .nil
theorem gives_sortStr (args:List D)(H:Heap)(r:D)(H':Heap)(h:sortStrX args H=some (r,H')):Gives Tryz.prog 139 args H r H':=by
 refine ⟨⟨Tryz.f139,Tryz.func139,by kernel_rfl,by kernel_rfl⟩,fun K Q w avs hids hgl hc ha=>?_⟩
 have none_:∀ (p:Option Addr) (cap:Nat),Calls Tryz.prog 139 #[.slice p 0 cap] w fun e w'=>e = .returned (.tuple #[])∧w'=w:=fun p cap=>AnyM.slices_Sort_string_none Tryz.mSort p cap w
 unfold sortStrX at h
 split at h
 · rename_i _ b
   split at h<;>try (cases h; done)
   rename_i nz xs hrow
   split at h<;>try (cases h; done)
   rename_i l hl
   split at h<;>try (cases h; done)
   rename_i hlen
   have hlen:=of_decide_eq_true hlen
   injection h with h; injection h with h1 h2; subst h1; subst h2
   have hxs:=strs_eq hl
   subst hxs
   cases ha with
   | cons hv ht=>
   cases ht
   have hbo:=hc.blk b _ hrow
   have hsame:∀ c,hget (hset H b (.row nz 1 ([].map D.str) 0 false)) c=hget H c→True:=fun _ _=>trivial
   have done_nil:l=[]→∀ e w',e=Ending.returned (.tuple #[])∧w'=w→∃ v,e = .returned v∧∃ K' Q',Sim ⟨w,Q⟩ K K' Q' (hset H b (.row nz 1 ((sortB l).map .str) 0 false)) w'∧Le Q Q'∧Rel K' Q' (.tup []) v:=by
     rintro rfl e w' ⟨rfl,rfl⟩
     refine ⟨_,rfl,K,Q,(sim_of hc).congr (fun c=>?_),fun _ _ _ h=>h,ret_tup⟩
     rw [hget_hset]
     by_cases e:b=c
     · subst e; rw [if_pos rfl,hrow]; rfl
     · rw [if_neg e]
   cases hv with
   | owNil hk=>
     have hl0:l=[]:=by
       obtain ⟨_,_,_,h⟩:=hbo
       rcases h with ⟨_,h⟩ | ⟨B,base,vs,t,g1,_⟩
       · simpa using h
       · rw [hk] at g1; injection g1 with g1; injection g1 with g1 _; cases g1
     exact (none_ none 0).mono (done_nil hl0)
   | ow hk hle htot haa=>
     rename_i B base tot nz' esz' len cap a
     obtain ⟨hcl,hsh,_,h⟩:=hbo
     rcases h with ⟨g1,_⟩ | ⟨B',base',vs,t,g1,g2,g3,g4,g5,g6,g7⟩
     · rw [hk] at g1; injection g1 with g1; injection g1 with g1 _; cases g1
     have hk':=hk
     rw [g1] at hk'
     injection hk' with hk'; injection hk' with e1 e2; injection e1 with e1; injection e1 with e1 e3; injection e3 with e3 e4; injection e2 with e2; injection e2 with e2 e5; injection e5 with e5 e6
     subst e1; subst e3; subst e4; subst e5; subst e6
     rw [List.length_map] at *
     by_cases hz:l.length=0
     · have hl0:l=[]:=List.eq_nil_of_length_eq_zero hz
       rw [hz]
       exact (none_ (some a) cap).mono (done_nil hl0)
     · have hcap:cap≠0:=by omega
       have haB:=haa hcap
       subst haB
       have hBl:B' < w.heap.size:=(Array.getElem?_eq_some_iff.1 g3).1
       have hH:Holds encStr w B' base' (l.map fun s=>s.data.toList).toArray:=by
         intro j hj
         refine ⟨?_,frozen_no g3 _⟩
         have hj':j < l.length:=by simpa using hj
         obtain ⟨v,h1,h2,_⟩:=g5 j (.str l[j]) (by simp [List.getElem?_eq_getElem hj']) 0 (.str l[j]) rfl
         cases h2
         rw [cell_of_heap g3]
         rw [getElem!_pos _ j (by simpa using hj')]
         simp only [Nat.mul_one,Nat.add_zero] at h1
         rw [h1]; simp
       have hcon:=AnyM.slices_Sort_string Tryz.mSort B' base' cap (l.map fun s=>s.data.toList) w hH hBl (by simpa using hlen)
       rw [List.length_map] at hcon
       refine Calls.mono hcon ?_
       rintro e w' ⟨rfl,n,os,rfl⟩
       rw [bytes_sorted,putRow_map]
       have hlen':(sortB l).length=l.length:=(sortB_perm l).length_eq
       refine ⟨_,rfl,K,Q,row_turn hc hrow (by rw [List.length_map]; exact g1) g2 g3 (by rw [List.length_map]; exact g4) (by intro o ho; exact g6 o (by omega)) (fun _ _=>trivial) (by simp [hlen']) (closedL_str _) (shaped_str _) (by simp [hlen']) ?_ n os,fun _ _ _ h=>h,ret_tup⟩
       intro i d hd j c hcj
       rw [List.getElem?_map] at hd
       cases hsi:(sortB l)[i]? with
       | none=>rw [hsi] at hd; cases hd
       | some s0=>
         rw [hsi] at hd; injection hd with hd; subst hd
         have hj0:j=0∧c = .str s0:=by
           cases j with
           | zero=>injection hcj with hcj; exact ⟨rfl,hcj.symm⟩
           | succ j=>cases hcj
         obtain ⟨rfl,rfl⟩:=hj0
         refine ⟨.string s0,?_,.str s0,rfl⟩
         simp [hsi]
 · rename_i nz' esz'
   injection h with h; injection h with h1 h2; subst h1; subst h2
   cases ha with
   | cons hv ht=>
   cases ht
   have fin:∀ e w',e=Ending.returned (.tuple #[])∧w'=w→∃ v,e = .returned v∧∃ K' Q',Sim ⟨w,Q⟩ K K' Q' H w'∧Le Q Q'∧Rel K' Q' (.tup []) v:=by
     rintro e w' ⟨rfl,rfl⟩
     exact ⟨_,rfl,K,Q,sim_of hc,fun _ _ _ h=>h,ret_tup⟩
   cases hv with
   | fzNil=>exact (none_ none 0).mono fin
   | fz hn _ _ _=>exact absurd rfl hn
 · cases h
end Gs
namespace Go
section
variable {n:Nat} {P:Program} {ops:Array Oper} {md:Region.Mode} {w:World}
theorem wpOpIn_of_stOp {i:Nat}{a:Act}{K:Act→Prop}{K':Act→World→Prop}{Q':Exit→Act→World→Prop}(h:∀ a,K a→K' a w)(hh:stOp P ops w i K a):wpOpIn Fence.wide n P ops Q' i K' a w:=by
 unfold stOp at hh
 unfold wpOpIn
 split
 · rename_i ho; simp only [ho] at hh; exact h _ hh
 · rename_i o ho
   simp only [ho] at hh
   split
   · rename_i hw
     simp only [hw,if_true] at hh
     unfold Oper.still at hh
     refine ⟨fun f _=>trivial,?_⟩
     rw [show Fence.wide.round=none from rfl,Oper.semAt_none]
     generalize (execOp a.eval o).run P w=r at *
     cases r with
     | ok x w'=>
       cases x<;>simp only [Oper.stillUpon] at hh<;>simp only [Oper.uponIn]
       case enter f args=>
         obtain ⟨rfl,v,hc,hn⟩:=hh
         refine ⟨fun h=>(by cases h),callsIn_wide.2 (hc.mono fun e w'' ⟨he,hw⟩=>?_)⟩
         subst he; subst hw; exact h _ hn
       all_goals (obtain ⟨rfl,h2⟩:=hh; exact h _ h2)
     | halt x w'=>simp only [Oper.stillUpon] at hh
   · rename_i hw; simp only [hw] at hh; exact ⟨fun f _=>trivial,h _ hh⟩
theorem wpAnyIn_of_head {m g:Nat}{L:Array Bool→Act→Prop}{Q':Exit→Act→World→Prop}(hL:∀ listed a,L listed a→wpAnyIn Fence.wide n P md ops Q' g listed a w) :
   ∀ (f:Nat) (listed:Array Bool) (a:Act),wpAnyL P md ops w m L f listed a→wpAnyIn Fence.wide n P md ops Q' (f + g) listed a w
 | 0,listed,a,h=>by rw [Nat.zero_add]; exact hL _ _ h
 | f + 1,listed,a,h=>by
   rw [show f + 1 + g=(f + g) + 1 by omega]
   exact ⟨fun h0=>absurd h0 h.1,fun i hi=>wpOpIn_of_stOp (fun a' h'=>wpAnyIn_of_head hL f _ a' h') (h.2 i hi).2⟩
theorem wpAnyIn_of_seq {F:Fence}{Q':Exit→Act→World→Prop} : ∀ (l:List Oper) (k:Nat) (listed:Array Bool) (a:Act) (w:World),(∀ j,l[j]?=ops[k + j]?)→
   Region.seqB md ops l.length k listed=true→wpListIn F n P ops Q' l a w→wpAnyIn F n P md ops Q' l.length listed a w
 | [],_,_,_,_,_,hB,h=>⟨by simpa [Region.seqB] using hB,h⟩
 | o :: l,k,listed,a,w,hl,hB,h=>by
   have h0:ops[k]?=some o:=by simpa using (hl 0).symm
   simp only [List.length_cons,Region.seqB,Bool.and_eq_true,decide_eq_true_eq] at hB
   refine ⟨fun h1=>(by rw [hB.1] at h1; cases h1),fun i hi=>?_⟩
   rw [hB.1] at hi
   have hik:i=k:=by simpa using hi
   subst hik
   have hw:wpOpIn F n P ops Q' i (wpListIn F n P ops Q' l) a w:=by unfold wpOpIn; simp only [h0]; exact h
   exact wpOpIn_mono (fun a' w' h'=>wpAnyIn_of_seq l (i + 1) _ a' w' (fun j=>by have:=hl (j + 1); simpa [Nat.add_assoc,Nat.add_comm 1 j] using this) hB.2 h') hw
theorem wpIn_region_still_tail {id:Nat}{Q:Exit→Act→World→Prop}{a:Act}{w:World}{l:List Oper}(m:Nat)(hm:P.follows .mixedOrders=true)(hB:Region.lexTailB .any l.toArray m=true)
   (h:wpStill P l.toArray { w with drawn:=w.drawn + 1 } (fun a'=>wpListIn Fence.wide n P l.toArray Q (l.drop m) a' { w with drawn:=w.drawn + 1 }) (l.take m) a):(Code.region id l.toArray true).wpIn Fence.wide n P Q a w:=by
 simp only [Region.lexTailB,Bool.and_eq_true,decide_eq_true_eq] at hB
 obtain ⟨⟨⟨⟨hsel,hn⟩,hs⟩,hc⟩,hlex⟩:=hB
 have hn':m < l.length:=by simpa using hn
 have htl:(l.take m).length=m:=by simp; omega
 have hdl:(l.drop m).length=l.toArray.size - m:=by simp
 have inv0:HeadInv .any l.toArray m (Array.replicate l.toArray.size false):=
   ⟨by simp,fun j oj _ hl=>(by rw [getD_replicate_false] at hl; cases hl),fun t _ ht=>getD_in (by simpa using ht) (getD_replicate_false _ _)⟩
 have H:=wpAnyL_lex (md:=.any) (g:=l.toArray.size - m) hsel hs hc hn (l.take m) 0 _ a (fun j hj=>by
   have hj':j < m:=by rw [htl] at hj; exact hj
   simp [hj']) (by simpa using htl) inv0 (by rw [htl]; exact hlex) h
 refine wpIn_region_any hm ?_
 have:=wpAnyIn_of_head (n:=n) (Q':=Q) (g:=l.toArray.size - m) (fun listed a' hL=>by
   have:=wpAnyIn_of_seq (F:=Fence.wide) (n:=n) (md:=.any) (Q':=Q) (l.drop m) m listed a' { w with drawn:=w.drawn + 1 } (fun j=>by simp [List.getElem?_drop]) (by rw [hdl]; exact hL.1) hL.2
   rwa [hdl] at this) _ _ _ H
 rw [htl,show m + (l.toArray.size - m)=l.toArray.size by omega] at this
 exact this
end
end Go
namespace Go.Proofs
open Go.RowKit
attribute [local go_sem] Oper.semAt_some
abbrev Pts:=List (Int×Int)
structure PtsAt (W:World) (b off:Nat) (p:Pts):Prop where
 x:∀ j,j < p.length→W.cell? ⟨b,off + j * 2,none⟩=some (.int .i64 (Gs.gat p j).1)
 y:∀ j,j < p.length→W.cell? ⟨b,off + j * 2 + 1,none⟩=some (.int .i64 (Gs.gat p j).2)
theorem PtsAt.below {n₀:Nat}{A B:World}(h:Below n₀ A B){b off:Nat}{p:Pts}(hb:b < n₀)(hp:PtsAt A b off p):PtsAt B b off p:=
 ⟨fun j hj=>(h.cell (p:=⟨b,off + j * 2,none⟩) hb).trans (hp.x j hj),fun j hj=>(h.cell (p:=⟨b,off + j * 2 + 1,none⟩) hb).trans (hp.y j hj)⟩
abbrev sideV (p:Pts)(k:Nat):Value:=.agg #[.int .i64 (Gs.gat p k).1,.int .i64 (Gs.gat p k).2,.int .i64 (Gs.gat p (Gs.gnx p k)).1,.int .i64 (Gs.gat p (Gs.gnx p k)).2]
set_option maxHeartbeats 1000000 in
theorem edges_in (F:Fence)(n:Nat)(h:F.fn 224)(hro:F.round=none)(a:Option Addr)(len cap:Nat)(w:World) :
   CallsIn F n Tryz.prog 224 #[.slice a len cap] w fun e w'=>e = .returned (.func (.func 240) #[] #[.pointer (some ⟨w.heap.size,0,none⟩)])∧w'=w.alloc (.cells #[.slice a len cap] 78):=by
 refine callsIn_of_wp Tryz.func224 rfl h ?_ hro
 simp only [Tryz.ntmps224,List.size_toArray,List.length_cons,List.length_nil,Nat.reduceAdd,Nat.reduceSub,Array.replicate_succ,Array.replicate_zero,List.push_toArray,List.append_toArray,List.nil_append,List.cons_append]
 gi_wp2
 go_ret
 exact ⟨rfl,rfl⟩
structure Kp2 (n₀ Bs:Nat) (A B:World):Prop where
 below:Below n₀ A B
 box:B.heap[Bs]?=A.heap[Bs]?
theorem Kp2.refl (n₀ Bs:Nat)(A:World):Kp2 n₀ Bs A A:=⟨Below.refl _ _,rfl⟩
theorem Kp2.trans {n₀ Bs:Nat}{A B C:World}(h:Kp2 n₀ Bs A B)(k:Kp2 n₀ Bs B C):Kp2 n₀ Bs A C:=⟨h.below.trans k.below,k.box.trans h.box⟩
theorem Kp2.cell {n₀ Bs:Nat}{A B:World}(h:Kp2 n₀ Bs A B):B.cell? ⟨Bs,0,none⟩=A.cell? ⟨Bs,0,none⟩:=World.cell?_of_block (w:=A) h.box
theorem Kp2.put {n₀ Bs:Nat}{b:Nat}(hn:n₀≤b)(hB:Bs < b):∀ (W:World) (l:Nat) (o o':Obj),b≤l→W.heap[l]?=some o→o.isCells=false→o.isWalk=false→Kp2 n₀ Bs W (W.putObj l o'):=fun W l o o' hl _ _ _=>
 ⟨(Below.refl n₀ W).trans ⟨rfl,rfl,rfl,by simp [World.putObj],fun k hk=>World.putObj_heap_other (by omega)⟩,World.putObj_heap_other (by omega)⟩
abbrev rdV (p:Pts)(x:Nat):Array Value:=#[.int .i64 ((x % p.length:Nat):Int),sideV p (x % p.length)]
set_option maxRecDepth 100000 in
set_option maxHeartbeats 4000000 in
theorem edges1_in (n:Nat)(hn:1≤n)(l Bs n₀ b off cap:Nat)(p:Pts)(hp:0 < p.length)(hreach:p.length < 1000000)(hb:b < n₀)(J Jx:List Nat→World→Prop)
   (hY:∀ pre (x:Nat) W,J pre W→pre.length < p.length→YieldAt Fence.wide (n - 1) Tryz.prog l (rdV p x) W fun e W'=>
     (e = .returned (.bool true)∧J (pre ++ [x]) W'∧Kp2 n₀ Bs W W')∨(e = .returned (.bool false)∧Jx (pre ++ [x]) W'))
   (W:World) (hBs:W.cell? ⟨Bs,0,none⟩=some (.slice (some ⟨b,off,none⟩) p.length cap)) (hc:PtsAt W b off p) (h0:J [] W) (hJd:∀ s W,J s W→J s W.drew) :
   CallsIn Fence.wide n Tryz.prog 240 #[.func (.yield l) #[] #[],.pointer (some ⟨Bs,0,none⟩)] W fun e W'=>(∃ v,e = .returned v)∧
     ((∃ ys,ys=List.range p.length∧J ys W')∨∃ pre,(∃ k,k≤p.length∧pre=List.range k)∧Jx pre W'):=by
 refine callsIn_of_wp Tryz.func240 rfl trivial ?_ rfl
 simp only [Tryz.ntmps240,List.size_toArray,List.length_cons,List.length_nil,Nat.reduceAdd,Nat.reduceSub,Array.replicate_succ,Array.replicate_zero,List.push_toArray,List.append_toArray,List.nil_append,List.cons_append]
 gi_wp2
 gi_loopw [6] (fun i wr=>∃ k:Nat,k≤p.length∧i = .int .i64 k∧J (List.range k) wr∧Kp2 n₀ Bs W wr)
   (fun i _=>p.length - (intOf i).toNat)
 case atStart=>exact ⟨0,Nat.zero_le _,rfl,h0,Kp2.refl _ _ _⟩
 case round=>
   obtain ⟨k,hk,rfl,hJs,hnx⟩:=hrel
   have mixed:Tryz.prog.follows .mixedOrders=true:=by kernel_rfl
   have hB':=hnx.cell.trans hBs
   have hP:=hc.below hnx.below hb
   by_cases hlt:k < p.length
   · obtain ⟨fn,tmps,assign,body,hy,hR⟩:=hY _ k wr.drew (hJd _ _ hJs) (by rw [List.length_range]; exact hlt)
     simp only [rdV,Nat.mod_eq_of_lt hlt] at hy
     have hq:Gs.gnx p k < p.length:=Nat.mod_lt _ hp
     have c1:=hP.x k hlt
     have c2:=hP.y k hlt
     have c3:=hP.x _ hq
     have c4:=hP.y _ hq
     have hne:¬ (p.length:Int)=0:=by omega
     have hne2:((p.length:Int)=0)=False:=eq_false hne
     have hne3:¬ p.length=0:=by omega
     have hr0:(0:Int)≤((k:Int) + 1) % (p.length:Int):=Int.emod_nonneg _ hne
     have hr1:((k:Int) + 1) % (p.length:Int) < (p.length:Int):=Int.emod_lt_of_pos _ (by omega)
     have hr2:(((k:Int) + 1) % (p.length:Int)).toNat=Gs.gnx p k:=by
       rw [show (k:Int) + 1=((k + 1:Nat):Int) by omega,←Int.natCast_emod,Int.toNat_natCast]; rfl
     have ht:((k:Int) + 1).tmod (p.length:Int)=(Gs.gnx p k:Int):=by
       rw [show (k:Int) + 1=((k + 1:Nat):Int) by omega]; exact (Int.ofNat_tmod _ _).symm
     have ht0:(0:Int)≤((k:Int) + 1).tmod (p.length:Int):=by rw [ht]; omega
     have ht1:((k:Int) + 1).tmod (p.length:Int) < (p.length:Int):=by rw [ht]; omega
     have ht2:(((k:Int) + 1).tmod (p.length:Int)).toNat=Gs.gnx p k:=by rw [ht]; rfl
     have hwr:IntKind.i64.wrap ((k:Int) + 1)=(k:Int) + 1:=IntWalk.i64_in _ (by omega)
     gi_wp2
     refine wpIn_region_still_tail 15 mixed (by kernel_rfl) ?_
     simp only [List.take_succ_cons,List.take_zero,List.drop_succ_cons,List.drop_zero]
     repeat still_step
     refine wpStill_nil ?_
     change wpListIn _ _ _ _ _ _ _ wr.drew
     gi_wp2
     refine hR.mono ?_
     rintro e W3 (⟨rfl,hJ3,hk3⟩ | ⟨rfl,hJx3⟩)
     · gi_wp2
       go_roundw
       case rel=>exact ⟨k + 1,by omega,by simp,by rw [List.range_succ]; exact hJ3,hnx.trans (Kp2.trans ⟨(Below.refl _ _).drew,rfl⟩ hk3)⟩
       case measure=>simp [intOf]; omega
     · gi_wp2
       refine bodyPost_ret (results_none rfl _ _ _) rfl ?_
       exact ⟨⟨_,rfl⟩,.inr ⟨_,⟨k + 1,by omega,(List.range_succ).symm⟩,hJx3⟩⟩
   · obtain rfl:k=p.length:=by omega
     gi_wp2
     go_end0
     exact ⟨⟨_,rfl⟩,.inl ⟨_,rfl,hJs⟩⟩
theorem edges_stops (n:Nat)(hn:1≤n)(Bs n₀ b off cap:Nat)(p:Pts)(hp:0 < p.length)(hreach:p.length < 1000000)(hb:b < n₀)(w:World)(hn₀:n₀≤w.heap.size)(hBw:Bs < w.heap.size)
   (hBs:w.cell? ⟨Bs,0,none⟩=some (.slice (some ⟨b,off,none⟩) p.length cap)) (hc:PtsAt w b off p) :
   SeqStopsK Fence.wide n Tryz.prog 240 #[.pointer (some ⟨Bs,0,none⟩)] (rdV p) (Kp2 n₀ Bs) (fun ys=>ys=List.range p.length) (fun pre=>∃ k,k≤p.length∧pre=List.range k) p.length w:=fun l J Jx W hW hA _ hY h0=>
 edges1_in n hn l Bs n₀ b off cap p hp hreach hb J Jx hY W ((hW.cell (p:=⟨Bs,0,none⟩) hBw).trans hBs) (hc.below hW (by omega)) h0
   (fun s W' hs=>hA s W' W'.drew none hs ⟨rfl,rfl,rfl,Nat.le_refl _,fun _ _ _=>rfl⟩ (fun r e=>by cases e))
end Go.Proofs
namespace Go.Proofs
open Go.RowKit
attribute [local go_sem] Oper.semAt_some
theorem small_mul {a b:Int}(h1 : -2000000≤a)(h2:a≤2000000)(h3 : -2000000≤b)(h4:b≤2000000) : -4000000000000≤a * b∧a * b≤4000000000000:=by
 have h:(a * b).natAbs≤2000000 * 2000000:=by
   rw [Int.natAbs_mul]; exact Nat.mul_le_mul (by omega) (by omega)
 omega
theorem wrap64_of' {z:Int}(h1 : -9000000000000000000≤z)(h2:z≤9000000000000000000):wrap64 z=z:=by
 rw [←IntWalk.i64_left]; exact IntWalk.i64_in _ (by omega)
theorem wrap64_of {z:Int}(h : -4000000000000≤z∧z≤4000000000000):wrap64 z=z:=wrap64_of' (by omega) (by omega)
abbrev ptV (a b:Int):Value:=.agg #[.int .i64 a,.int .i64 b]
set_option maxRecDepth 100000 in
set_option maxHeartbeats 2000000 in
theorem cross_in (F:Fence)(n:Nat)(h:F.fn 238)(hro:F.round=none)(ax ay bx by' cx cy:Int)(w:World)
   (ha : -1000000≤ax∧ax≤1000000∧-1000000≤ay∧ay≤1000000) (hb : -1000000≤bx∧bx≤1000000∧-1000000≤by'∧by'≤1000000) (hc : -1000000≤cx∧cx≤1000000∧-1000000≤cy∧cy≤1000000) :
   CallsIn F n Tryz.prog 238 #[ptV ax ay,ptV bx by',ptV cx cy] w fun e w'=>e = .returned (.int .i64 ((bx - ax) * (cy - ay) - (by' - ay) * (cx - ax)))∧
     w'=((w.alloc (.cells #[.int .i64 ax,.int .i64 ay] 76)).alloc (.cells #[.int .i64 bx,.int .i64 by'] 76)).alloc (.cells #[.int .i64 cx,.int .i64 cy] 76):=by
 refine callsIn_of_wp Tryz.func238 rfl h ?_ hro
 simp only [Tryz.ntmps238,List.size_toArray,List.length_cons,List.length_nil,Nat.reduceAdd,Nat.reduceSub,Array.replicate_succ,Array.replicate_zero,List.push_toArray,List.append_toArray,List.nil_append,List.cons_append]
 have e1:wrap64 ((bx - ax) * (cy - ay))=(bx - ax) * (cy - ay):=wrap64_of (small_mul (by omega) (by omega) (by omega) (by omega))
 have e2:wrap64 ((by' - ay) * (cx - ax))=(by' - ay) * (cx - ax):=wrap64_of (small_mul (by omega) (by omega) (by omega) (by omega))
 have e3:wrap64 ((bx - ax) * (cy - ay) - (by' - ay) * (cx - ax))=(bx - ax) * (cy - ay) - (by' - ay) * (cx - ax):=by
   have h1:=small_mul (a:=bx - ax) (b:=cy - ay) (by omega) (by omega) (by omega) (by omega)
   have h2:=small_mul (a:=by' - ay) (b:=cx - ax) (by omega) (by omega) (by omega) (by omega)
   exact wrap64_of' (by omega) (by omega)
 gi_wp2
 rw [e1,e2,e3]
 go_ret
 exact ⟨rfl,rfl⟩
set_option maxRecDepth 100000 in
set_option maxHeartbeats 2000000 in
theorem upper_in (F:Fence)(n:Nat)(h:F.fn 239)(hro:F.round=none)(a b:Int×Int)(w:World) :
   CallsIn F n Tryz.prog 239 #[.agg #[.int .i64 a.1,.int .i64 a.2,.int .i64 b.1,.int .i64 b.2]] w fun e w'=>e = .returned (.bool (Gs.gup a b))∧
     w'=w.alloc (.cells #[.int .i64 a.1,.int .i64 a.2,.int .i64 b.1,.int .i64 b.2] 233):=by
 refine callsIn_of_wp Tryz.func239 rfl h ?_ hro
 simp only [Tryz.ntmps239,List.size_toArray,List.length_cons,List.length_nil,Nat.reduceAdd,Nat.reduceSub,Array.replicate_succ,Array.replicate_zero,List.push_toArray,List.append_toArray,List.nil_append,List.cons_append]
 gi_wp2
 all_goals go_ret
 · rename_i h1 h2
   exact ⟨by rw [show Gs.gup a b=decide (a.1 < b.1) by simp [Gs.gup,h2]]; rfl,by rw [h2]⟩
 · rename_i h1 h2
   refine ⟨?_,rfl⟩
   have:Gs.gup a b=decide (a.2 < b.2):=by simp [Gs.gup,h2]
   rw [this]; rfl
 · rename_i h1
   refine ⟨?_,rfl⟩
   have:Gs.gup a b=true:=by simp [Gs.gup,h1]
   rw [this]; rfl
end Go.Proofs
