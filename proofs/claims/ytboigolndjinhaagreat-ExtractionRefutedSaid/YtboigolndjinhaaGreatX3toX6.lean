/- The sorts of the library, laid at this program; Rows that a call turns; slices.Sort of strings; part X5d; The comparison handed to slices.SortFunc; no conditions. -/
import Derived.Test.YtboigolndjinhaaGreatProg
import Derived.Shelf.SlSortCmp.WholeK
import Derived.Shelf.SortM.Plain
import Derived.Shelf.SortM.SortNone
import Derived.Shelf.SlicesG.Cmp
import Derived.KernelRfl
import Derived.Test.YtboigolndjinhaaGreatGsF
import Derived.Test.YtboigolndjinhaaGreatTab
import Derived.WalkKit
import Derived.Deep.RegionLaw
import Derived.Sort.WalkB12
import Derived.Sort.EncStr
import Derived.Lib.Walk
import Derived.Lib.SliceRun
import Derived.Lib.SlicesDelete
set_option linter.all false
namespace Go.Proofs
open Go.Shelf
def Tryz.sortIv_ren:Go.Shelf.Ren:=⟨fun | 6=>257 | 15=>162 | 14=>267 | 28=>217 | 29=>218 | 20=>273 | 21=>274 | 22=>275 | 23=>276 | 24=>277 | 25=>278 | 26=>279 | 27=>280 | 46=>281 | 47=>238 | 48=>239 | 49=>282 | 50=>283 | 57=>284 | n=>n,fun | 22=>187 | 24=>192 | 25=>268 | 3=>3 | 39=>183 | 0=>0 | 53=>231 | 55=>233 | 4=>4 | 46=>224 | 45=>223 | 50=>193 | 5=>5 | 9=>9 | 66=>248 | 70=>252 | 76=>261 | 77=>210 | n=>n,fun | n=>n⟩
theorem Tryz.sortIv:Go.Proofs.SlLaysF0.n6 Tryz.prog Tryz.sortIv_ren:={
 mixed:=by kernel_rfl,
 f6:=⟨Tryz.f257.name,by decide,Tryz.func257.trans (congrArg some (by kernel_rfl))⟩,
 f14:=⟨Tryz.f267.name,by decide,Tryz.func267.trans (congrArg some (by kernel_rfl))⟩,
 f15:=Tryz.func162.trans (congrArg some (by kernel_rfl)),
 f20:=⟨Tryz.f273.name,by decide,Tryz.func273.trans (congrArg some (by kernel_rfl))⟩,
 f21:=⟨Tryz.f274.name,by decide,Tryz.func274.trans (congrArg some (by kernel_rfl))⟩,
 f22:=⟨Tryz.f275.name,by decide,Tryz.func275.trans (congrArg some (by kernel_rfl))⟩,
 f23:=⟨Tryz.f276.name,by decide,Tryz.func276.trans (congrArg some (by kernel_rfl))⟩,
 f24:=⟨Tryz.f277.name,by decide,Tryz.func277.trans (congrArg some (by kernel_rfl))⟩,
 f25:=⟨Tryz.f278.name,by decide,Tryz.func278.trans (congrArg some (by kernel_rfl))⟩,
 f26:=⟨Tryz.f279.name,by decide,Tryz.func279.trans (congrArg some (by kernel_rfl))⟩,
 f27:=⟨Tryz.f280.name,by decide,Tryz.func280.trans (congrArg some (by kernel_rfl))⟩,
 f28:=Tryz.func217.trans (congrArg some (by kernel_rfl)),
 f29:=Tryz.func218.trans (congrArg some (by kernel_rfl)),
 f46:=⟨Tryz.f281.name,by decide,Tryz.func281.trans (congrArg some (by kernel_rfl))⟩,
 f47:=Tryz.func238.trans (congrArg some (by kernel_rfl)),
 f48:=Tryz.func239.trans (congrArg some (by kernel_rfl)),
 f49:=⟨Tryz.f282.name,by decide,Tryz.func282.trans (congrArg some (by kernel_rfl))⟩,
 f50:=⟨Tryz.f283.name,by decide,Tryz.func283.trans (congrArg some (by kernel_rfl))⟩,
 f57:=⟨Tryz.f284.name,by decide,Tryz.func284.trans (congrArg some (by kernel_rfl))⟩,
 t0:=Tryz.underlying0,
 a0:=Tryz.isAgg0,
 z0:=Tryz.sizeOf0,
 v0:=Tryz.zeroValue0,
 t3:=Tryz.underlying3,
 a3:=Tryz.isAgg3,
 z3:=Tryz.sizeOf3,
 v3:=Tryz.zeroValue3,
 t4:=Tryz.underlying4,
 a4:=Tryz.isAgg4,
 z4:=Tryz.sizeOf4,
 v4:=Tryz.zeroValue4,
 t5:=Tryz.underlying5,
 a5:=Tryz.isAgg5,
 z5:=Tryz.sizeOf5,
 v5:=Tryz.zeroValue5,
 t9:=Tryz.underlying9,
 a9:=Tryz.isAgg9,
 z9:=Tryz.sizeOf9,
 v9:=Tryz.zeroValue9,
 t22:=Tryz.underlying187,
 a22:=Tryz.isAgg187,
 z22:=Tryz.sizeOf187,
 v22:=Tryz.zeroValue187,
 t25:=Tryz.underlying268,
 a25:=Tryz.isAgg268,
 z25:=Tryz.sizeOf268,
 v25:=Tryz.zeroValue268,
 t39:=Tryz.underlying183,
 a39:=Tryz.isAgg183,
 z39:=Tryz.sizeOf183,
 v39:=Tryz.zeroValue183,
 t45:=Tryz.underlying223,
 a45:=Tryz.isAgg223,
 z45:=Tryz.sizeOf223,
 v45:=Tryz.zeroValue223,
 t46:=Tryz.underlying224,
 a46:=Tryz.isAgg224,
 z46:=Tryz.sizeOf224,
 v46:=Tryz.zeroValue224,
 t50:=Tryz.underlying193,
 a50:=Tryz.isAgg193,
 z50:=Tryz.sizeOf193,
 v50:=Tryz.zeroValue193,
 t53:=Tryz.underlying231,
 a53:=Tryz.isAgg231,
 z53:=Tryz.sizeOf231,
 v53:=Tryz.zeroValue231,
 t55:=Tryz.underlying233,
 a55:=Tryz.isAgg233,
 z55:=Tryz.sizeOf233,
 v55:=Tryz.zeroValue233,
 t66:=Tryz.underlying248,
 a66:=Tryz.isAgg248,
 z66:=Tryz.sizeOf248,
 v66:=Tryz.zeroValue248,
 t70:=Tryz.underlying252,
 a70:=Tryz.isAgg252,
 z70:=Tryz.sizeOf252,
 v70:=Tryz.zeroValue252,
 t76:=Tryz.underlying261,
 a76:=Tryz.isAgg261,
 z76:=Tryz.sizeOf261,
 v76:=Tryz.zeroValue261,
 t77:=Tryz.underlying210,
 a77:=Tryz.isAgg210,
 z77:=Tryz.sizeOf210,
 v77:=Tryz.zeroValue210 }
def Tryz.cmpInt_ren:Go.Shelf.Ren:=⟨fun | 5=>259 | 7=>268 | n=>n,fun | 22=>3 | 3=>3 | 4=>4 | n=>n,fun | n=>n⟩
theorem Tryz.cmpInt:Go.Proofs.SlLaysC2.n5 Tryz.prog Tryz.cmpInt_ren:={
 mixed:=by kernel_rfl,
 f5:=⟨Tryz.f259.name,by decide,Tryz.func259.trans (congrArg some (by kernel_rfl))⟩,
 f7:=⟨Tryz.f268.name,by decide,Tryz.func268.trans (congrArg some (by kernel_rfl))⟩,
 t3:=Tryz.underlying3,
 a3:=Tryz.isAgg3,
 z3:=Tryz.sizeOf3,
 v3:=Tryz.zeroValue3,
 t4:=Tryz.underlying4,
 a4:=Tryz.isAgg4,
 z4:=Tryz.sizeOf4,
 v4:=Tryz.zeroValue4,
 t22:=Tryz.underlying3,
 a22:=Tryz.isAgg3,
 z22:=Tryz.sizeOf3,
 v22:=Tryz.zeroValue3 }
def Tryz.mSort_ren:Go.Shelf.Ren:=⟨fun | 6=>106 | 8=>162 | 9=>161 | 19=>217 | 20=>218 | 21=>208 | 22=>209 | 23=>210 | 24=>211 | 25=>212 | 26=>213 | 27=>214 | 28=>215 | 29=>216 | 36=>237 | 31=>238 | 32=>239 | 37=>240 | 38=>241 | 39=>223 | 41=>253 | n=>n,fun | 27=>48 | 29=>9 | 3=>3 | 32=>183 | 26=>48 | 0=>0 | 44=>231 | 46=>233 | 4=>4 | 36=>224 | 35=>223 | 41=>193 | 5=>5 | 9=>9 | 53=>248 | 57=>252 | 63=>261 | 64=>210 | n=>n,fun | n=>n⟩
theorem Tryz.mSort:Go.Proofs.SlLaysM.n6 Tryz.prog Tryz.mSort_ren:={
 mixed:=by kernel_rfl,
 f6:=⟨Tryz.f106.name,by decide,Tryz.func106.trans (congrArg some (by kernel_rfl))⟩,
 f8:=Tryz.func162.trans (congrArg some (by kernel_rfl)),
 f9:=⟨Tryz.f161.name,by decide,Tryz.func161.trans (congrArg some (by kernel_rfl))⟩,
 f19:=Tryz.func217.trans (congrArg some (by kernel_rfl)),
 f20:=Tryz.func218.trans (congrArg some (by kernel_rfl)),
 f21:=⟨Tryz.f208.name,by decide,Tryz.func208.trans (congrArg some (by kernel_rfl))⟩,
 f22:=⟨Tryz.f209.name,by decide,Tryz.func209.trans (congrArg some (by kernel_rfl))⟩,
 f23:=⟨Tryz.f210.name,by decide,Tryz.func210.trans (congrArg some (by kernel_rfl))⟩,
 f24:=⟨Tryz.f211.name,by decide,Tryz.func211.trans (congrArg some (by kernel_rfl))⟩,
 f25:=⟨Tryz.f212.name,by decide,Tryz.func212.trans (congrArg some (by kernel_rfl))⟩,
 f26:=⟨Tryz.f213.name,by decide,Tryz.func213.trans (congrArg some (by kernel_rfl))⟩,
 f27:=⟨Tryz.f214.name,by decide,Tryz.func214.trans (congrArg some (by kernel_rfl))⟩,
 f28:=⟨Tryz.f215.name,by decide,Tryz.func215.trans (congrArg some (by kernel_rfl))⟩,
 f29:=⟨Tryz.f216.name,by decide,Tryz.func216.trans (congrArg some (by kernel_rfl))⟩,
 f31:=Tryz.func238.trans (congrArg some (by kernel_rfl)),
 f32:=Tryz.func239.trans (congrArg some (by kernel_rfl)),
 f36:=⟨Tryz.f237.name,by decide,Tryz.func237.trans (congrArg some (by kernel_rfl))⟩,
 f37:=⟨Tryz.f240.name,by decide,Tryz.func240.trans (congrArg some (by kernel_rfl))⟩,
 f38:=⟨Tryz.f241.name,by decide,Tryz.func241.trans (congrArg some (by kernel_rfl))⟩,
 f39:=⟨Tryz.f223.name,by decide,Tryz.func223.trans (congrArg some (by kernel_rfl))⟩,
 f41:=⟨Tryz.f253.name,by decide,Tryz.func253.trans (congrArg some (by kernel_rfl))⟩,
 t0:=Tryz.underlying0,
 a0:=Tryz.isAgg0,
 z0:=Tryz.sizeOf0,
 v0:=Tryz.zeroValue0,
 t3:=Tryz.underlying3,
 a3:=Tryz.isAgg3,
 z3:=Tryz.sizeOf3,
 v3:=Tryz.zeroValue3,
 t4:=Tryz.underlying4,
 a4:=Tryz.isAgg4,
 z4:=Tryz.sizeOf4,
 v4:=Tryz.zeroValue4,
 t5:=Tryz.underlying5,
 a5:=Tryz.isAgg5,
 z5:=Tryz.sizeOf5,
 v5:=Tryz.zeroValue5,
 t9:=Tryz.underlying9,
 a9:=Tryz.isAgg9,
 z9:=Tryz.sizeOf9,
 v9:=Tryz.zeroValue9,
 t26:=Tryz.underlying48,
 a26:=Tryz.isAgg48,
 z26:=Tryz.sizeOf48,
 v26:=Tryz.zeroValue48,
 t27:=Tryz.underlying48,
 a27:=Tryz.isAgg48,
 z27:=Tryz.sizeOf48,
 v27:=Tryz.zeroValue48,
 t29:=Tryz.underlying9,
 a29:=Tryz.isAgg9,
 z29:=Tryz.sizeOf9,
 v29:=Tryz.zeroValue9,
 t32:=Tryz.underlying183,
 a32:=Tryz.isAgg183,
 z32:=Tryz.sizeOf183,
 v32:=Tryz.zeroValue183,
 t35:=Tryz.underlying223,
 a35:=Tryz.isAgg223,
 z35:=Tryz.sizeOf223,
 v35:=Tryz.zeroValue223,
 t36:=Tryz.underlying224,
 a36:=Tryz.isAgg224,
 z36:=Tryz.sizeOf224,
 v36:=Tryz.zeroValue224,
 t41:=Tryz.underlying193,
 a41:=Tryz.isAgg193,
 z41:=Tryz.sizeOf193,
 v41:=Tryz.zeroValue193,
 t44:=Tryz.underlying231,
 a44:=Tryz.isAgg231,
 z44:=Tryz.sizeOf231,
 v44:=Tryz.zeroValue231,
 t46:=Tryz.underlying233,
 a46:=Tryz.isAgg233,
 z46:=Tryz.sizeOf233,
 v46:=Tryz.zeroValue233,
 t53:=Tryz.underlying248,
 a53:=Tryz.isAgg248,
 z53:=Tryz.sizeOf248,
 v53:=Tryz.zeroValue248,
 t57:=Tryz.underlying252,
 a57:=Tryz.isAgg252,
 z57:=Tryz.sizeOf252,
 v57:=Tryz.zeroValue252,
 t63:=Tryz.underlying261,
 a63:=Tryz.isAgg261,
 z63:=Tryz.sizeOf261,
 v63:=Tryz.zeroValue261,
 t64:=Tryz.underlying210,
 a64:=Tryz.isAgg210,
 z64:=Tryz.sizeOf210,
 v64:=Tryz.zeroValue210 }
end Go.Proofs
namespace Gs
open Go Go.Sort
variable [GlobTab]
theorem blk_in {K:Km}{Q:Pm}{w:World}{b:Nat}{x:Blk}(h:BlkOk K Q w b x){B o n:Nat}{k:Option (Bool×Nat×Nat)}(hk:K b=some ⟨some (B,o,n),k⟩):B < w.heap.size:=by
 have key:∀ {ob:Obj},w.heap[B]?=some ob→B < w.heap.size:=fun h=>(Array.getElem?_eq_some_iff.1 h).1
 cases x with
 | itr s pos=>obtain ⟨B',h1,h2,h3⟩:=h; rw [hk] at h1; injection h1 with h1; injection h1 with h1 _; injection h1 with h1; injection h1 with h1 _; subst h1; exact key h2
 | mapB cs fr=>obtain ⟨B',es,cl,h1,h2,_⟩:=h; rw [hk] at h1; injection h1 with h1; injection h1 with h1 _; injection h1 with h1; injection h1 with h1 _; subst h1; exact key h2
 | box cs fr=>obtain ⟨B',vs,t,h1,h2,_⟩:=h; rw [hk] at h1; injection h1 with h1; injection h1 with h1 _; injection h1 with h1; injection h1 with h1 _; subst h1; exact key h2
 | row nz esz xs p d=>
   obtain ⟨_,_,_,h⟩:=h
   rcases h with ⟨g1,_⟩ | ⟨B',base,vs,t,g1,_,g3,_⟩
   · rw [hk] at g1; injection g1 with g1; injection g1 with g1 _; cases g1
   · rw [hk] at g1; injection g1 with g1; injection g1 with g1 _; injection g1 with g1; injection g1 with g1 _; subst g1; exact key g3
theorem lt_of_peek {w:World}{B o:Nat}{v:Value}(h:Peek w B o v):B < w.heap.size:=by
 rcases h with h | ⟨_,es,c,h,_⟩
 · exact lt_of_cell h.1
 · exact (Array.getElem?_eq_some_iff.1 h).1
theorem Sim.turn {w0:World0}{K0 K:Km}{Q:Pm}{H:Heap}{w w':World}(hs:Sim w0 K0 K Q H w){b B base n:Nat}{k:Option (Bool×Nat×Nat)}{x y:Blk}(hx:hget H b=some x)(hk:K b=some ⟨some (B,base,n),k⟩)
   (hw:∀ k,k≠B→k < w.heap.size→w'.heap[k]?=w.heap[k]?) (hsz:w.heap.size≤w'.heap.size) (hos:w'.os=w.os) (hta:w'.tape=w.tape) (hou:w'.output=w.output)
   (hq:∀ o v,Q B o=some v→Peek w' B o v) (hnew:BlkOk K Q w' b y) (hcl:isClean y=true→isClean x=true):Sim w0 K0 K Q (hset H b y) w':=by
 have hlow:=hs.low b _ B base n hk rfl
 refine ⟨⟨fun B' o v h=>?_,fun c z hz=>?_,fun c j hj=>?_,hs.inj⟩,⟨?_,?_,?_,?_,fun k hk' hn=>?_⟩,hs.low,fun c hc hc' z hz hcz=>?_,hs.qk,hs.grow⟩
 · by_cases e:B'=B
   · subst e; exact hq o v h
   · have hv:=hs.val B' o v h
     exact hv.congr (hw B' e (lt_of_peek hv))
 · rw [hget_hset] at hz
   by_cases e:b=c
   · subst e; simp at hz; subst hz; exact hnew
   · rw [if_neg e] at hz
     have hbo:=hs.blk c z hz
     refine hbo.heap (fun _ h=>h) (fun _ _ h _=>h) (fun B' o n k h=>hw B' (fun e'=>?_) (blk_in hbo h)) (fun _ _ _ h=>h) fun _ _ _ _ _ _=>rfl
     subst e'
     exact e (hs.inj b c _ _ _ _ _ _ _ hk h rfl rfl)
 · rw [hget_hset]
   by_cases e:b=c
   · simp [e]
   · rw [if_neg e]; exact hs.dom c j hj
 · rw [hos]; exact hs.kept.os
 · rw [hta]; exact hs.kept.tape
 · rw [hou]; exact hs.kept.output
 · exact Nat.le_trans hs.kept.size hsz
 · rw [hw k (fun e=>?_) (Nat.lt_of_lt_of_le hk' hs.kept.size)]
   · exact hs.kept.block k hk' hn
   · subst e
     rcases hlow with h | h
     · exact hn h
     · omega
 · rw [hget_hset] at hz
   by_cases e:b=c
   · subst e; simp at hz; subst hz; exact hs.clean b hc hc' x hx (hcl hcz)
   · rw [if_neg e] at hz; exact hs.clean c hc hc' z hz hcz
theorem sim_of {K:Km}{Q:Pm}{H:Heap}{w:World}(hc:Core K Q H w):Sim ⟨w,Q⟩ K K Q H w:=⟨hc,⟨rfl,rfl,rfl,Nat.le_refl _,fun _ _ _=>rfl⟩,fun b i B o n hk hl=>.inl ⟨b,i,o,n,hk,hl⟩,fun _ _ _ _ _ _=>rfl,fun _ _ _ _=>rfl,fun _ _ _ h=>h⟩
theorem row_turn {K:Km}{Q:Pm}{H:Heap}{w:World}(hc:Core K Q H w){b:Nat}{nz:Bool}{esz:Nat}{xs ys:List D}(hx:hget H b=some (.row nz esz xs 0 false)){B base:Nat}{vs:Array Value}{t:TypeId}
   (hk:K b=some ⟨some (B,base,vs.size),some (nz,esz,xs.length)⟩) (hnz:nz=true→xs≠[]) (hB:w.heap[B]?=some (.cells vs t (0,0))) (hsz:base + xs.length * esz≤vs.size) (hq:∀ o,base≤o→Q B o=none) (hq0:∀ o,o < base→True)
   (hlen:ys.length=xs.length) (hcl:closedL ys=true) (hsh:Shaped esz ys) {F:Array Value} (hF:F.size=xs.length * esz)
   (hel:∀ (i:Nat) (d:D),ys[i]?=some d→∀ (j:Nat) (c:D),(cellsOf d)[j]?=some c→∃ v,F[i * esz + j]?=some v∧Rel K Q c v∧v.oneCell'=true) (n:Nat) (os:Array Obj) :
   Sim ⟨w,Q⟩ K K Q (hset H b (.row nz esz ys 0 false)) (grow (putRow id (Sort.ahead w n) B base F) os):=by
 have hBl:B < w.heap.size:=(Array.getElem?_eq_some_iff.1 hB).1
 have hwB:(grow (putRow id (Sort.ahead w n) B base F) os).heap[B]?=some (.cells (putCells id base F vs) t (0,0)):=by
   have h1:(putRow id (Sort.ahead w n) B base F).heap[B]?=some (.cells (putCells id base F vs) t (0,0)):=by
     simp [putRow,mapBlock,Array.getElem?_modify,hB,onCells]
   show ((putRow id (Sort.ahead w n) B base F).heap ++ os)[B]?=_
   rw [Array.getElem?_append_left (by simpa using hBl)]; exact h1
 have hsz':(putCells id base F vs).size=vs.size:=by simp [putCells]
 refine (sim_of hc).turn hx hk (fun k hne hlt=>?_) ?_ rfl rfl rfl (fun o v ho=>?_) ?_ (fun _=>rfl)
 · show ((putRow id (Sort.ahead w n) B base F).heap ++ os)[k]?=_
   rw [Array.getElem?_append_left (by simpa using hlt)]
   simp only [putRow,mapBlock,Array.getElem?_modify,heap_ahead]
   rw [if_neg (fun e=>hne e.symm)]
 · show w.heap.size≤((putRow id (Sort.ahead w n) B base F).heap ++ os).size
   simp
 · have hob:o < base:=by
     rcases Nat.lt_or_ge o base with h | h
     · exact h
     · rw [hq o h] at ho; cases ho
   have hv:w.cell? ⟨B,o,none⟩=some v∧v.oneCell'=true:=by
     rcases hc.val B o v ho with h | ⟨_,es,c,h,_⟩
     · exact h
     · rw [hB] at h; cases h
   refine .inl ⟨?_,hv.2⟩
   rw [cell_of_heap hwB]
   have:=hv.1
   rw [cell_of_heap hB] at this
   simp only [putCells,Array.getElem?_mapIdx,this,Option.map_some]
   rw [if_neg (by omega)]
 · refine ⟨hcl,hsh,Nat.zero_le _,.inr ⟨B,base,putCells id base F vs,t,?_,?_,hwB,?_,?_,?_,?_⟩⟩
   · rw [hsz',hlen]; exact hk
   · intro h; have:=hnz h; intro he; apply this; rw [he] at hlen; exact List.eq_nil_of_length_eq_zero hlen.symm
   · rw [hsz',hlen]; exact hsz
   · intro i d hd j c hcj
     obtain ⟨v,h1,h2,h3⟩:=hel i d hd j c hcj
     refine ⟨v,?_,h2,h3⟩
     have hlt:i * esz + j < F.size:=(Array.getElem?_eq_some_iff.1 h1).1
     have hin:base + i * esz + j < vs.size:=by omega
     simp only [putCells,Array.getElem?_mapIdx,Array.getElem?_eq_getElem hin,Option.map_some]
     rw [if_pos (by omega)]
     have he:base + i * esz + j - base=i * esz + j:=by omega
     rw [he,getElem!_pos F _ hlt]
     have:=Array.getElem?_eq_getElem hlt
     rw [this] at h1; injection h1 with h1; rw [h1]; rfl
   · intro o ho; exact hq o (by omega)
   · intro o h1 h2; omega
end Gs
namespace Gs
open Go Go.Sort Go.Proofs
theorem putRow_map {α:Type} [Inhabited α] (enc:α→Value)(w:World)(blk off:Nat)(d:Array α):putRow enc w blk off d=putRow id w blk off (d.map enc):=by
 unfold putRow
 congr 1
 funext c
 unfold putCells
 apply Array.ext
 · simp
 · intro i h1 h2
   simp only [Array.getElem_mapIdx,Array.size_map]
   split
   · rename_i h
     have hi:i - off < d.size:=by omega
     rw [getElem!_pos d _ hi,getElem!_pos (d.map enc) _ (by simpa using hi)]
     simp
   · rfl
theorem bytes_sorted (l:List ByteArray):(l.map fun s=>s.data.toList).mergeSort (fun x y=>decide (x≤y))=(sortB l).map fun s=>s.data.toList:=by
 have hp:((l.map fun s=>s.data.toList).mergeSort (fun x y=>decide (x≤y))).Perm (l.map fun s=>s.data.toList):=List.mergeSort_perm _ _
 have hs:((l.map fun s=>s.data.toList).mergeSort (fun x y=>decide (x≤y))).Pairwise (fun a b=>decide (a≤b)=true):=by
   apply List.pairwise_mergeSort
   · intro a b c h1 h2
     simp only [decide_eq_true_eq] at *
     exact List.le_trans h1 h2
   · intro a b
     simp only [Bool.or_eq_true,decide_eq_true_eq]
     exact List.le_total a b
 generalize (l.map fun s=>s.data.toList).mergeSort (fun x y=>decide (x≤y))=m at hp hs
 have hm:(m.map fun bs=>(⟨bs.toArray⟩:ByteArray))=sortB l:=by
   apply sortedB_unique
   · refine ((hp.map _).trans ?_).trans (sortB_perm l).symm
     rw [List.map_map]
     have e:((fun bs:List UInt8=>(⟨bs.toArray⟩:ByteArray)) ∘ fun s:ByteArray=>s.data.toList)=id:=by funext s; cases s; simp
     rw [e,List.map_id]
   · unfold SortedB
     rw [List.pairwise_map]
     refine hs.imp fun {a b} h=>?_
     cases hlt:slt ⟨b.toArray⟩ ⟨a.toArray⟩ with
     | false=>rfl
     | true=>
       rw [slt_iff] at hlt
       have h2:a≤b:=of_decide_eq_true h
       have e1:(⟨b.toArray⟩:ByteArray).toList=b:=by rw [Go.ByteArray.toList_eq]
       have e2:(⟨a.toArray⟩:ByteArray).toList=a:=by rw [Go.ByteArray.toList_eq]
       rw [e1,e2] at hlt
       exact absurd hlt (List.not_lt.2 h2)
   · exact sortB_sorted l
 rw [←hm,List.map_map]
 have e:((fun s:ByteArray=>s.data.toList) ∘ fun bs:List UInt8=>(⟨bs.toArray⟩:ByteArray))=id:=by funext s; simp
 rw [e,List.map_id]
theorem closedL_str:∀ l:List ByteArray,closedL (l.map .str)=true
 | []=>rfl
 | x :: r=>by simp only [List.map_cons,closedL,closed,cond_true,closedL_str r]
theorem shaped_str (l:List ByteArray):Shaped 1 (l.map .str):=by
 intro d hd
 obtain ⟨s,_,rfl⟩:=List.mem_map.1 hd
 rfl
theorem frozen_no {w:World}{B:Nat}{vs:Array Value}{t:TypeId}(h:w.heap[B]?=some (.cells vs t (0,0)))(o:Nat):w.frozen? ⟨B,o,none⟩=false:=by
 simp [World.frozen?,h]
theorem ret_tup {K:Km}{Q:Pm} : Rel K Q (.tup []) (.tuple #[]):=.tup .nil
theorem gives_sortStr (args:List D)(H:Heap)(r:D)(H':Heap)(h:sortStrX args H=some (r,H')):Gives Tryz.prog 106 args H r H':=by
 refine ⟨⟨Tryz.f106,Tryz.func106,by kernel_rfl,by kernel_rfl⟩,fun K Q w avs hids hgl hc ha=>?_⟩
 have none_:∀ (p:Option Addr) (cap:Nat),Calls Tryz.prog 106 #[.slice p 0 cap] w fun e w'=>e = .returned (.tuple #[])∧w'=w:=fun p cap=>AnyM.slices_Sort_string_none Tryz.mSort p cap w
 unfold sortStrX at h
 split at h
 · rename_i _ b
   split at h<;>try (cases h; done)
   rename_i nz xs hrow
   split at h<;>try (cases h; done)
   rename_i l hl
   split at h<;>try (cases h; done)
   rename_i hlen
   have hlen:=of_decide_eq_true hlen
   injection h with h; injection h with h1 h2; subst h1; subst h2
   have hxs:=strs_eq hl
   subst hxs
   cases ha with
   | cons hv ht=>
   cases ht
   have hbo:=hc.blk b _ hrow
   have hsame:∀ c,hget (hset H b (.row nz 1 ([].map D.str) 0 false)) c=hget H c→True:=fun _ _=>trivial
   have done_nil:l=[]→∀ e w',e=Ending.returned (.tuple #[])∧w'=w→∃ v,e = .returned v∧∃ K' Q',Sim ⟨w,Q⟩ K K' Q' (hset H b (.row nz 1 ((sortB l).map .str) 0 false)) w'∧Le Q Q'∧Rel K' Q' (.tup []) v:=by
     rintro rfl e w' ⟨rfl,rfl⟩
     refine ⟨_,rfl,K,Q,(sim_of hc).congr (fun c=>?_),fun _ _ _ h=>h,ret_tup⟩
     rw [hget_hset]
     by_cases e:b=c
     · subst e; rw [if_pos rfl,hrow]; rfl
     · rw [if_neg e]
   cases hv with
   | owNil hk=>
     have hl0:l=[]:=by
       obtain ⟨_,_,_,h⟩:=hbo
       rcases h with ⟨_,h⟩ | ⟨B,base,vs,t,g1,_⟩
       · simpa using h
       · rw [hk] at g1; injection g1 with g1; injection g1 with g1 _; cases g1
     exact (none_ none 0).mono (done_nil hl0)
   | ow hk hle htot haa=>
     rename_i B base tot nz' esz' len cap a
     obtain ⟨hcl,hsh,_,h⟩:=hbo
     rcases h with ⟨g1,_⟩ | ⟨B',base',vs,t,g1,g2,g3,g4,g5,g6,g7⟩
     · rw [hk] at g1; injection g1 with g1; injection g1 with g1 _; cases g1
     have hk':=hk
     rw [g1] at hk'
     injection hk' with hk'; injection hk' with e1 e2; injection e1 with e1; injection e1 with e1 e3; injection e3 with e3 e4; injection e2 with e2; injection e2 with e2 e5; injection e5 with e5 e6
     subst e1; subst e3; subst e4; subst e5; subst e6
     rw [List.length_map] at *
     by_cases hz:l.length=0
     · have hl0:l=[]:=List.eq_nil_of_length_eq_zero hz
       rw [hz]
       exact (none_ (some a) cap).mono (done_nil hl0)
     · have hcap:cap≠0:=by omega
       have haB:=haa hcap
       subst haB
       have hBl:B' < w.heap.size:=(Array.getElem?_eq_some_iff.1 g3).1
       have hH:Holds encStr w B' base' (l.map fun s=>s.data.toList).toArray:=by
         intro j hj
         refine ⟨?_,frozen_no g3 _⟩
         have hj':j < l.length:=by simpa using hj
         obtain ⟨v,h1,h2,_⟩:=g5 j (.str l[j]) (by simp [List.getElem?_eq_getElem hj']) 0 (.str l[j]) rfl
         cases h2
         rw [cell_of_heap g3]
         rw [getElem!_pos _ j (by simpa using hj')]
         simp only [Nat.mul_one,Nat.add_zero] at h1
         rw [h1]; simp
       have hcon:=AnyM.slices_Sort_string Tryz.mSort B' base' cap (l.map fun s=>s.data.toList) w hH hBl (by simpa using hlen)
       rw [List.length_map] at hcon
       refine Calls.mono hcon ?_
       rintro e w' ⟨rfl,n,os,rfl⟩
       rw [bytes_sorted,putRow_map]
       have hlen':(sortB l).length=l.length:=(sortB_perm l).length_eq
       refine ⟨_,rfl,K,Q,row_turn hc hrow (by rw [List.length_map]; exact g1) g2 g3 (by rw [List.length_map]; exact g4) (by intro o ho; exact g6 o (by omega)) (fun _ _=>trivial) (by simp [hlen']) (closedL_str _) (shaped_str _) (by simp [hlen']) ?_ n os,fun _ _ _ h=>h,ret_tup⟩
       intro i d hd j c hcj
       rw [List.getElem?_map] at hd
       cases hsi:(sortB l)[i]? with
       | none=>rw [hsi] at hd; cases hd
       | some s0=>
         rw [hsi] at hd; injection hd with hd; subst hd
         have hj0:j=0∧c = .str s0:=by
           cases j with
           | zero=>injection hcj with hcj; exact ⟨rfl,hcj.symm⟩
           | succ j=>cases hcj
         obtain ⟨rfl,rfl⟩:=hj0
         refine ⟨.string s0,?_,.str s0,rfl⟩
         simp [hsi]
 · rename_i nz' esz'
   injection h with h; injection h with h1 h2; subst h1; subst h2
   cases ha with
   | cons hv ht=>
   cases ht
   have fin:∀ e w',e=Ending.returned (.tuple #[])∧w'=w→∃ v,e = .returned v∧∃ K' Q',Sim ⟨w,Q⟩ K K' Q' H w'∧Le Q Q'∧Rel K' Q' (.tup []) v:=by
     rintro e w' ⟨rfl,rfl⟩
     exact ⟨_,rfl,K,Q,sim_of hc,fun _ _ _ h=>h,ret_tup⟩
   cases hv with
   | fzNil=>exact (none_ none 0).mono fin
   | fz hn _ _ _=>exact absurd rfl hn
 · cases h
end Gs
namespace Go.Proofs
open Go.RowKit Go.Lib Go.Sort
theorem Tryz.info_str:(Tryz.prog.info? 9).map (fun i=>(i.zero,i.size,i.bytes))=some (some (.string ByteArray.empty),1,16):=by kernel_rfl
set_option maxHeartbeats 4000000 in
set_option maxRecDepth 1000000 in
theorem Tryz.del_walk (b off cap i j:Nat)(d:Array (List UInt8))(w:World)(hij:i < j)(hj:j≤d.size)(hcap:d.size≤cap)(hH:Holds encStr w b off d) :
   Calls Tryz.prog 63 #[.slice (some ⟨b,off,none⟩) d.size cap,.int .i64 i,.int .i64 j] w fun e w'=>e = .returned (.slice (some ⟨b,off,none⟩) (i + (d.size - j)) cap)∧
     w'=(w.drew.setCells b (off + i * 1) ((d.toList.drop j).map encStr)).setCells b (off + (i + (d.size - j))) (List.replicate (d.size - (i + (d.size - j))) (encStr [])):=by
 obtain ⟨i0,hi0,hz0,hz1,hz2⟩:=info_parts Tryz.info_str
 have hlen:((d.toList.drop j).map encStr).length=d.size - j:=by simp
 have hget:∀ t,t < d.size - j→((d.toList.drop j).map encStr)[t]?=some (encStr d[j + t]!):=by
   intro t ht
   rw [List.getElem?_map,List.getElem?_drop,Array.getElem?_toList,getElem!_pos d (j + t) (by omega),Array.getElem?_eq_getElem (by omega)]
   rfl
 obtain ⟨A,hA,hsrc⟩:∃ A:Addr,(if cap=j then some (⟨b,off,none⟩:Addr) else some ⟨b,off + j,none⟩)=some A∧Hid (∀ t u,((d.toList.drop j).map encStr)[t]?=some u→w.drew.cell? (A.add t)=some u):=by
   by_cases h:cap=j
   · refine ⟨⟨b,off,none⟩,by simp [h],fun t u hu=>?_⟩
     have h0:((d.toList.drop j).map encStr).length=0:=by rw [hlen]; omega
     rw [List.length_eq_zero_iff.1 h0] at hu
     simp at hu
   · refine ⟨⟨b,off + j,none⟩,by simp [h],fun t u hu=>?_⟩
     have ht:t < d.size - j:=by
       have:=(List.getElem?_eq_some_iff.1 hu).1
       rwa [hlen] at this
     rw [hget t ht] at hu
     rw [Addr.add_lit,show off + j + t=off + (j + t) by omega]
     exact (hH (j + t) (by omega)).1.trans hu
 have s1:Hid (((d.toList.drop j).map encStr).length=(d.size - j) * 1):=by rw [Nat.mul_one]; exact hlen
 have s2:Hid (∀ u∈(d.toList.drop j).map encStr,u.oneCell'=true):=by
   intro u hu
   obtain ⟨x,_,rfl⟩:=List.mem_map.1 hu
   rfl
 have s3:Hid (∀ t,t < ((d.toList.drop j).map encStr).length→(w.drew.cell? ⟨b,off + i * 1 + t,none⟩).isSome=true∧w.drew.frozen? ⟨b,off + i * 1 + t,none⟩=false):=by
   intro t ht
   rw [hlen] at ht
   rw [Nat.mul_one,Nat.add_assoc]
   exact ⟨by show (w.cell? _).isSome=true; rw [(hH (i + t) (by omega)).1]; rfl,(hH (i + t) (by omega)).2⟩
 have hold:Holds encStr (w.drew.setCells b (off + i * 1) ((d.toList.drop j).map encStr)) b off (lay d i (d.toList.drop j)):=by
   rw [Nat.mul_one,show w.drew=putRow encStr (Sort.ahead w 1) b off d from (putRow_self encStr (Sort.ahead w 1) b off d hH).symm,putRow_setCells encStr (Sort.ahead w 1) b off _ d i (by simp; omega)]
   exact holds_putRow encStr _ b off d _ hH (lay_size _ _ _)
 obtain ⟨W1,hW1⟩:∃ W1,W1=w.drew.setCells b (off + i * 1) ((d.toList.drop j).map encStr):=⟨_,rfl⟩
 rw [←hW1] at hold ⊢
 have hcl:∀ ty,(Builtin.clear_ #[48] ty #[.slice (some ⟨b,off + (i + (d.size - j)),none⟩) (d.size - (i + (d.size - j))) (cap - (i + (d.size - j)))]).run Tryz.prog W1 = .ok (.tuple #[]) (W1.setCells b (off + (i + (d.size - j))) (List.replicate (d.size - (i + (d.size - j))) (encStr []))):=
   fun ty=>Lib.run_clear_slice W1 48 9 ty _ Tryz.underlying48 Tryz.zeroValue9 rfl rfl b (off + (i + (d.size - j))) _ _ (by omega) (fun t ht=>by rw [show off + (i + (d.size - j)) + t=off + (i + (d.size - j) + t) by omega,(hold _ (by rw [lay_size]; omega)).1]; rfl) (fun t ht=>by rw [show off + (i + (d.size - j)) + t=off + (i + (d.size - j) + t) by omega]; exact (hold _ (by rw [lay_size]; omega)).2)
 have hW:Hid (W1=w.drew.setCells b (off + i * 1) ((d.toList.drop j).map encStr)):=hW1
 have hne:(i:Int)≠(j:Int):=by omega
 generalize (d.toList.drop j).map encStr=news at hlen hget hsrc s1 s2 s3 hW1 hW
 have mixed:Tryz.prog.follows .mixedOrders=true:=by kernel_rfl
 have hic:i≤cap:=by omega
 have hjc:j≤cap:=by omega
 clear hW1 hold hH hget hlen
 go_enter Tryz.func63,Tryz.ntmps63
 go_wp2_with fail
 go_region_law_o (refine step_append_room rfl (.tmp 22) (.tmp 25) 48 rfl 9 i0 1 Tryz.underlying48 hi0 hz1 b off i cap (by simp [Act.eval,Act.put]) A (d.size - j) (cap - j) news (by simp [Act.eval,Act.put]) s1.out hsrc.out s2.out (by omega) s3.out ?_; rw [←hW.out])
 go_wp2
 go_ret
 exact ⟨rfl,rfl⟩
end Go.Proofs
namespace Gs
open Go Go.Sort Go.Proofs Go.Lib
theorem grow_none (w:World):grow w #[]=w:=by cases w; simp [grow]
theorem gives_delStr (args:List D)(H:Heap)(r:D)(H':Heap)(h:delStrX args H=some (r,H')):Gives Tryz.prog 63 args H r H':=by
 refine ⟨⟨Tryz.f63,Tryz.func63,by kernel_rfl,by kernel_rfl⟩,fun K Q w avs hids hgl hc ha=>?_⟩
 unfold delStrX at h
 split at h
 · rename_i _ b i j
   split at h<;>try (cases h; done)
   rename_i nz xs hrow
   split at h<;>try (cases h; done)
   rename_i l hl
   split at h<;>try (cases h; done)
   rename_i hcond
   simp only [Bool.and_eq_true,decide_eq_true_eq] at hcond
   obtain ⟨⟨⟨c1,c2⟩,c3⟩,c4⟩:=hcond
   injection h with h; injection h with h1 h2; subst h1; subst h2
   have hxs:=strs_eq hl
   subst hxs
   obtain ⟨m,rfl⟩:∃ m:Nat,i=m:=⟨i.toNat,by omega⟩
   obtain ⟨n,rfl⟩:∃ n:Nat,j=n:=⟨j.toNat,by omega⟩
   have hmn:m < n:=by omega
   have hnl:n≤l.length:=by omega
   have hsub:((n:Int) - (m:Int)).toNat=n - m:=by omega
   rw [hsub,Int.toNat_natCast,Int.toNat_natCast]
   cases ha with
   | cons hv ht=>
   cases ht with
   | cons hv2 ht=>
   cases ht with
   | cons hv3 ht=>
   cases ht
   cases hv2
   cases hv3
   have hbo:=hc.blk b _ hrow
   cases hv with
   | owNil hk=>
     exfalso
     obtain ⟨_,_,_,h⟩:=hbo
     rcases h with ⟨_,h⟩ | ⟨B,base,vs,t,g1,_⟩
     · have:l=[]:=by simpa using h
       rw [this] at hnl; simp at hnl; omega
     · rw [hk] at g1; injection g1 with g1; injection g1 with g1 _; cases g1
   | ow hk hle htot haa=>
     rename_i B base tot nz' esz' len cap a
     obtain ⟨hcl,hsh,_,h⟩:=hbo
     rcases h with ⟨g1,_⟩ | ⟨B',base',vs,t,g1,g2,g3,g4,g5,g6,g7⟩
     · rw [hk] at g1; injection g1 with g1; injection g1 with g1 _; cases g1
     have hk':=hk
     rw [g1] at hk'
     injection hk' with hk'; injection hk' with e1 e2; injection e1 with e1; injection e1 with e1 e3; injection e3 with e3 e4; injection e2 with e2; injection e2 with e2 e5; injection e5 with e5 e6
     subst e1; subst e3; subst e4; subst e5; subst e6
     rw [List.length_map] at *
     have hcap:cap≠0:=by omega
     have haB:=haa hcap
     subst haB
     have hH:Holds encStr w B' base' (l.map fun s=>s.data.toList).toArray:=by
       intro k hk0
       refine ⟨?_,frozen_no g3 _⟩
       have hk1:k < l.length:=by simpa using hk0
       obtain ⟨v,h1,h2,_⟩:=g5 k (.str l[k]) (by simp [List.getElem?_eq_getElem hk1]) 0 (.str l[k]) rfl
       cases h2
       rw [cell_of_heap g3]
       rw [getElem!_pos _ k (by simpa using hk1)]
       simp only [Nat.mul_one,Nat.add_zero] at h1
       rw [h1]; simp
     have hsz:(l.map fun s:ByteArray=>s.data.toList).toArray.size=l.length:=by simp
     have hcon:=Tryz.del_walk B' base' cap m n (l.map fun s=>s.data.toList).toArray w hmn (by rw [hsz]; exact hnl) (by rw [hsz]; exact hle) hH
     rw [hsz] at hcon
     refine Calls.mono hcon ?_
     rintro e w' ⟨rfl,rfl⟩
     generalize hd:(l.map fun s:ByteArray=>s.data.toList).toArray=d at hH hsz
     have hw:(w.drew.setCells B' (base' + m * 1) ((d.toList.drop n).map encStr)).setCells B' (base' + (m + (l.length - n))) (List.replicate (l.length - (m + (l.length - n))) (encStr []))=grow (putRow id (Sort.ahead w 1) B' base' ((d.toList.take m ++ d.toList.drop n ++ List.replicate (n - m) []).toArray.map encStr)) #[]:=by
       rw [grow_none,Nat.mul_one,show w.drew=putRow encStr (Sort.ahead w 1) B' base' d from (putRow_self encStr (Sort.ahead w 1) B' base' d hH).symm,putRow_setCells encStr (Sort.ahead w 1) B' base' _ d m (by simp; omega),←List.map_replicate,putRow_setCells encStr _ B' base' _ _ _ (by rw [lay_size]; simp; omega),←hsz,show d.size - (m + (d.size - n))=n - m by omega,delete_arr d m n [] (by omega) (by omega),putRow_map]
     rw [hw]
     refine ⟨_,rfl,K,Q,row_turn hc hrow (by rw [List.length_map]; exact g1) g2 g3 (by rw [List.length_map]; exact g4) (by intro o ho; exact g6 o (by omega)) (fun _ _=>trivial) (by simp; omega) (closedL_str _) (shaped_str _) (by subst hd; simp; omega) ?_ 1 #[],fun _ _ _ h=>h,?_⟩
     · intro i d0 hd0 k c hck
       rw [List.getElem?_map] at hd0
       cases hsi:(l.take m ++ l.drop n ++ List.replicate (n - m) ByteArray.empty)[i]? with
       | none=>rw [hsi] at hd0; cases hd0
       | some s0=>
         rw [hsi] at hd0; injection hd0 with hd0; subst hd0
         have hk0:k=0∧c = .str s0:=by
           cases k with
           | zero=>injection hck with hck; exact ⟨rfl,hck.symm⟩
           | succ k=>cases hck
         obtain ⟨rfl,rfl⟩:=hk0
         refine ⟨.string s0,?_,.str s0,rfl⟩
         have hm:d.toList.take m ++ d.toList.drop n ++ List.replicate (n - m) []=(l.take m ++ l.drop n ++ List.replicate (n - m) ByteArray.empty).map fun s:ByteArray=>s.data.toList:=by
           subst hd; simp
         rw [hm,Nat.mul_one,Nat.add_zero,Array.getElem?_map,List.getElem?_toArray,List.getElem?_map,hsi]
         rfl
     · have hln:l.length - (n - m)=m + (l.length - n):=by omega
       rw [hln]
       have hr:=Rel.win (Q:=Q) (off:=0) (l:=m + (l.length - n)) (a:=⟨B',base',none⟩) g1 (show m + (l.length - n)≤cap by omega) (by omega) (by simpa using htot) (by intro _; simp)
       exact hr
 · cases h
end Gs
namespace Go.Proofs
open Go.Shelf Go.RowKit Go.Lib Go.Sort
def Tryz.encIv (x:Int×Int):List Value:=[.int .i64 x.1,.int .i64 x.2]
theorem Tryz.ltLo (x y:Int×Int):ltOf (fun x y:Int×Int=>Lib.compareInt x.1 y.1) x y=decide (x.1 < y.1):=by
 unfold ltOf Lib.compareInt
 by_cases h1:x.1 < y.1
 · simp [h1]
 · by_cases h2:y.1 < x.1<;>simp [h1,h2]
theorem Tryz.swoLo:SWO (ltOf fun x y:Int×Int=>Lib.compareInt x.1 y.1) where
 irrefl x:=by rw [Tryz.ltLo]; simp
 trans x y z h1 h2:=by rw [Tryz.ltLo] at *; simp at *; omega
 ntrans x y z h1 h2:=by rw [Tryz.ltLo] at *; simp at *; omega
set_option maxHeartbeats 1000000 in
theorem Tryz.closure258 (x y:Int×Int)(W:World):Calls Tryz.prog 258 #[.agg #[.int .i64 x.1,.int .i64 x.2],.agg #[.int .i64 y.1,.int .i64 y.2]] W fun e w'=>e = .returned (.int .i64 (Lib.compareInt x.1 y.1))∧∃ q os',w'=grow (W.drewN q) os':=by
 have hcon:=fun W'=>AnyG.cmp_Compare_int Tryz.cmpInt x.1 y.1 W'
 change ∀ W',Calls Tryz.prog 259 _ _ _ at hcon
 generalize Lib.compareInt x.1 y.1=r at hcon ⊢
 go_enter Tryz.func258,Tryz.ntmps258
 go_wp2_with (go_at_call 259; refine (hcon _).mono ?_; rintro e w' ⟨rfl,rfl⟩)
 go_ret
 exact ⟨rfl,0,_,by rw [alloc_eq_grow,alloc_eq_grow,grow_grow]; rfl⟩
theorem Tryz.cmpLays258 (blk off size:Nat)(w:World):CmpLays Tryz.prog 258 #[] Tryz.encIv 2 (fun x y=>Lib.compareInt x.1 y.1) blk off size w:=
 fun _ _ _ _ x y=>Tryz.closure258 x y _
end Go.Proofs
