/- The sorts of the library, laid at this program; Rows that a call turns; slices.Sort of strings; The comparison handed to slices.SortFunc; no conditions. -/
import Derived.Test.YthndcpffehneaaaGreatProg
import Derived.Shelf.SlSortCmp.WholeK
import Derived.Shelf.SortM.Plain
import Derived.Shelf.SortM.SortNone
import Derived.Shelf.SlicesG.Cmp
import Derived.KernelRfl
import Derived.Test.YthndcpffehneaaaGreatGsF
import Derived.Test.YthndcpffehneaaaGreatTab
set_option linter.unusedVariables false
set_option linter.unusedSimpArgs false
set_option linter.unusedSectionVars false
set_option linter.defProp false
set_option linter.deprecated false
namespace Go.Proofs
open Go.Shelf
def Tryz.sortIv_ren:Go.Shelf.Ren:=⟨fun | 6=>205 | 15=>89 | 14=>226 | 28=>121 | 29=>122 | 20=>237 | 21=>238 | 22=>239 | 23=>240 | 24=>241 | 25=>242 | 26=>243 | 27=>244 | 46=>246 | 47=>174 | 48=>175 | 49=>247 | 50=>248 | 57=>249 | n=>n,fun | 22=>122 | 24=>126 | 25=>225 | 3=>3 | 39=>70 | 0=>0 | 53=>171 | 55=>173 | 4=>4 | 46=>163 | 45=>162 | 50=>168 | 5=>5 | 9=>9 | 66=>201 | 70=>205 | 76=>232 | 77=>152 | n=>n,fun | n=>n⟩
theorem Tryz.sortIv:Go.Proofs.SlLaysF0.n6 Tryz.prog Tryz.sortIv_ren:={
  mixed:=by kernel_rfl,
  f6:=⟨Tryz.f205.name,by decide,Tryz.func205.trans (congrArg some (by kernel_rfl))⟩,
  f14:=⟨Tryz.f226.name,by decide,Tryz.func226.trans (congrArg some (by kernel_rfl))⟩,
  f15:=Tryz.func89.trans (congrArg some (by kernel_rfl)),
  f20:=⟨Tryz.f237.name,by decide,Tryz.func237.trans (congrArg some (by kernel_rfl))⟩,
  f21:=⟨Tryz.f238.name,by decide,Tryz.func238.trans (congrArg some (by kernel_rfl))⟩,
  f22:=⟨Tryz.f239.name,by decide,Tryz.func239.trans (congrArg some (by kernel_rfl))⟩,
  f23:=⟨Tryz.f240.name,by decide,Tryz.func240.trans (congrArg some (by kernel_rfl))⟩,
  f24:=⟨Tryz.f241.name,by decide,Tryz.func241.trans (congrArg some (by kernel_rfl))⟩,
  f25:=⟨Tryz.f242.name,by decide,Tryz.func242.trans (congrArg some (by kernel_rfl))⟩,
  f26:=⟨Tryz.f243.name,by decide,Tryz.func243.trans (congrArg some (by kernel_rfl))⟩,
  f27:=⟨Tryz.f244.name,by decide,Tryz.func244.trans (congrArg some (by kernel_rfl))⟩,
  f28:=Tryz.func121.trans (congrArg some (by kernel_rfl)),
  f29:=Tryz.func122.trans (congrArg some (by kernel_rfl)),
  f46:=⟨Tryz.f246.name,by decide,Tryz.func246.trans (congrArg some (by kernel_rfl))⟩,
  f47:=Tryz.func174.trans (congrArg some (by kernel_rfl)),
  f48:=Tryz.func175.trans (congrArg some (by kernel_rfl)),
  f49:=⟨Tryz.f247.name,by decide,Tryz.func247.trans (congrArg some (by kernel_rfl))⟩,
  f50:=⟨Tryz.f248.name,by decide,Tryz.func248.trans (congrArg some (by kernel_rfl))⟩,
  f57:=⟨Tryz.f249.name,by decide,Tryz.func249.trans (congrArg some (by kernel_rfl))⟩,
  t0:=Tryz.underlying0,
  a0:=Tryz.isAgg0,
  z0:=Tryz.sizeOf0,
  v0:=Tryz.zeroValue0,
  t3:=Tryz.underlying3,
  a3:=Tryz.isAgg3,
  z3:=Tryz.sizeOf3,
  v3:=Tryz.zeroValue3,
  t4:=Tryz.underlying4,
  a4:=Tryz.isAgg4,
  z4:=Tryz.sizeOf4,
  v4:=Tryz.zeroValue4,
  t5:=Tryz.underlying5,
  a5:=Tryz.isAgg5,
  z5:=Tryz.sizeOf5,
  v5:=Tryz.zeroValue5,
  t9:=Tryz.underlying9,
  a9:=Tryz.isAgg9,
  z9:=Tryz.sizeOf9,
  v9:=Tryz.zeroValue9,
  t22:=Tryz.underlying122,
  a22:=Tryz.isAgg122,
  z22:=Tryz.sizeOf122,
  v22:=Tryz.zeroValue122,
  t25:=Tryz.underlying225,
  a25:=Tryz.isAgg225,
  z25:=Tryz.sizeOf225,
  v25:=Tryz.zeroValue225,
  t39:=Tryz.underlying70,
  a39:=Tryz.isAgg70,
  z39:=Tryz.sizeOf70,
  v39:=Tryz.zeroValue70,
  t45:=Tryz.underlying162,
  a45:=Tryz.isAgg162,
  z45:=Tryz.sizeOf162,
  v45:=Tryz.zeroValue162,
  t46:=Tryz.underlying163,
  a46:=Tryz.isAgg163,
  z46:=Tryz.sizeOf163,
  v46:=Tryz.zeroValue163,
  t50:=Tryz.underlying168,
  a50:=Tryz.isAgg168,
  z50:=Tryz.sizeOf168,
  v50:=Tryz.zeroValue168,
  t53:=Tryz.underlying171,
  a53:=Tryz.isAgg171,
  z53:=Tryz.sizeOf171,
  v53:=Tryz.zeroValue171,
  t55:=Tryz.underlying173,
  a55:=Tryz.isAgg173,
  z55:=Tryz.sizeOf173,
  v55:=Tryz.zeroValue173,
  t66:=Tryz.underlying201,
  a66:=Tryz.isAgg201,
  z66:=Tryz.sizeOf201,
  v66:=Tryz.zeroValue201,
  t70:=Tryz.underlying205,
  a70:=Tryz.isAgg205,
  z70:=Tryz.sizeOf205,
  v70:=Tryz.zeroValue205,
  t76:=Tryz.underlying232,
  a76:=Tryz.isAgg232,
  z76:=Tryz.sizeOf232,
  v76:=Tryz.zeroValue232,
  t77:=Tryz.underlying152,
  a77:=Tryz.isAgg152,
  z77:=Tryz.sizeOf152,
  v77:=Tryz.zeroValue152 }
def Tryz.cmpInt_ren:Go.Shelf.Ren:=⟨fun | 5=>207 | 7=>227 | n=>n,fun | 22=>3 | 3=>3 | 4=>4 | n=>n,fun | n=>n⟩
theorem Tryz.cmpInt:Go.Proofs.SlLaysC2.n5 Tryz.prog Tryz.cmpInt_ren:={
  mixed:=by kernel_rfl,
  f5:=⟨Tryz.f207.name,by decide,Tryz.func207.trans (congrArg some (by kernel_rfl))⟩,
  f7:=⟨Tryz.f227.name,by decide,Tryz.func227.trans (congrArg some (by kernel_rfl))⟩,
  t3:=Tryz.underlying3,
  a3:=Tryz.isAgg3,
  z3:=Tryz.sizeOf3,
  v3:=Tryz.zeroValue3,
  t4:=Tryz.underlying4,
  a4:=Tryz.isAgg4,
  z4:=Tryz.sizeOf4,
  v4:=Tryz.zeroValue4,
  t22:=Tryz.underlying3,
  a22:=Tryz.isAgg3,
  z22:=Tryz.sizeOf3,
  v22:=Tryz.zeroValue3 }
def Tryz.mSort_ren:Go.Shelf.Ren:=⟨fun | 6=>63 | 8=>89 | 9=>88 | 19=>121 | 20=>122 | 21=>112 | 22=>113 | 23=>114 | 24=>115 | 25=>116 | 26=>117 | 27=>118 | 28=>119 | 29=>120 | 36=>173 | 31=>174 | 32=>175 | 37=>176 | 38=>177 | 39=>178 | 41=>216 | n=>n,fun | 27=>24 | 29=>9 | 3=>3 | 32=>70 | 26=>24 | 0=>0 | 44=>171 | 46=>173 | 4=>4 | 36=>163 | 35=>162 | 41=>168 | 5=>5 | 9=>9 | 53=>201 | 57=>205 | 63=>232 | 64=>152 | n=>n,fun | n=>n⟩
theorem Tryz.mSort:Go.Proofs.SlLaysM.n6 Tryz.prog Tryz.mSort_ren:={
  mixed:=by kernel_rfl,
  f6:=⟨Tryz.f63.name,by decide,Tryz.func63.trans (congrArg some (by kernel_rfl))⟩,
  f8:=Tryz.func89.trans (congrArg some (by kernel_rfl)),
  f9:=⟨Tryz.f88.name,by decide,Tryz.func88.trans (congrArg some (by kernel_rfl))⟩,
  f19:=Tryz.func121.trans (congrArg some (by kernel_rfl)),
  f20:=Tryz.func122.trans (congrArg some (by kernel_rfl)),
  f21:=⟨Tryz.f112.name,by decide,Tryz.func112.trans (congrArg some (by kernel_rfl))⟩,
  f22:=⟨Tryz.f113.name,by decide,Tryz.func113.trans (congrArg some (by kernel_rfl))⟩,
  f23:=⟨Tryz.f114.name,by decide,Tryz.func114.trans (congrArg some (by kernel_rfl))⟩,
  f24:=⟨Tryz.f115.name,by decide,Tryz.func115.trans (congrArg some (by kernel_rfl))⟩,
  f25:=⟨Tryz.f116.name,by decide,Tryz.func116.trans (congrArg some (by kernel_rfl))⟩,
  f26:=⟨Tryz.f117.name,by decide,Tryz.func117.trans (congrArg some (by kernel_rfl))⟩,
  f27:=⟨Tryz.f118.name,by decide,Tryz.func118.trans (congrArg some (by kernel_rfl))⟩,
  f28:=⟨Tryz.f119.name,by decide,Tryz.func119.trans (congrArg some (by kernel_rfl))⟩,
  f29:=⟨Tryz.f120.name,by decide,Tryz.func120.trans (congrArg some (by kernel_rfl))⟩,
  f31:=Tryz.func174.trans (congrArg some (by kernel_rfl)),
  f32:=Tryz.func175.trans (congrArg some (by kernel_rfl)),
  f36:=⟨Tryz.f173.name,by decide,Tryz.func173.trans (congrArg some (by kernel_rfl))⟩,
  f37:=⟨Tryz.f176.name,by decide,Tryz.func176.trans (congrArg some (by kernel_rfl))⟩,
  f38:=⟨Tryz.f177.name,by decide,Tryz.func177.trans (congrArg some (by kernel_rfl))⟩,
  f39:=⟨Tryz.f178.name,by decide,Tryz.func178.trans (congrArg some (by kernel_rfl))⟩,
  f41:=⟨Tryz.f216.name,by decide,Tryz.func216.trans (congrArg some (by kernel_rfl))⟩,
  t0:=Tryz.underlying0,
  a0:=Tryz.isAgg0,
  z0:=Tryz.sizeOf0,
  v0:=Tryz.zeroValue0,
  t3:=Tryz.underlying3,
  a3:=Tryz.isAgg3,
  z3:=Tryz.sizeOf3,
  v3:=Tryz.zeroValue3,
  t4:=Tryz.underlying4,
  a4:=Tryz.isAgg4,
  z4:=Tryz.sizeOf4,
  v4:=Tryz.zeroValue4,
  t5:=Tryz.underlying5,
  a5:=Tryz.isAgg5,
  z5:=Tryz.sizeOf5,
  v5:=Tryz.zeroValue5,
  t9:=Tryz.underlying9,
  a9:=Tryz.isAgg9,
  z9:=Tryz.sizeOf9,
  v9:=Tryz.zeroValue9,
  t26:=Tryz.underlying24,
  a26:=Tryz.isAgg24,
  z26:=Tryz.sizeOf24,
  v26:=Tryz.zeroValue24,
  t27:=Tryz.underlying24,
  a27:=Tryz.isAgg24,
  z27:=Tryz.sizeOf24,
  v27:=Tryz.zeroValue24,
  t29:=Tryz.underlying9,
  a29:=Tryz.isAgg9,
  z29:=Tryz.sizeOf9,
  v29:=Tryz.zeroValue9,
  t32:=Tryz.underlying70,
  a32:=Tryz.isAgg70,
  z32:=Tryz.sizeOf70,
  v32:=Tryz.zeroValue70,
  t35:=Tryz.underlying162,
  a35:=Tryz.isAgg162,
  z35:=Tryz.sizeOf162,
  v35:=Tryz.zeroValue162,
  t36:=Tryz.underlying163,
  a36:=Tryz.isAgg163,
  z36:=Tryz.sizeOf163,
  v36:=Tryz.zeroValue163,
  t41:=Tryz.underlying168,
  a41:=Tryz.isAgg168,
  z41:=Tryz.sizeOf168,
  v41:=Tryz.zeroValue168,
  t44:=Tryz.underlying171,
  a44:=Tryz.isAgg171,
  z44:=Tryz.sizeOf171,
  v44:=Tryz.zeroValue171,
  t46:=Tryz.underlying173,
  a46:=Tryz.isAgg173,
  z46:=Tryz.sizeOf173,
  v46:=Tryz.zeroValue173,
  t53:=Tryz.underlying201,
  a53:=Tryz.isAgg201,
  z53:=Tryz.sizeOf201,
  v53:=Tryz.zeroValue201,
  t57:=Tryz.underlying205,
  a57:=Tryz.isAgg205,
  z57:=Tryz.sizeOf205,
  v57:=Tryz.zeroValue205,
  t63:=Tryz.underlying232,
  a63:=Tryz.isAgg232,
  z63:=Tryz.sizeOf232,
  v63:=Tryz.zeroValue232,
  t64:=Tryz.underlying152,
  a64:=Tryz.isAgg152,
  z64:=Tryz.sizeOf152,
  v64:=Tryz.zeroValue152 }
end Go.Proofs
namespace Gs
open Go Go.Sort
variable [GlobTab]
theorem blk_in {K:Km}{Q:Pm}{w:World}{b:Nat}{x:Blk}(h:BlkOk K Q w b x){B o n:Nat}{k:Option (Bool×Nat×Nat)}(hk:K b=some ⟨some (B,o,n),k⟩):B < w.heap.size:=by
  have key:∀ {ob:Obj},w.heap[B]?=some ob→B < w.heap.size:=fun h=>(Array.getElem?_eq_some_iff.1 h).1
  cases x with
  | itr s pos=>obtain ⟨B',h1,h2,h3⟩:=h; rw [hk] at h1; injection h1 with h1; injection h1 with h1 _; injection h1 with h1; injection h1 with h1 _; subst h1; exact key h2
  | mapB cs fr=>obtain ⟨B',es,cl,h1,h2,_⟩:=h; rw [hk] at h1; injection h1 with h1; injection h1 with h1 _; injection h1 with h1; injection h1 with h1 _; subst h1; exact key h2
  | box cs fr=>obtain ⟨B',vs,t,h1,h2,_⟩:=h; rw [hk] at h1; injection h1 with h1; injection h1 with h1 _; injection h1 with h1; injection h1 with h1 _; subst h1; exact key h2
  | row nz esz xs p d=>
    obtain ⟨_,_,_,h⟩:=h
    rcases h with ⟨g1,_⟩ | ⟨B',base,vs,t,g1,_,g3,_⟩
    · rw [hk] at g1; injection g1 with g1; injection g1 with g1 _; cases g1
    · rw [hk] at g1; injection g1 with g1; injection g1 with g1 _; injection g1 with g1; injection g1 with g1 _; subst g1; exact key g3
theorem lt_of_peek {w:World}{B o:Nat}{v:Value}(h:Peek w B o v):B < w.heap.size:=by
  rcases h with h | ⟨_,es,c,h,_⟩
  · exact lt_of_cell h.1
  · exact (Array.getElem?_eq_some_iff.1 h).1
theorem Sim.turn {w0:World0}{K0 K:Km}{Q:Pm}{H:Heap}{w w':World}(hs:Sim w0 K0 K Q H w){b B base n:Nat}{k:Option (Bool×Nat×Nat)}{x y:Blk}(hx:hget H b=some x)(hk:K b=some ⟨some (B,base,n),k⟩)
    (hw:∀ k,k≠B→k < w.heap.size→w'.heap[k]?=w.heap[k]?) (hsz:w.heap.size≤w'.heap.size) (hos:w'.os=w.os) (hta:w'.tape=w.tape) (hou:w'.output=w.output)
    (hq:∀ o v,Q B o=some v→Peek w' B o v) (hnew:BlkOk K Q w' b y) (hcl:isClean y=true→isClean x=true):Sim w0 K0 K Q (hset H b y) w':=by
  have hlow:=hs.low b _ B base n hk rfl
  refine ⟨⟨fun B' o v h=>?_,fun c z hz=>?_,fun c j hj=>?_,hs.inj⟩,⟨?_,?_,?_,?_,fun k hk' hn=>?_⟩,hs.low,fun c hc hc' z hz hcz=>?_,hs.qk,hs.grow⟩
  · by_cases e:B'=B
    · subst e; exact hq o v h
    · have hv:=hs.val B' o v h
      exact hv.congr (hw B' e (lt_of_peek hv))
  · rw [hget_hset] at hz
    by_cases e:b=c
    · subst e; simp at hz; subst hz; exact hnew
    · rw [if_neg e] at hz
      have hbo:=hs.blk c z hz
      refine hbo.heap (fun _ h=>h) (fun _ _ h _=>h) (fun B' o n k h=>hw B' (fun e'=>?_) (blk_in hbo h)) (fun _ _ _ h=>h) fun _ _ _ _ _ _=>rfl
      subst e'
      exact e (hs.inj b c _ _ _ _ _ _ _ hk h rfl rfl)
  · rw [hget_hset]
    by_cases e:b=c
    · simp [e]
    · rw [if_neg e]; exact hs.dom c j hj
  · rw [hos]; exact hs.kept.os
  · rw [hta]; exact hs.kept.tape
  · rw [hou]; exact hs.kept.output
  · exact Nat.le_trans hs.kept.size hsz
  · rw [hw k (fun e=>?_) (Nat.lt_of_lt_of_le hk' hs.kept.size)]
    · exact hs.kept.block k hk' hn
    · subst e
      rcases hlow with h | h
      · exact hn h
      · omega
  · rw [hget_hset] at hz
    by_cases e:b=c
    · subst e; simp at hz; subst hz; exact hs.clean b hc hc' x hx (hcl hcz)
    · rw [if_neg e] at hz; exact hs.clean c hc hc' z hz hcz
theorem sim_of {K:Km}{Q:Pm}{H:Heap}{w:World}(hc:Core K Q H w):Sim ⟨w,Q⟩ K K Q H w:=⟨hc,⟨rfl,rfl,rfl,Nat.le_refl _,fun _ _ _=>rfl⟩,fun b i B o n hk hl=>.inl ⟨b,i,o,n,hk,hl⟩,fun _ _ _ _ _ _=>rfl,fun _ _ _ _=>rfl,fun _ _ _ h=>h⟩
theorem row_turn {K:Km}{Q:Pm}{H:Heap}{w:World}(hc:Core K Q H w){b:Nat}{nz:Bool}{esz:Nat}{xs ys:List D}(hx:hget H b=some (.row nz esz xs 0 false)){B base:Nat}{vs:Array Value}{t:TypeId}
    (hk:K b=some ⟨some (B,base,vs.size),some (nz,esz,xs.length)⟩) (hnz:nz=true→xs≠[]) (hB:w.heap[B]?=some (.cells vs t (0,0))) (hsz:base + xs.length * esz≤vs.size) (hq:∀ o,base≤o→Q B o=none) (hq0:∀ o,o < base→True)
    (hlen:ys.length=xs.length) (hcl:closedL ys=true) (hsh:Shaped esz ys) {F:Array Value} (hF:F.size=xs.length * esz)
    (hel:∀ (i:Nat) (d:D),ys[i]?=some d→∀ (j:Nat) (c:D),(cellsOf d)[j]?=some c→∃ v,F[i * esz + j]?=some v∧Rel K Q c v∧v.oneCell'=true) (n:Nat) (os:Array Obj) :
    Sim ⟨w,Q⟩ K K Q (hset H b (.row nz esz ys 0 false)) (grow (putRow id (Sort.ahead w n) B base F) os):=by
  have hBl:B < w.heap.size:=(Array.getElem?_eq_some_iff.1 hB).1
  have hwB:(grow (putRow id (Sort.ahead w n) B base F) os).heap[B]?=some (.cells (putCells id base F vs) t (0,0)):=by
    have h1:(putRow id (Sort.ahead w n) B base F).heap[B]?=some (.cells (putCells id base F vs) t (0,0)):=by
      simp [putRow,mapBlock,Array.getElem?_modify,hB,onCells]
    show ((putRow id (Sort.ahead w n) B base F).heap ++ os)[B]?=_
    rw [Array.getElem?_append_left (by simpa using hBl)]; exact h1
  have hsz':(putCells id base F vs).size=vs.size:=by simp [putCells]
  refine (sim_of hc).turn hx hk (fun k hne hlt=>?_) ?_ rfl rfl rfl (fun o v ho=>?_) ?_ (fun _=>rfl)
  · show ((putRow id (Sort.ahead w n) B base F).heap ++ os)[k]?=_
    rw [Array.getElem?_append_left (by simpa using hlt)]
    simp only [putRow,mapBlock,Array.getElem?_modify,heap_ahead]
    rw [if_neg (fun e=>hne e.symm)]
  · show w.heap.size≤((putRow id (Sort.ahead w n) B base F).heap ++ os).size
    simp
  · have hob:o < base:=by
      rcases Nat.lt_or_ge o base with h | h
      · exact h
      · rw [hq o h] at ho; cases ho
    have hv:w.cell? ⟨B,o,none⟩=some v∧v.oneCell'=true:=by
      rcases hc.val B o v ho with h | ⟨_,es,c,h,_⟩
      · exact h
      · rw [hB] at h; cases h
    refine .inl ⟨?_,hv.2⟩
    rw [cell_of_heap hwB]
    have:=hv.1
    rw [cell_of_heap hB] at this
    simp only [putCells,Array.getElem?_mapIdx,this,Option.map_some]
    rw [if_neg (by omega)]
  · refine ⟨hcl,hsh,Nat.zero_le _,.inr ⟨B,base,putCells id base F vs,t,?_,?_,hwB,?_,?_,?_,?_⟩⟩
    · rw [hsz',hlen]; exact hk
    · intro h; have:=hnz h; intro he; apply this; rw [he] at hlen; exact List.eq_nil_of_length_eq_zero hlen.symm
    · rw [hsz',hlen]; exact hsz
    · intro i d hd j c hcj
      obtain ⟨v,h1,h2,h3⟩:=hel i d hd j c hcj
      refine ⟨v,?_,h2,h3⟩
      have hlt:i * esz + j < F.size:=(Array.getElem?_eq_some_iff.1 h1).1
      have hin:base + i * esz + j < vs.size:=by omega
      simp only [putCells,Array.getElem?_mapIdx,Array.getElem?_eq_getElem hin,Option.map_some]
      rw [if_pos (by omega)]
      have he:base + i * esz + j - base=i * esz + j:=by omega
      rw [he,getElem!_pos F _ hlt]
      have:=Array.getElem?_eq_getElem hlt
      rw [this] at h1; injection h1 with h1; rw [h1]; rfl
    · intro o ho; exact hq o (by omega)
    · intro o h1 h2; omega
end Gs
namespace Gs
open Go Go.Sort Go.Proofs
theorem putRow_map {α:Type} [Inhabited α] (enc:α→Value)(w:World)(blk off:Nat)(d:Array α):putRow enc w blk off d=putRow id w blk off (d.map enc):=by
  unfold putRow
  congr 1
  funext c
  unfold putCells
  apply Array.ext
  · simp
  · intro i h1 h2
    simp only [Array.getElem_mapIdx,Array.size_map]
    split
    · rename_i h
      have hi:i - off < d.size:=by omega
      rw [getElem!_pos d _ hi,getElem!_pos (d.map enc) _ (by simpa using hi)]
      simp
    · rfl
theorem bytes_sorted (l:List ByteArray):(l.map fun s=>s.data.toList).mergeSort (fun x y=>decide (x≤y))=(sortB l).map fun s=>s.data.toList:=by
  have hp:((l.map fun s=>s.data.toList).mergeSort (fun x y=>decide (x≤y))).Perm (l.map fun s=>s.data.toList):=List.mergeSort_perm _ _
  have hs:((l.map fun s=>s.data.toList).mergeSort (fun x y=>decide (x≤y))).Pairwise (fun a b=>decide (a≤b)=true):=by
    apply List.pairwise_mergeSort
    · intro a b c h1 h2
      simp only [decide_eq_true_eq] at *
      exact List.le_trans h1 h2
    · intro a b
      simp only [Bool.or_eq_true,decide_eq_true_eq]
      exact List.le_total a b
  generalize (l.map fun s=>s.data.toList).mergeSort (fun x y=>decide (x≤y))=m at hp hs
  have hm:(m.map fun bs=>(⟨bs.toArray⟩:ByteArray))=sortB l:=by
    apply sortedB_unique
    · refine ((hp.map _).trans ?_).trans (sortB_perm l).symm
      rw [List.map_map]
      have e:((fun bs:List UInt8=>(⟨bs.toArray⟩:ByteArray)) ∘ fun s:ByteArray=>s.data.toList)=id:=by funext s; cases s; simp
      rw [e,List.map_id]
    · unfold SortedB
      rw [List.pairwise_map]
      refine hs.imp fun {a b} h=>?_
      cases hlt:slt ⟨b.toArray⟩ ⟨a.toArray⟩ with
      | false=>rfl
      | true=>
        rw [slt_iff] at hlt
        have h2:a≤b:=of_decide_eq_true h
        have e1:(⟨b.toArray⟩:ByteArray).toList=b:=by rw [Go.ByteArray.toList_eq]
        have e2:(⟨a.toArray⟩:ByteArray).toList=a:=by rw [Go.ByteArray.toList_eq]
        rw [e1,e2] at hlt
        exact absurd hlt (List.not_lt.2 h2)
    · exact sortB_sorted l
  rw [←hm,List.map_map]
  have e:((fun s:ByteArray=>s.data.toList) ∘ fun bs:List UInt8=>(⟨bs.toArray⟩:ByteArray))=id:=by funext s; simp
  rw [e,List.map_id]
theorem closedL_str:∀ l:List ByteArray,closedL (l.map .str)=true
  | []=>rfl
  | x :: r=>by simp only [List.map_cons,closedL,closed,cond_true,closedL_str r]
theorem shaped_str (l:List ByteArray):Shaped 1 (l.map .str):=by
  intro d hd
  obtain ⟨s,_,rfl⟩:=List.mem_map.1 hd
  rfl
theorem frozen_no {w:World}{B:Nat}{vs:Array Value}{t:TypeId}(h:w.heap[B]?=some (.cells vs t (0,0)))(o:Nat):w.frozen? ⟨B,o,none⟩=false:=by
  simp [World.frozen?,h]
theorem ret_tup {K:Km}{Q:Pm} : Rel K Q (.tup []) (.tuple #[]):=.tup .nil
theorem gives_sortStr (args:List D)(H:Heap)(r:D)(H':Heap)(h:sortStrX args H=some (r,H')):Gives Tryz.prog 63 args H r H':=by
  refine ⟨⟨Tryz.f63,Tryz.func63,by kernel_rfl,by kernel_rfl⟩,fun K Q w avs hids hgl hc ha=>?_⟩
  have none_:∀ (p:Option Addr) (cap:Nat),Calls Tryz.prog 63 #[.slice p 0 cap] w fun e w'=>e = .returned (.tuple #[])∧w'=w:=fun p cap=>AnyM.slices_Sort_string_none Tryz.mSort p cap w
  unfold sortStrX at h
  split at h
  · rename_i _ b
    split at h<;>try (cases h; done)
    rename_i nz xs hrow
    split at h<;>try (cases h; done)
    rename_i l hl
    split at h<;>try (cases h; done)
    rename_i hlen
    have hlen:=of_decide_eq_true hlen
    injection h with h; injection h with h1 h2; subst h1; subst h2
    have hxs:=strs_eq hl
    subst hxs
    cases ha with
    | cons hv ht=>
    cases ht
    have hbo:=hc.blk b _ hrow
    have hsame:∀ c,hget (hset H b (.row nz 1 ([].map D.str) 0 false)) c=hget H c→True:=fun _ _=>trivial
    have done_nil:l=[]→∀ e w',e=Ending.returned (.tuple #[])∧w'=w→∃ v,e = .returned v∧∃ K' Q',Sim ⟨w,Q⟩ K K' Q' (hset H b (.row nz 1 ((sortB l).map .str) 0 false)) w'∧Le Q Q'∧Rel K' Q' (.tup []) v:=by
      rintro rfl e w' ⟨rfl,rfl⟩
      refine ⟨_,rfl,K,Q,(sim_of hc).congr (fun c=>?_),fun _ _ _ h=>h,ret_tup⟩
      rw [hget_hset]
      by_cases e:b=c
      · subst e; rw [if_pos rfl,hrow]; rfl
      · rw [if_neg e]
    cases hv with
    | owNil hk=>
      have hl0:l=[]:=by
        obtain ⟨_,_,_,h⟩:=hbo
        rcases h with ⟨_,h⟩ | ⟨B,base,vs,t,g1,_⟩
        · simpa using h
        · rw [hk] at g1; injection g1 with g1; injection g1 with g1 _; cases g1
      exact (none_ none 0).mono (done_nil hl0)
    | ow hk hle htot haa=>
      rename_i B base tot nz' esz' len cap a
      obtain ⟨hcl,hsh,_,h⟩:=hbo
      rcases h with ⟨g1,_⟩ | ⟨B',base',vs,t,g1,g2,g3,g4,g5,g6,g7⟩
      · rw [hk] at g1; injection g1 with g1; injection g1 with g1 _; cases g1
      have hk':=hk
      rw [g1] at hk'
      injection hk' with hk'; injection hk' with e1 e2; injection e1 with e1; injection e1 with e1 e3; injection e3 with e3 e4; injection e2 with e2; injection e2 with e2 e5; injection e5 with e5 e6
      subst e1; subst e3; subst e4; subst e5; subst e6
      rw [List.length_map] at *
      by_cases hz:l.length=0
      · have hl0:l=[]:=List.eq_nil_of_length_eq_zero hz
        rw [hz]
        exact (none_ (some a) cap).mono (done_nil hl0)
      · have hcap:cap≠0:=by omega
        have haB:=haa hcap
        subst haB
        have hBl:B' < w.heap.size:=(Array.getElem?_eq_some_iff.1 g3).1
        have hH:Holds encStr w B' base' (l.map fun s=>s.data.toList).toArray:=by
          intro j hj
          refine ⟨?_,frozen_no g3 _⟩
          have hj':j < l.length:=by simpa using hj
          obtain ⟨v,h1,h2,_⟩:=g5 j (.str l[j]) (by simp [List.getElem?_eq_getElem hj']) 0 (.str l[j]) rfl
          cases h2
          rw [cell_of_heap g3]
          rw [getElem!_pos _ j (by simpa using hj')]
          simp only [Nat.mul_one,Nat.add_zero] at h1
          rw [h1]; simp
        have hcon:=AnyM.slices_Sort_string Tryz.mSort B' base' cap (l.map fun s=>s.data.toList) w hH hBl (by simpa using hlen)
        rw [List.length_map] at hcon
        refine Calls.mono hcon ?_
        rintro e w' ⟨rfl,n,os,rfl⟩
        rw [bytes_sorted,putRow_map]
        have hlen':(sortB l).length=l.length:=(sortB_perm l).length_eq
        refine ⟨_,rfl,K,Q,row_turn hc hrow (by rw [List.length_map]; exact g1) g2 g3 (by rw [List.length_map]; exact g4) (by intro o ho; exact g6 o (by omega)) (fun _ _=>trivial) (by simp [hlen']) (closedL_str _) (shaped_str _) (by simp [hlen']) ?_ n os,fun _ _ _ h=>h,ret_tup⟩
        intro i d hd j c hcj
        rw [List.getElem?_map] at hd
        cases hsi:(sortB l)[i]? with
        | none=>rw [hsi] at hd; cases hd
        | some s0=>
          rw [hsi] at hd; injection hd with hd; subst hd
          have hj0:j=0∧c = .str s0:=by
            cases j with
            | zero=>injection hcj with hcj; exact ⟨rfl,hcj.symm⟩
            | succ j=>cases hcj
          obtain ⟨rfl,rfl⟩:=hj0
          refine ⟨.string s0,?_,.str s0,rfl⟩
          simp [hsi]
  · rename_i nz' esz'
    injection h with h; injection h with h1 h2; subst h1; subst h2
    cases ha with
    | cons hv ht=>
    cases ht
    have fin:∀ e w',e=Ending.returned (.tuple #[])∧w'=w→∃ v,e = .returned v∧∃ K' Q',Sim ⟨w,Q⟩ K K' Q' H w'∧Le Q Q'∧Rel K' Q' (.tup []) v:=by
      rintro e w' ⟨rfl,rfl⟩
      exact ⟨_,rfl,K,Q,sim_of hc,fun _ _ _ h=>h,ret_tup⟩
    cases hv with
    | fzNil=>exact (none_ none 0).mono fin
    | fz hn _ _ _=>exact absurd rfl hn
  · cases h
end Gs
namespace Go.Proofs
open Go.Shelf Go.RowKit Go.Lib Go.Sort
def Tryz.encIv (x:Int×Int):List Value:=[.int .i64 x.1,.int .i64 x.2]
theorem Tryz.ltLo (x y:Int×Int):ltOf (fun x y:Int×Int=>Lib.compareInt x.1 y.1) x y=decide (x.1 < y.1):=by
  unfold ltOf Lib.compareInt
  by_cases h1:x.1 < y.1
  · simp [h1]
  · by_cases h2:y.1 < x.1<;>simp [h1,h2]
theorem Tryz.swoLo:SWO (ltOf fun x y:Int×Int=>Lib.compareInt x.1 y.1) where
  irrefl x:=by rw [Tryz.ltLo]; simp
  trans x y z h1 h2:=by rw [Tryz.ltLo] at *; simp at *; omega
  ntrans x y z h1 h2:=by rw [Tryz.ltLo] at *; simp at *; omega
set_option maxHeartbeats 1000000 in
theorem Tryz.closure206 (x y:Int×Int)(W:World):Calls Tryz.prog 206 #[.agg #[.int .i64 x.1,.int .i64 x.2],.agg #[.int .i64 y.1,.int .i64 y.2]] W fun e w'=>e = .returned (.int .i64 (Lib.compareInt x.1 y.1))∧∃ q os',w'=grow (W.drewN q) os':=by
  have hcon:=fun W'=>AnyG.cmp_Compare_int Tryz.cmpInt x.1 y.1 W'
  change ∀ W',Calls Tryz.prog 207 _ _ _ at hcon
  generalize Lib.compareInt x.1 y.1=r at hcon ⊢
  go_enter Tryz.func206,Tryz.ntmps206
  go_wp2_with (go_at_call 207; refine (hcon _).mono ?_; rintro e w' ⟨rfl,rfl⟩)
  go_ret
  exact ⟨rfl,0,_,by rw [alloc_eq_grow,alloc_eq_grow,grow_grow]; rfl⟩
theorem Tryz.cmpLays206 (blk off size:Nat)(w:World):CmpLays Tryz.prog 206 #[] Tryz.encIv 2 (fun x y=>Lib.compareInt x.1 y.1) blk off size w:=
  fun _ _ _ _ x y=>Tryz.closure206 x y _
end Go.Proofs
