/- The operations of the small code agree with the model, second part, and calls; no conditions. -/
import Derived.Test.YtogfagkjndoefaaGreatGsB
import Derived.Laws.AppendOwn
import Derived.Laws.StructEq
import Derived.ChangeKeysEq
import Derived.Laws.RangeString
set_option linter.all false
namespace Gs
open Go
variable [GlobTab]
section
variable {P:Program} {w0:World0} {w w':World} {K0 K K':Km} {Q Q':Pm} {H:Heap} {n:Nat} {e:Env} {a:Act} {o:Oper}
theorem Elems.join {V V' c2:Array Value}{base esz:Nat}{xs ys:List D}(h1:Elems K Q V base esz xs)(h2:Elems K' Q' c2 0 esz ys)(sx:Shaped esz xs)(sy:Shaped esz ys)(cx:closedL xs=true)(cy:closedL ys=true)
   (hq:Le Q Q') (g1:∀ k,base≤k→k < base + xs.length * esz→V'[k]?=V[k]?) (g2:∀ k,k < ys.length * esz→V'[base + xs.length * esz + k]?=c2[k]?):Elems K' Q' V' base esz (xs ++ ys):=fun i d hd j c hc=>by
 rw [List.getElem?_append] at hd
 split at hd
 · rename_i hi
   obtain ⟨v,hv,hr,h1'⟩:=h1.map cx hq (K':=K') i d hd j c hc
   have hj:j < esz:=by rw [←sx d (List.mem_of_getElem? hd)]; exact (List.getElem?_eq_some_iff.1 hc).1
   have hmul:(i + 1) * esz≤xs.length * esz:=Nat.mul_le_mul_right _ hi
   rw [Nat.add_mul] at hmul
   exact ⟨v,by rw [g1 _ (by omega) (by omega)]; exact hv,hr,h1'⟩
 · rename_i hi
   obtain ⟨v,hv,hr,h1'⟩:=h2 _ d hd j c hc
   have hj:j < esz:=by rw [←sy d (List.mem_of_getElem? hd)]; exact (List.getElem?_eq_some_iff.1 hc).1
   have hi2:=(List.getElem?_eq_some_iff.1 hd).1
   have hmul:(i - xs.length + 1) * esz≤ys.length * esz:=Nat.mul_le_mul_right _ hi2
   rw [Nat.add_mul] at hmul
   have e1:i * esz=xs.length * esz + (i - xs.length) * esz:=by rw [←Nat.add_mul]; congr 1; omega
   refine ⟨v,?_,hr,h1'⟩
   have:=g2 ((i - xs.length) * esz + j) (by omega)
   rw [Nat.zero_add] at hv
   rw [←hv,←this]; congr 1; omega
theorem app_grow {t ty el:TypeId}{i:TypeInfo}{z:Value}(ht:P.underlying t=some (.slice el))(hi:P.info? el=some i)(hz:i.zero=some z){p q:Option Addr}{sLen sCap m c:Nat}{old new:Array Value}
   (h1:(Builtin.firstCells i.size sLen (.slice p sLen sCap)).run P w.drew = .ok old w.drew) (h2:(Builtin.firstCells i.size m (.slice q m c)).run P w.drew = .ok new w.drew) (hg:¬ sLen + m≤sCap)
   (h63:((sLen + m:Nat):Int)≤9223372036854775807) (hfit:Builtin.nextslicecap (sLen + m) sCap * i.bytes≤281474976710656) :
   (Builtin.append_ #[t,t] ty #[.slice p sLen sCap,.slice q m c]).run P w =
     .ok (.slice (some ⟨w.heap.size,0,none⟩) (sLen + m) (grownCap w (sLen + m) sCap el)) (w.drew.alloc (.cells (old ++ new ++ Builtin.zeroCells z.cells (grownCap w (sLen + m) sCap el - (sLen + m))) el)):=by
 have h63':¬ (9223372036854775807 < ((sLen:Int) + (m:Int))):=by omega
 have h48':¬ (281474976710656 < Builtin.nextslicecap (sLen + m) sCap * i.bytes):=by omega
 simp [Builtin.append_,run_underlying ht,Go.sizeOf,typeInfo,zeroValue,hi,hz,Builtin.lenOf,hg,h63',h48',Question.forced,h1,h2,newRow,grownCap]
theorem app_stay {t ty el:TypeId}{i:TypeInfo}(ht:P.underlying t=some (.slice el))(hi:P.info? el=some i){p q:Option Addr}{sLen sCap m c:Nat}{new:Array Value}
   (h2:(Builtin.firstCells i.size m (.slice q m c)).run P w = .ok new w) (hg:sLen + m≤sCap)
   (hst:∀ b,p=some b→(storeCells (b.add (sLen * i.size)) new.toList).run P w = .ok () w') (hno:p=none→w'=w) :
   (Builtin.append_ #[t,t] ty #[.slice p sLen sCap,.slice q m c]).run P w = .ok (.slice p (sLen + m) sCap) w':=by
 cases p with
 | none=>rw [hno rfl]; simp [Builtin.append_,run_underlying ht,Go.sizeOf,typeInfo,hi,Builtin.lenOf,hg,h2]
 | some b=>simp [Builtin.append_,run_underlying ht,Go.sizeOf,typeInfo,hi,Builtin.lenOf,hg,h2,hst b rfl]
theorem zeroCells_one {z:Array Value}(hz:oneCs z.toList=true)(n:Nat):∀ u∈Builtin.zeroCells z n,u.oneCell'=true:=fun u hu=>by
 simp only [Builtin.zeroCells,Array.mem_map,Array.mem_range] at hu
 obtain ⟨i,hi,rfl⟩:=hu
 have hpos:0 < z.size:=Nat.pos_of_ne_zero fun h=>by rw [h] at hi; omega
 have hlt:i % z.size < z.size:=Nat.mod_lt _ hpos
 rw [getElem!_pos z _ hlt]
 exact oneCs_mem hz _ (by simp)
theorem Sim.newRow (hs:Sim w0 K0 K Q H w){b:Nat}{nz:Bool}{esz p:Nat}{xs:List D}{vs:Array Value}{t:TypeId}(hb:hget H b=none)(h1:∀ v∈vs,v.oneCell'=true)(hcl:closedL xs=true)(hsh:Shaped esz xs)
   (hp:p≤xs.length) (hnz:nz=true→xs≠[]) (hsz:xs.length * esz≤vs.size) (hel:Elems K Q vs 0 esz xs) :
   ∃ K' Q',Sim w0 K0 K' Q' (hset H b (.row nz esz xs p true)) (w.alloc (.cells vs t))∧Le Q Q'∧(∀ c i,K c=some i→K' c=some i)∧K' b=some ⟨some (w.heap.size,0,vs.size),some (nz,esz,xs.length)⟩:=by
 obtain ⟨Q',hq,hs',hk⟩:=hs.newBlk (y:=.row nz esz xs p true) (vs:=vs) (t:=t) (k:=some (nz,esz,xs.length)) hb (p * esz) h1 (fun Q' hq hn=>⟨hcl,hsh,hp,.inr ⟨w.heap.size,0,vs,t,updK_same _ _ _,hnz,heap_alloc_new,by omega,hel.map hcl hq,fun o ho=>by
   rw [hn,if_neg (by omega)],fun o _ ho=>by rw [hn,if_pos (by omega)]⟩⟩) (.inr rfl)
 exact ⟨_,Q',hs',hq,hk,updK_same _ _ _⟩
theorem Sim.sameRow (hs:Sim w0 K0 K Q H w){b B base tot esz:Nat}{nz:Bool}{p:Nat}{xs:List D}{V:Array Value}{ty:TypeId}(hb:hget H b=none)(hcl:closedL xs=true)(hsh:Shaped esz xs)
   (hp:p≤xs.length) (hnz:nz=true→xs≠[]) (hsz:base + xs.length * esz≤V.size) (hel:Elems K Q V base esz xs) (hV:w'.heap[B]?=some (.cells V ty (0,0)))
   (hoth:∀ k,k≠B→w'.heap[k]?=w.heap[k]?) (hsize:w'.heap.size=w.heap.size) (hos:w'.os=w.os) (hta:w'.tape=w.tape) (hou:w'.output=w.output)
   (hlow:InK K0 B∨w0.heap.size≤B) (hfree:∀ c j o n,K c=some j→j.loc≠some (B,o,n)) (hold:∃ vs t fr,w.heap[B]?=some (.cells vs t fr)) (hq1:∀ o v,Q B o=some v→V[o]?=some v)
   (hq0:∀ o,base + p * esz≤o→Q B o=none) (hq2:∀ o,base≤o→o < base + p * esz→Q B o=V[o]?) (hdr:w.drawn≤w'.drawn:=by exact Nat.le_refl _) :
   ∃ K',Sim w0 K0 K' Q (hset H b (.row nz esz xs p true)) w'∧(∀ c i,K c=some i→K' c=some i)∧K' b=some ⟨some (B,base,V.size),some (nz,esz,xs.length)⟩:=by
 have hn:=hs.toCore.absent hb
 refine ⟨updK K b ⟨some (B,base,V.size),some (nz,esz,xs.length)⟩,hs.add hb ⟨by rw [hos]; exact hs.kept.os,by rw [hta]; exact hs.kept.tape,by rw [hou]; exact hs.kept.output,by rw [hsize]; exact hs.kept.size,fun k hk hn=>?_,fun hm=>Nat.le_trans (hs.kept.drawn hm) hdr⟩ (fun _ _ _ h=>h) (fun _ _ _ _ _ _ _ _=>rfl) (fun B' o v h=>?_)
   (fun c j B' o n hk hl=>hoth B' fun e=>?_) (fun B' o n c j o' n' hi hk=>?_) (fun B' o n hi=>?_) (fun _ _ _=>rfl) ⟨hcl,hsh,hp,.inr ⟨B,base,V,ty,updK_same _ _ _,hnz,hV,hsz,hel.map hcl fun _ _ _ h=>h,hq0,hq2⟩⟩ (.inr rfl),fun c i h=>?_,updK_same _ _ _⟩
 · rw [hoth k fun e=>?_]
   · exact hs.kept.block k hk hn
   · subst e
     rcases hlow with h | h
     · exact hn h
     · omega
 · by_cases e:B'=B
   · subst e
     obtain ⟨_,_,_,ho⟩:=hold
     exact .inl ⟨by rw [cell_of_heap hV]; exact hq1 o v h,((hs.val B' o v h).cell ho).2⟩
   · exact (hs.val B' o v h).congr (hoth B' e)
 · subst e; exact hfree c j o n hk hl
 · injection hi with hi; injection hi with e _; subst e; exact hfree c j o' n' hk
 · injection hi with hi; injection hi with e _; subst e; exact hlow
 · by_cases e:c=b
   · subst e; rw [hn] at h; cases h
   · rw [updK_ne _ _ e]; exact h
theorem Sim.nilRow (hs:Sim w0 K0 K Q H w){b:Nat}{nz:Bool}{esz:Nat}(hb:hget H b=none) :
   ∃ K',Sim w0 K0 K' Q (hset H b (.row nz esz [] 0 true)) w∧(∀ c i,K c=some i→K' c=some i)∧K' b=some ⟨none,some (nz,esz,0)⟩:=by
 have hn:=hs.toCore.absent hb
 refine ⟨updK K b ⟨none,some (nz,esz,0)⟩,hs.add hb hs.kept (fun _ _ _ h=>h) (fun _ _ _ _ _ _ _ _=>rfl) hs.val (fun _ _ _ _ _ _ _=>rfl) (fun B o n c j o' n' hi=>by cases hi) (fun B o n hi=>by cases hi) (fun _ _ _=>rfl)
   ⟨rfl,fun d hd=>by simp at hd,Nat.le_refl _,.inl ⟨updK_same _ _ _,rfl⟩⟩ (.inr rfl),fun c i h=>?_,updK_same _ _ _⟩
 by_cases e:c=b
 · subst e; rw [hn] at h; cases h
 · rw [updK_ne _ _ e]; exact h
def Lies (w0:World0)(K0 K:Km)(Q:Pm)(w:World)(p:Option Addr)(sLen sCap esz pr:Nat)(nz:Bool)(xs:List D):Prop:=
 (p=none∧sLen=0∧sCap=0)∨∃ B base V ty ad,p=some ad∧(sCap≠0→ad=⟨B,base,none⟩)∧base + sCap * esz≤V.size∧w.heap[B]?=some (.cells V ty (0,0))∧Elems K Q V base esz xs∧
   (∀ o,base + pr * esz≤o→Q B o=none)∧(∀ o,base≤o→o < base + pr * esz→Q B o=V[o]?)∧(InK K0 B∨w0.heap.size≤B)∧(∀ c j o n,K c=some j→j.loc≠some (B,o,n))∧(nz=true→xs≠[])∧(∀ o v,Q B o=some v→V[o]?=some v)
theorem app_core {t ty el:TypeId}{i:TypeInfo}{z:Value}(ht:P.underlying t=some (.slice el))(hi:P.info? el=some i)(hz:i.zero=some z)(hzs:z.cells.size=i.size)(hz1:oneCs z.cells.toList=true)(hby:0 < i.bytes)
   (hs:Sim w0 K0 K Q H w) {b:Nat} (hb:hget H b=none) {xs ys:List D} {nz:Bool} {pr:Nat} {p q:Option Addr} {sLen sCap m c:Nat} {old new new':Array Value} (hlx:sLen=xs.length) (hly:m=ys.length) (hfit:fits (xs.length + ys.length) i.bytes=true)
   (ho:(Builtin.firstCells i.size sLen (.slice p sLen sCap)).run P w.drew = .ok old w.drew) (hos:old.size=sLen * i.size) (hoe:Elems K Q old 0 i.size xs) (ho1:∀ u∈old,u.oneCell'=true)
   (hn:(Builtin.firstCells i.size m (.slice q m c)).run P w = .ok new w) (hns:new.size=m * i.size) (hne:Elems K Q new 0 i.size ys) (hn1:∀ u∈new,u.oneCell'=true)
   (hn':(Builtin.firstCells i.size m (.slice q m c)).run P w.drew = .ok new' w.drew) (hns':new'.size=m * i.size) (hne':Elems K Q new' 0 i.size ys) (hn1':∀ u∈new',u.oneCell'=true)
   (cx:closedL xs=true) (sx:Shaped i.size xs) (cy:closedL ys=true) (sy:Shaped i.size ys) (hpr:pr≤xs.length) (hl:Lies w0 K0 K Q w p sLen sCap i.size pr nz xs) :
   ∃ K' Q' w' v,(Builtin.append_ #[t,t] ty #[.slice p sLen sCap,.slice q m c]).run P w = .ok v w'∧Sim w0 K0 K' Q' (hset H b (.row nz i.size (xs ++ ys) pr true)) w'∧Le Q Q'∧(∀ c i,K c=some i→K' c=some i)∧Rel K' Q' (.ow b) v:=by
 have hcl:closedL (xs ++ ys)=true:=closedL_app cx cy
 have hsh:Shaped i.size (xs ++ ys):=fun d hd=>by
   rcases List.mem_append.1 hd with h | h
   · exact sx d h
   · exact sy d h
 have hlen:(xs ++ ys).length=sLen + m:=by simp [hlx,hly]
 simp only [fits,decide_eq_true_eq] at hfit
 rw [←hlx,←hly] at hfit
 by_cases hg:sLen + m≤sCap
 · rcases hl with ⟨rfl,h0,h1⟩ | ⟨B,base,V,ty',ad,rfl,had,htot,hV,hel,hq0,hq2,hlow,hfree,hnz,hq1⟩
   · subst h1
     have hx0:xs=[]:=List.eq_nil_of_length_eq_zero (by omega)
     have hy0:ys=[]:=List.eq_nil_of_length_eq_zero (by omega)
     have hm0:m=0:=by omega
     subst hx0; subst hy0; subst h0; subst hm0
     have hp0:pr=0:=by simpa using hpr
     subst hp0
     obtain ⟨K',g1,g2,g3⟩:=hs.nilRow (nz:=nz) (esz:=i.size) hb
     refine ⟨K',Q,w,_,app_stay ht hi hn hg (fun b hb=>by cases hb) (fun _=>rfl),g1,fun _ _ _ h=>h,g2,.owNil g3⟩
   · have hmul:(sLen + m) * i.size≤sCap * i.size:=Nat.mul_le_mul_right _ hg
     rw [Nat.add_mul] at hmul
     have hnz':nz=true→xs ++ ys≠[]:=fun h hh=>hnz h (List.append_eq_nil_iff.1 hh).1
     have hpm:pr * i.size≤sLen * i.size:=Nat.mul_le_mul_right _ (by omega)
     have fin:∀ (V':Array Value) (w':World),V'.size=V.size→(∀ k,k < base + sLen * i.size→V'[k]?=V[k]?)→(∀ k,k < m * i.size→V'[base + sLen * i.size + k]?=new[k]?)→w'.heap[B]?=some (.cells V' ty' (0,0))→
         (∀ k,k≠B→w'.heap[k]?=w.heap[k]?)→w'.heap.size=w.heap.size→w'.os=w.os→w'.tape=w.tape→w'.output=w.output→w.drawn≤w'.drawn→(storeCells (ad.add (sLen * i.size)) new.toList).run P w = .ok () w'→
         ∃ K' Q' w' v,(Builtin.append_ #[t,t] ty #[.slice (some ad) sLen sCap,.slice q m c]).run P w = .ok v w'∧Sim w0 K0 K' Q' (hset H b (.row nz i.size (xs ++ ys) pr true)) w'∧Le Q Q'∧(∀ c i,K c=some i→K' c=some i)∧Rel K' Q' (.ow b) v:=by
       intro V' w' hsz k1 k2 hV' hoth hsize hos' hta hou hdr hst
       obtain ⟨K',g1,g2,g3⟩:=hs.sameRow (w':=w') (b:=b) (B:=B) (base:=base) (tot:=V.size) (esz:=i.size) (nz:=nz) (p:=pr) (xs:=xs ++ ys) (V:=V') (ty:=ty') hb hcl hsh (by rw [hlen]; omega) hnz' (by rw [hlen,hsz,Nat.add_mul]; omega)
         (hel.join hne sx sy cx cy (fun _ _ _ h=>h) (fun k a b=>k1 k (by rw [hlx]; exact b)) (fun k hk=>by rw [←hlx]; exact k2 k (by rw [hly]; exact hk))) hV' hoth hsize hos' hta hou hlow hfree  ⟨_,_,_,hV⟩
         (fun o v h=>by
           have ho:o < base + pr * i.size:=by
             rcases Nat.lt_or_ge o (base + pr * i.size) with h' | h'
             · exact h'
             · rw [hq0 o h'] at h; cases h
           rw [k1 o (by omega)]; exact hq1 o v h) hq0 (fun o h1 h2=>by rw [hq2 o h1 h2,k1 o (by omega)]) hdr
       refine ⟨K',Q,w',_,app_stay ht hi hn hg (fun b hb=>by injection hb with hb; subst hb; exact hst) (fun h=>by cases h),g1,fun _ _ _ h=>h,g2,?_⟩
       rw [hlen] at g3
       exact .ow g3 hg (by rw [hsz]; exact htot) had
     by_cases hc0:m * i.size=0
     · have hnil:new.toList=[]:=by
         apply List.eq_nil_of_length_eq_zero; simp; rw [←Array.size_eq_zero_iff,hns,hc0]
       refine fin V w rfl (fun _ _=>rfl) (fun k hk=>by omega) hV (fun _ _=>rfl) rfl rfl rfl rfl (Nat.le_refl _) ?_
       rw [hnil]; simp [storeCells]
     · have hsc:sCap≠0:=fun h0=>by
         have:m=0:=by omega
         rw [this,Nat.zero_mul] at hc0; exact hc0 rfl
       have:=had hsc
       subst this
       have hst:=run_storeCells_at P B (base + sLen * i.size) ty' new.toList 0 V w hV (by simp [hns]; omega) (fun v hv=>hn1 v (by simpa using hv))
       simp only [Nat.add_zero,Array.length_toList] at hst
       rw [hns] at hst
       have hVl:V.toList.length=V.size:=by simp
       refine fin (V.toList.take (base + sLen * i.size) ++ new.toList ++ V.toList.drop (base + sLen * i.size + m * i.size)).toArray (w.setRow B _) (by simp [hns]; omega) (fun k hk=>?_) (fun k hk=>?_) (setRow_heap w B _ _ ty' _ hV) (fun k hk=>setRow_other w B k _ hk) (by simp) rfl rfl rfl (Nat.le_refl _) (by rw [add_at]; exact hst)
       · simp only [List.getElem?_toArray]
         rw [seg_get _ _ _ (m * i.size) k (by simp [hns]) (by simp; omega),if_pos hk]; simp
       · simp only [List.getElem?_toArray]
         rw [seg_get _ _ _ (m * i.size) _ (by simp [hns]) (by simp; omega),if_neg (by omega),if_pos (by omega)]
         simp
 · have h63:((sLen + m:Nat):Int)≤9223372036854775807:=by
     have:sLen + m≤(sLen + m) * i.bytes:=Nat.le_mul_of_pos_right _ hby
     omega
   have hrun:=app_grow (ty:=ty) ht hi hz ho hn' hg h63 (growslice_fits (by omega) hfit)
   have hge:=grownCap_ge w (sLen + m) sCap el
   have hsz:(old ++ new' ++ Builtin.zeroCells z.cells (grownCap w (sLen + m) sCap el - (sLen + m))).size=grownCap w (sLen + m) sCap el * i.size:=by
     simp only [Array.size_append,hos,hns',size_zeroCells,hzs]
     rw [←Nat.add_mul,←Nat.add_mul]; congr 1; omega
   obtain ⟨K',Q',g1,g2,g3,g4⟩:=(hs.drawn (w.drawn + 1)).newRow (b:=b) (nz:=nz) (esz:=i.size) (p:=pr) (xs:=xs ++ ys) (vs:=old ++ new' ++ Builtin.zeroCells z.cells (grownCap w (sLen + m) sCap el - (sLen + m))) (t:=el) hb (fun u hu=>by
       simp only [Array.mem_append] at hu
       rcases hu with (hu | hu) | hu
       · exact ho1 u hu
       · exact hn1' u hu
       · exact zeroCells_one hz1 _ u hu) hcl hsh (by rw [hlen]; omega) (fun _ hh=>by
       have:(xs ++ ys).length=0:=by rw [hh]; rfl
       omega) (by rw [hlen,hsz]; exact Nat.mul_le_mul_right _ hge)
     (hoe.join hne' sx sy cx cy (fun _ _ _ h=>h) (fun k a b=>by
       have:k < old.size:=by rw [hos,hlx]; omega
       rw [Array.append_assoc,Array.getElem?_append_left this]) (fun k hk=>by
       have h1:old.size=xs.length * i.size:=by rw [hos,hlx]
       rw [Array.append_assoc,Nat.zero_add,←h1,Array.getElem?_append_right (by omega),Nat.add_sub_cancel_left,Array.getElem?_append_left (by rw [hns',hly]; exact hk)]))
   refine ⟨K',Q',_,_,hrun,g1,g2,g3,?_⟩
   rw [hlen,hsz] at g4
   exact .ow g4 hge (by omega) fun _=>rfl
theorem hset_kill_congr {H:Heap}{b:Nat}{y:Blk}(c:Nat):hget (hset (killH [b] H) b y) c=hget (hset (killH [b] (without [b] H)) b y) c:=by
 rw [hget_hset,hget_hset]
 by_cases h:b=c
 · simp [h]
 · rw [if_neg h,if_neg h,hget_killH,hget_killH,hget_without,if_neg (by simp; exact fun e=>h e.symm)]
theorem hget_killed {H:Heap}{b:Nat} : hget (killH [b] (without [b] H)) b=none:=by
 rw [hget_killH,hget_without,if_pos (by simp)]; rfl
theorem RelE.kill {ts:Array Value}{m:Nat}{bs:List Nat}(he:RelE K Q m e ts)(hm:Maps (killM bs) K K' Q Q'):RelE K' Q' m (killE bs e) ts:=
 he.mapped hm fun t=>by rw [get_killE,killD_eq]
theorem Lies.of_row (hs:Sim w0 K0 K Q H w){b:Nat}{nz:Bool}{esz:Nat}{xs xs':List D}{p:Nat}{dy nz':Bool}(hx:hget H b=some (.row nz esz xs p dy)){K1:Km}(hsome:∀ c i,K1 c=some i→K c=some i∧c∉[b])
   {B base tot sLen sCap:Nat} {k:Option (Bool×Nat×Nat)} {ad:Addr} (hk:K b=some ⟨some (B,base,tot),k⟩) (ht:base + sCap * esz≤tot) (ha:sCap≠0→ad=⟨B,base,none⟩) (hpre:∀ (i:Nat) (d:D),xs'[i]?=some d→xs[i]?=some d)
   (hnz:nz'=true→nz=true∧(xs≠[]→xs'≠[])):Lies w0 K0 K1 Q w (some ad) sLen sCap esz p nz' xs':=by
 obtain ⟨r1,r2,r3,r4⟩:=hs.blk b _ hx
 rcases r4 with ⟨g1,_⟩ | ⟨B',base',vs,ty,g1,g2,g3,g4,g5,g6,g7⟩
 · rw [hk] at g1; injection g1 with g1; injection g1 with g1; cases g1
 · rw [hk] at g1; injection g1 with g1; injection g1 with e1 e2; injection e1 with e1; injection e1 with e1 e3; injection e3 with e3 e4
   subst e1; subst e3; subst e4
   refine .inr ⟨B,base,vs,ty,ad,rfl,ha,ht,g3,fun i d hd j c hc=>?_,g6,g7,hs.low b _ _ _ _ hk rfl,fun c j o n hc hl=>?_,fun h=>(hnz h).2 (g2 (hnz h).1),fun o v h=>?_⟩
   · obtain ⟨v,h1,h2,h3⟩:=g5 i d (hpre i d hd) j c hc
     exact ⟨v,h1,h2.shut (closedL_mem (cellsOf_closed (closedL_mem r1 (List.mem_of_getElem? (hpre i d hd)))) (List.mem_of_getElem? hc)) fun _ _ _ h=>h,h3⟩
   · obtain ⟨h1,h2⟩:=hsome c j hc
     exact h2 (by simp; exact hs.inj c b _ _ _ _ _ _ _ h1 hk hl rfl)
   · have:=((hs.val B o v h).cell g3).1
     rwa [cell_of_heap g3] at this
theorem op_app {t el:TypeId}{i:TypeInfo}{z:Value}{x y:Operand}{x' y':Opd}{tid esz bytes:Nat}{d:D}{e':Env}{H':Heap}(hop:o.op = .call ⟨.builtin .append,#[x,y],#[t,t]⟩)(ht:P.underlying t=some (.slice el))(hi:P.info? el=some i)(hz:i.zero=some z)
   (hzs:z.cells.size=i.size) (hz1:oneCs z.cells.toList=true) (hby:0 < i.bytes) (hsz:i.size=esz) (hbz:i.bytes=bytes) (h1:okX n x x'=true) (h2:okX n y y'=true) (hd:appOp tid esz bytes (rho e x') (rho e y') e H=some (d,e',H'))
   (hs:Sim w0 K0 K Q H w) (he:RelE K Q n e a.tmps):OpOk P w0 K0 K Q w n o a d e' H':=by
 subst hsz; subst hbz
 have rx:=okX_rel he h1
 have ry:=okX_rel he h2
 have hex:∀ v w',(Builtin.append_ #[t,t] o.type #[a.eval x,a.eval y]).run P w = .ok v w'→(execOp a.eval o).run P w = .ok (.value v) w':=fun v w' h=>by
   rw [execOp_builtin hop]
   simp [builtin,h]
 unfold appOp at hd
 split at hd<;>try (cases hd; done)
 rename_i ys hys
 obtain ⟨q,m,c,new,hvy,hly,_,n1,n2,cy,sy,n3,n4⟩:=elems_run (P:=P) hs ry hys
 obtain ⟨q',m',c',new',hvy',hly',_,n1',n2',_,_,n3',n4'⟩:=elems_run (P:=P) (hs.drawn (w.drawn + 1)) ry hys
 rw [hvy] at hvy'; injection hvy' with e1 e2 e3; subst e1; subst e2; subst e3
 rw [hvy] at n1 n1'
 have fin:∀ (b:Nat) (xs:List D) (K1:Km) (H1:Heap) (e1:Env) (nz:Bool) (pr:Nat) (H2:Heap),elems H i.size (rho e x')=some xs→Sim w0 K0 K1 Q H1 w→hget H1 b=none→RelE K1 Q n e1 a.tmps→
     (∀ p sLen sCap,a.eval x = .slice p sLen sCap→sLen=xs.length→Lies w0 K0 K1 Q w p sLen sCap i.size pr nz xs)→fits (xs.length + ys.length) i.bytes=true→pr≤xs.length→(∀ c,hget H2 c=hget (hset H1 b (.row nz i.size (xs ++ ys) pr true)) c)→OpOk P w0 K0 K Q w n o a (.ow b) e1 H2:=by
   intro b xs K1 H1 e1 nz pr H2 hxs hs1 hb he1 hl hfit hpr hH
   obtain ⟨p,sLen,sCap,old,hvx,hlx,_,o1,o2,cx,sx,o3,o4⟩:=elems_run (P:=P) (hs.drawn (w.drawn + 1)) rx hxs
   rw [hvx] at o1
   obtain ⟨K',Q',w',v,g1,g2,g3,g4,g5⟩:=app_core (ty:=o.type) ht hi hz hzs hz1 hby hs1 hb hlx hly hfit o1 o2 (o3.map cx fun _ _ _ h=>h) o4 n1 n2 (n3.map cy fun _ _ _ h=>h) n4 n1' n2' (n3'.map cy fun _ _ _ h=>h) n4' cx sx cy sy hpr (hl p sLen sCap hvx hlx)
   exact ⟨K',Q',w',v,.inl (hex _ _ (by rw [hvx,hvy]; exact g1)),g2.congr hH,he1.mono g4 g3,g5,g3⟩
 split at hd<;>try (cases hd; done)
 · rename_i z' xs0 hx
   split at hd<;>try (cases hd; done)
   split at hd<;>try (cases hd; done)
   rename_i hc
   simp only [Bool.and_eq_true] at hc
   injection hd with hd; injection hd with hd1 hd; injection hd with hd2 hd3; subst hd1; subst hd2; subst hd3
   rw [hx] at rx
   have hv:a.eval x = .slice none 0 0:=by
     generalize a.eval x=v at rx
     cases rx with
     | fzNil=>rfl
     | fz h=>exact absurd rfl h
   obtain ⟨K',Q',w',v,g1,g2,g3,g4,g5⟩:=app_core (ty:=o.type) (p:=none) (sLen:=0) (sCap:=0) (old:=#[]) (pr:=0) (nz:=true) (xs:=[]) ht hi hz hzs hz1 hby hs (noMem_one hc.2) rfl hly (by simpa using hc.1) (by simp [Builtin.firstCells]) (by simp) (fun i d hd=>by simp at hd) (fun u hu=>by simp at hu) n1 n2 n3 n4 n1' n2' n3' n4' rfl (fun d hd=>by simp at hd) cy sy (Nat.le_refl _) (.inl ⟨rfl,rfl,rfl⟩)
   exact ⟨K',Q',w',v,.inl (hex _ _ (by rw [hv,hvy]; exact g1)),g2,he.mono g4 g3,g5,g3⟩
 · rename_i b hx
   split at hd<;>try (cases hd; done)
   rename_i nz z' xs p dy hbx
   split at hd<;>try (cases hd; done)
   rename_i hc
   simp only [Bool.and_eq_true,beq_iff_eq] at hc
   obtain ⟨hc1,hc2⟩:=hc
   subst hc2
   injection hd with hd; injection hd with hd1 hd; injection hd with hd2 hd3; subst hd1; subst hd2; subst hd3
   obtain ⟨K1,hs1,hm,hsome⟩:=hs.kill [b]
   refine fin b xs K1 _ _ nz p _ (by rw [hx]; simp [elems,hbx]) hs1 hget_killed (he.kill hm) (fun p' sLen sCap hv hl=>?_) hc1 (hs.blk b _ hbx).2.2.1 hset_kill_congr
   rw [hx,hv] at rx
   cases rx with
   | owNil=>exact .inl ⟨rfl,rfl,rfl⟩
   | ow h hl' ht ha=>
     have:=hs.row_len hbx h
     simp at this
     obtain ⟨e1,e2,e3⟩:=this
     subst e2
     exact .of_row hs hbx hsome h ht ha (fun _ _ h=>h) fun h=>⟨h,id⟩
 · rename_i b off l hx
   split at hd<;>try (cases hd; done)
   rename_i nz z' xs p dy hbx
   split at hd<;>try (cases hd; done)
   rename_i hc
   simp only [Bool.and_eq_true,beq_iff_eq,decide_eq_true_eq] at hc
   obtain ⟨⟨⟨⟨hc1,hc2⟩,rfl⟩,hc4⟩,hc5⟩:=hc
   subst hc2
   injection hd with hd; injection hd with hd1 hd; injection hd with hd2 hd3; subst hd1; subst hd2; subst hd3
   obtain ⟨K1,hs1,hm,hsome⟩:=hs.kill [b]
   have hcl:(cut xs 0 l).length=l:=cut_length (by omega)
   refine fin b (cut xs 0 l) K1 _ _ false p _ (by rw [hx]; simp [elems,hbx,hc5]) hs1 hget_killed (he.kill hm) (fun p' sLen sCap hv hl=>?_) (by rw [hcl]; exact hc1) (by rw [hcl]; exact hc4) hset_kill_congr
   rw [hx,hv] at rx
   cases rx with
   | winNil=>exact .inl ⟨rfl,rfl,rfl⟩
   | win h hl' ho ht ha=>
     have:=hs.row_len hbx h
     simp at this
     obtain ⟨e1,e2,e3⟩:=this
     subst e2
     exact .of_row hs hbx hsome h (by simpa using ht) (by simpa using ha) (fun i d hd=>by simpa using (cut_get hd).1) fun h=>by cases h
end
end Gs
namespace Gs
open Go
variable [GlobTab]
section
variable {P:Program} {w0:World0} {w w':World} {K0 K K':Km} {Q Q':Pm} {H:Heap} {n:Nat} {e:Env} {a:Act} {o:Oper}
def kindT (P:Program)(t:TypeId):Option Nat:=
 match P.underlying t,aggT P t,sizeT P t with
 | some (.int _),some false,some 1=>some 0
 | some .bool,some false,some 1=>some 1
 | some .string,some false,some 1=>some 2
 | _,_,_=>none
def kindsFs (P:Program)(kE:TypeId→Option (List Nat)):Nat→List Field→Option (List Nat)
  | _,[]=>some []
  | k, f :: fs => match f.name != "_" && f.offset == k, kE f.type with
    | true,some a=>(match sizeT P f.type == some a.length && decide (0 < a.length),kindsFs P kE (k + a.length) fs with
      | true,some l=>some (a ++ l)
      | _,_=>none)
    | _,_=>none
def kindsN (P:Program):Nat→TypeId→Option (List Nat)
 | 0,_=>none
 | d + 1,t=>match kindT P t with
   | some k=>some [k]
   | none=>(match P.underlying t with
     | some (.struct fs)=>(match P.stoodInHeld t with
       | false=>kindsFs P (kindsN P d) 0 fs.toList
       | true=>none)
     | some (.array n e)=>(match kindsN P d e with
       | some ks=>(match sizeT P e == some ks.length && decide (0 < ks.length) with
         | true=>some (List.replicate n ks).flatten
         | false=>none)
       | none=>none)
     | _=>none)
def kindsT (P:Program)(t:TypeId):Option (List Nat):=
 match aggT P t,P.eqGuardType P.depth t with
 | some true,false=>kindsN P 9 t
 | _,_=>none
theorem eqOne {t:TypeId}{k d:Nat}{x y:D}{u v:Value}{b:Bool}(hk:kindT P t=some k)(hx:Rel K Q x u)(hy:Rel K Q y v)(h:eqK [k] [x] [y]=some b) :
   (Op.equalIn (d + 1) t u v).run P w = .ok b w:=by
 unfold kindT at hk
 split at hk<;>simp only [Option.some.injEq,reduceCtorEq] at hk<;>subst hk
 · rename_i hu _ _
   simp only [eqK] at h
   split at h<;>try (cases h; done)
   split at h<;>try (cases h; done)
   rename_i hkk hr
   injection h with h; subst h
   injection hr with hr; subst hr
   have hkk:=kEq_eq hkk; subst hkk
   rw [hx.int_inv,hy.int_inv]
   simp [Op.equalIn,run_underlying hu,ibeq]
 · rename_i hu _ _
   simp only [eqK] at h
   split at h<;>simp only [Option.some.injEq,reduceCtorEq] at h
   subst h
   rw [hx.bool_inv,hy.bool_inv,run_equalIn_bool' _ _ _ _ _ hu]
   simp
 · rename_i hu _ _
   simp only [eqK] at h
   split at h<;>simp only [Option.some.injEq,reduceCtorEq] at h
   subst h
   rw [hx.str_inv,hy.str_inv,run_equalIn_string _ _ _ _ _ hu]
   simp [seq]
theorem kindT_sz {t:TypeId}{k:Nat}(hk:kindT P t=some k):aggT P t=some false∧sizeT P t=some 1:=by
 unfold kindT at hk
 split at hk<;>simp only [Option.some.injEq,reduceCtorEq] at hk
 all_goals (rename_i h1 h2; exact ⟨h1,h2⟩)
theorem eqK_cons {k:Nat}{ks:List Nat}{x y:D}{xs ys:List D}{b:Bool}(h:eqK (k :: ks) (x :: xs) (y :: ys)=some b):∃ p q,eqK [k] [x] [y]=some p∧eqK ks xs ys=some q∧b=(p && q):=by
 simp only [eqK] at h ⊢
 split at h<;>try (cases h; done)
 · split at h<;>try (cases h; done)
   split at h<;>try (cases h; done)
   rename_i r hkk hr
   injection h with h
   simp only [hkk]
   exact ⟨_,r,rfl,hr,by rw [←h]; simp⟩
 all_goals
   split at h<;>try (cases h; done)
   split at h<;>try (cases h; done)
   rename_i r hr
   injection h with h
   exact ⟨_,r,rfl,hr,by rw [←h]; simp⟩
theorem eqK_glue {k:Nat}{ks:List Nat}{x y:D}{xs ys:List D}{p q:Bool}(h:eqK [k] [x] [y]=some p)(h':eqK ks xs ys=some q):eqK (k :: ks) (x :: xs) (y :: ys)=some (p && q):=by
 simp only [eqK] at h ⊢
 split at h<;>try (cases h; done)
 · split at h<;>try (cases h; done)
   split at h<;>try (cases h; done)
   rename_i r hkk hr
   injection hr with hr; subst hr
   injection h with h; subst h
   simp only [hkk,h']
   simp
 · split at h<;>try (cases h; done)
   injection h with h; subst h
   simp only [h']
   simp
 · split at h<;>try (cases h; done)
   injection h with h; subst h
   simp only [h']
   simp
theorem eqK_app:∀ {ks ls:List Nat} {xs ys:List D} {b:Bool},eqK (ks ++ ls) xs ys=some b→∃ p q,eqK ks (xs.take ks.length) (ys.take ks.length)=some p∧eqK ls (xs.drop ks.length) (ys.drop ks.length)=some q∧b=(p && q)
 | [],ls,xs,ys,b,h=>⟨true,b,by simp [eqK],by simpa using h,by simp⟩
 | k :: ks,ls,[],ys,b,h=>by simp [eqK] at h
 | k :: ks,ls,x :: xs,[],b,h=>by simp [eqK] at h
 | k :: ks,ls,x :: xs,y :: ys,b,h=>by
   rw [List.cons_append] at h
   obtain ⟨p,q,g1,g2,rfl⟩:=eqK_cons h
   obtain ⟨p',q',g3,g4,rfl⟩:=eqK_app g2
   simp only [List.length_cons,List.take_succ_cons,List.drop_succ_cons]
   exact ⟨p && p',q',eqK_glue g1 g3,g4,by cases p<;>simp⟩
theorem eqK_len:∀ {ks:List Nat} {xs ys:List D} {b:Bool},eqK ks xs ys=some b→xs.length=ks.length∧ys.length=ks.length
 | [],xs,ys,b,h=>by cases xs<;>cases ys<;>simp_all [eqK]
 | k :: ks,[],ys,b,h=>by simp [eqK] at h
 | k :: ks,x :: xs,[],b,h=>by simp [eqK] at h
 | k :: ks,x :: xs,y :: ys,b,h=>by
   obtain ⟨p,q,g1,g2,rfl⟩:=eqK_cons h
   obtain ⟨h1,h2⟩:=eqK_len g2
   simp [h1,h2]
theorem take_take:∀ (n:Nat) (cs:List D),n≤cs.length→take n cs=some (cs.take n)
 | 0,cs,_=>by simp [take]
 | n + 1,[],h=>by simp at h
 | n + 1,c :: cs,h=>by
   simp only [take,take_take n cs (by simpa using h)]
   simp
theorem part_take:∀ (cs:List D) (off n:Nat),0 < n→((cs.drop off).take n).length=n→part cs off n=some ((cs.drop off).take n)
 | cs,0,n,h0,h=>by simp only [part]; simpa using take_take n cs (by simp at h; omega)
 | [],k + 1,n,h0,h=>by simp at h; omega
 | c :: cs,k + 1,n,h0,h=>by simp only [part]; simpa using part_take cs k n h0 (by simpa using h)
def EqOk (P:Program)(K:Km)(Q:Pm)(w:World)(m:Nat)(t:TypeId)(ks:List Nat):Prop:=
 ∀ (Dp:Nat) (cs ds:List D) (vs us:List Value) (off:Nat) (b:Bool),m≤Dp→RelL K Q cs vs→RelL K Q ds us→eqK ks ((cs.drop off).take ks.length) ((ds.drop off).take ks.length)=some b→
   ∃ u v,(Go.part t vs.toArray off).run P w = .ok u w∧(Go.part t us.toArray off).run P w = .ok v w∧(Op.equalIn Dp t u v).run P w = .ok b w
def EqIn (P:Program)(K:Km)(Q:Pm)(w:World)(m:Nat)(t:TypeId)(ks:List Nat):Prop:=
 ∀ (Dp:Nat) (cs ds:List D) (vs us:List Value) (b:Bool),m≤Dp→RelL K Q cs vs→RelL K Q ds us→eqK ks cs ds=some b→(Op.equalIn Dp t (.agg vs.toArray) (.agg us.toArray)).run P w = .ok b w
theorem EqOk.one {t:TypeId}{k m:Nat}(hk:kindT P t=some k):EqOk P K Q w (m + 1) t [k]:=by
 intro Dp cs ds vs us off b hD hx hy h
 obtain ⟨a1,a2⟩:=kindT_sz hk
 obtain ⟨l1,l2⟩:=eqK_len h
 simp only [List.length_cons,List.length_nil] at l1 l2 h
 obtain ⟨x,hx1⟩:=List.length_eq_one_iff.1 l1
 obtain ⟨y,hy1⟩:=List.length_eq_one_iff.1 l2
 rw [hx1,hy1] at h
 have e1:cs[off]?=some x:=by have:=congrArg (·[0]?) hx1; simpa using this
 have e2:ds[off]?=some y:=by have:=congrArg (·[0]?) hy1; simpa using this
 obtain ⟨u,hu,ru⟩:=part_run (P:=P) (w:=w) (t:=t) (ag:=false) (sz:=1) (off:=off) (r:=x) hx (by simp only [asVar,cell_eq,e1]) a1 a2
 obtain ⟨v,hv,rv⟩:=part_run (P:=P) (w:=w) (t:=t) (ag:=false) (sz:=1) (off:=off) (r:=y) hy (by simp only [asVar,cell_eq,e2]) a1 a2
 obtain ⟨d,rfl⟩:∃ d,Dp=d + 1:=⟨Dp - 1,by omega⟩
 exact ⟨u,v,hu,hv,eqOne (w:=w) (d:=d) hk ru rv h⟩
theorem EqOk.of {t:TypeId}{ks:List Nat}{m:Nat}(h:EqIn P K Q w m t ks)(ha:aggT P t=some true)(hz:sizeT P t=some ks.length)(h0:0 < ks.length):EqOk P K Q w m t ks:=by
 intro Dp cs ds vs us off b hD hx hy he
 obtain ⟨l1,l2⟩:=eqK_len he
 have e1:part cs off ks.length=some ((cs.drop off).take ks.length):=part_take _ _ _ h0 l1
 have e2:part ds off ks.length=some ((ds.drop off).take ks.length):=part_take _ _ _ h0 l2
 obtain ⟨u,hu,ru⟩:=part_run (P:=P) (w:=w) (t:=t) (ag:=true) (sz:=ks.length) (off:=off) (r:=.agg ((cs.drop off).take ks.length)) hx (by simp only [asVar,e1]) ha hz
 obtain ⟨v,hv,rv⟩:=part_run (P:=P) (w:=w) (t:=t) (ag:=true) (sz:=ks.length) (off:=off) (r:=.agg ((ds.drop off).take ks.length)) hy (by simp only [asVar,e2]) ha hz
 obtain ⟨us',rfl,hl⟩:=ru.agg_inv
 obtain ⟨vs',rfl,hl'⟩:=rv.agg_inv
 exact ⟨_,_,hu,hv,h Dp _ _ _ _ b hD hl hl' he⟩
theorem eqFields_run {d:Nat}{kE:TypeId→Option (List Nat)}(hkE:∀ t a,kE t=some a→sizeT P t=some a.length→0 < a.length→EqOk P K Q w d t a){cs ds:List D}{vs us:List Value}(hx:RelL K Q cs vs)(hy:RelL K Q ds us):∀ {fs:List Field} {k Dp:Nat} {ks:List Nat} {b:Bool},d≤Dp→kindsFs P kE k fs=some ks→eqK ks (cs.drop k) (ds.drop k)=some b→
   (Op.eqFields Dp vs.toArray us.toArray fs).run P w = .ok b w
 | [],k,Dp,ks,b,hD,hk,h=>by
   simp only [kindsFs,Option.some.injEq] at hk
   subst hk
   cases h1:cs.drop k<;>cases h2:ds.drop k<;>rw [h1,h2] at h<;>simp only [eqK,Option.some.injEq,reduceCtorEq] at h
   subst h; simp [Op.eqFields]
 | f :: fs,k,Dp,ks,b,hD,hk,h=>by
   simp only [kindsFs] at hk
   split at hk<;>try (cases hk; done)
   rename_i a hnm ha
   split at hk<;>try (cases hk; done)
   rename_i l hsz hl
   injection hk with hk; subst hk
   simp only [Bool.and_eq_true,bne_iff_ne,ne_eq,beq_iff_eq,decide_eq_true_eq] at hnm hsz
   obtain ⟨hn,ho⟩:=hnm
   obtain ⟨p,q,g1,g2,rfl⟩:=eqK_app h
   obtain ⟨u,v,hu,hv,hr⟩:=hkE _ _ ha hsz.1 hsz.2 Dp cs ds vs us k p hD hx hy g1
   rw [List.drop_drop,List.drop_drop] at g2
   have ih:=eqFields_run hkE hx hy (k:=k + a.length) hD hl g2
   rw [←ho] at hu hv
   simp only [Op.eqFields,ne_eq,hn,not_false_eq_true,if_true,Sem.run_bind,hu,hv,Result.andThen_ok,hr]
   cases p with
   | true=>simpa using ih
   | false=>simp
theorem eqItems_run {d Dp:Nat}{e:TypeId}{a:List Nat}(hD:d≤Dp)(hE:EqOk P K Q w d e a){cs ds:List D}{vs us:List Value}(hx:RelL K Q cs vs)(hy:RelL K Q ds us):∀ (m k:Nat) {b:Bool},eqK (List.replicate m a).flatten (cs.drop (k * a.length)) (ds.drop (k * a.length))=some b→
   (Op.eqItems Dp e a.length vs.toArray us.toArray (List.range' k m)).run P w = .ok b w
 | 0,k,b,h=>by
   simp only [List.replicate_zero,List.flatten_nil] at h
   cases h1:cs.drop (k * a.length)<;>cases h2:ds.drop (k * a.length)<;>rw [h1,h2] at h<;>simp only [eqK,Option.some.injEq,reduceCtorEq] at h
   subst h; simp [Op.eqItems]
 | m + 1,k,b,h=>by
   rw [List.replicate_succ,List.flatten_cons] at h
   obtain ⟨p,q,g1,g2,rfl⟩:=eqK_app h
   obtain ⟨u,v,hu,hv,hr⟩:=hE Dp cs ds vs us (k * a.length) p hD hx hy g1
   rw [List.drop_drop,List.drop_drop,show k * a.length + a.length=(k + 1) * a.length by rw [Nat.add_mul,Nat.one_mul]] at g2
   have ih:=eqItems_run hD hE hx hy m (k + 1) g2
   simp only [List.range'_succ,Op.eqItems,Sem.run_bind,hu,hv,Result.andThen_ok,hr]
   cases p with
   | true=>simpa using ih
   | false=>simp
theorem agg_of_struct {t:TypeId}{fs:Array Field}(h:P.underlying t=some (.struct fs)):aggT P t=some true:=by simp [aggT,h]
theorem agg_of_array {t e:TypeId}{n:Nat}(h:P.underlying t=some (.array n e)):aggT P t=some true:=by simp [aggT,h]
theorem kindT_not_agg {t:TypeId}{k:Nat}(h:kindT P t=some k):aggT P t=some false:=(kindT_sz h).1
theorem kindsN_ok:∀ (d:Nat) (t:TypeId) (ks:List Nat),kindsN P d t=some ks→(sizeT P t=some ks.length→0 < ks.length→EqOk P K Q w d t ks)∧(aggT P t=some true→EqIn P K Q w d t ks)
 | 0,t,ks,h=>by simp [kindsN] at h
 | d + 1,t,ks,h=>by
   simp only [kindsN] at h
   split at h
   · rename_i k hk
     injection h with h; subst h
     refine ⟨fun _ _=>EqOk.one hk,fun ha=>?_⟩
     rw [kindT_not_agg hk] at ha; cases ha
   · have key:aggT P t=some true∧EqIn P K Q w (d + 1) t ks:=by
       split at h<;>try (cases h; done)
       · rename_i fs hu
         split at h<;>try (cases h; done)
         rename_i hst
         refine ⟨agg_of_struct hu,fun Dp cs ds vs us b hD hx hy he=>?_⟩
         obtain ⟨Dq,rfl⟩:∃ Dq,Dp=Dq + 1:=⟨Dp - 1,by omega⟩
         have hf:P.fieldsOf t=fs:=by simp [Program.fieldsOf,hu]
         rw [run_equalIn_struct _ _ _ _ _ (by rw [hf]; exact hu) hst,hf]
         exact eqFields_run (d:=d) (fun t' a h1 h2 h3=>(kindsN_ok d t' a h1).1 h2 h3) hx hy (k:=0) (by omega) h (by simpa using he)
       · rename_i m e hu
         split at h<;>try (cases h; done)
         rename_i a ha
         split at h<;>try (cases h; done)
         rename_i hsz
         injection h with h; subst h
         simp only [Bool.and_eq_true,beq_iff_eq,decide_eq_true_eq] at hsz
         refine ⟨agg_of_array hu,fun Dp cs ds vs us b hD hx hy he=>?_⟩
         obtain ⟨Dq,rfl⟩:∃ Dq,Dp=Dq + 1:=⟨Dp - 1,by omega⟩
         obtain ⟨i,hi,hi2⟩:∃ i,P.info? e=some i∧i.size=a.length:=by
           have:=hsz.1
           unfold sizeT at this
           cases hh:P.info? e with
           | none=>rw [hh] at this; cases this
           | some i=>rw [hh] at this; simp at this; exact ⟨i,rfl,this⟩
         have hc:P.cellsOf e=a.length:=by simp [Program.cellsOf,hi,hi2]
         rw [run_equalIn_array _ _ _ _ hu hi,hc,List.range_eq_range']
         exact eqItems_run (d:=d) (by omega) ((kindsN_ok d e a ha).1 hsz.1 hsz.2) hx hy m 0 (by simpa using he)
     exact ⟨fun h1 h2=>EqOk.of key.2 key.1 h1 h2,fun _=>key.2⟩
theorem kindsT_agg {t:TypeId}{ks:List Nat}(hk:kindsT P t=some ks):aggT P t=some true∧P.eqGuardType P.depth t=false∧EqIn P K Q w 9 t ks:=by
 unfold kindsT at hk
 split at hk<;>try (cases hk; done)
 rename_i h1 h2
 exact ⟨h1,h2,(kindsN_ok 9 t ks hk).2 h1⟩
theorem binOp_bool {neg:Bool}{t t':TypeId}{x y:Operand}{u v:Value}{b:Bool}(ho:o.op = .binOp (if neg then .neq else .eql) t x y t')(hx:a.eval x=u)(hy:a.eval y=v)(hg:∀ op,(eqGuard op t x y u v).run P w = .ok () w)
   (hb:binOp .eql t u v=(do pure (.bool (←Op.equal t u v)))∧binOp .neq t u v=(do pure (.bool (!(←Op.equal t u v))))) (hr:(Op.equal t u v).run P w = .ok b w) :
   (execOp a.eval o).run P w = .ok (.value (.bool (bif neg then !b else b))) w:=by
 cases neg
 · have h1:=hb.1
   simp only [execOp,ho,hx,hy,Bool.false_eq_true,if_false,Sem.run_bind,hg,Result.andThen_ok,h1,hr,Sem.run_pure]
   rfl
 · have h1:=hb.2
   simp only [execOp,ho,hx,hy,if_true,Sem.run_bind,hg,Result.andThen_ok,h1,hr,Sem.run_pure]
   rfl
theorem op_eqB {neg:Bool}{t t':TypeId}{x y:Operand}{x' y':Opd}{p q:Bool}(ho:o.op = .binOp (if neg then .neq else .eql) t x y t')(hu:P.underlying t=some .bool)(h1:okX n x x'=true)(h2:okX n y y'=true)
   (hx:rho e x' = .bool p) (hy:rho e y' = .bool q) (hs:Sim w0 K0 K Q H w) (he:RelE K Q n e a.tmps):OpOk P w0 K0 K Q w n o a (.bool (bif neg then !(p == q) else p == q)) e H:=by
 have rx:=okX_rel he h1
 have ry:=okX_rel he h2
 rw [hx] at rx; rw [hy] at ry
 refine .val hs he (v:=.bool (bif neg then !(p == q) else p == q)) (binOp_bool ho rx.bool_inv ry.bool_inv (fun op=>eqGuard_plain (fun _=>by simp) (by simp)) ⟨?_,?_⟩ (b:=p == q) ?_) (.bool _)
 · rfl
 · rfl
 · exact run_equalIn_bool' _ 9999 t p q hu
theorem op_eqA {neg:Bool}{t t':TypeId}{x y:Operand}{x' y':Opd}{ks:List Nat}{b:Bool}{cs ds:List D}(ho:o.op = .binOp (if neg then .neq else .eql) t x y t')(hk:kindsT P t=some ks)(h1:okX n x x'=true)(h2:okX n y y'=true)
   (hx:rho e x' = .agg cs) (hy:rho e y' = .agg ds) (hd:eqK ks cs ds=some b) (hs:Sim w0 K0 K Q H w) (he:RelE K Q n e a.tmps):OpOk P w0 K0 K Q w n o a (.bool (bif neg then !b else b)) e H:=by
 have rx:=okX_rel he h1
 have ry:=okX_rel he h2
 rw [hx] at rx; rw [hy] at ry
 obtain ⟨vs,hv,hl⟩:=rx.agg_inv
 obtain ⟨us,hu',hl'⟩:=ry.agg_inv
 obtain ⟨g1,g2,g3⟩:=kindsT_agg (K:=K) (Q:=Q) (w:=w) hk
 refine .val hs he (v:=.bool (bif neg then !b else b)) (binOp_bool ho hv hu' (fun op=>run_eqGuard_agg _ _ _ _ _ _ _ g2) ⟨?_,?_⟩ (b:=b) ?_) (.bool _)
 · rfl
 · rfl
 · exact g3 10000 _ _ _ _ b (by omega) hl hl' hd
def nilT (P:Program)(t:TypeId)(k:Nat)(v:Value):Bool:=
 match P.underlying t,k,v with
 | some (.slice _),0,.slice none 0 0=>true
 | some (.pointer _),1,.pointer none=>true
 | some (.func _ _ _),2,.nilFunc=>true
 | _,_,_=>false
theorem isNil_slice {d:D}{u:Value}{b:Bool}(hr:Rel K Q d u)(hd:isNil 0 d=some b):∃ p k c,u = .slice p k c∧b=p.isNone:=by
 unfold isNil at hd
 split at hd<;>simp_all
 · subst hd
   cases hr with
   | fzNil=>simp
   | fz h=>simp_all
 · cases hr with
   | fz h=>simp_all
theorem isNil_ptr {d:D}{u:Value}{b:Bool}(hr:Rel K Q d u)(hd:isNil 1 d=some b):∃ p,u = .pointer p∧b=p.isNone:=by
 unfold isNil at hd
 split at hd<;>simp_all
 · cases hr; simp
 · subst hd; cases hr; simp
 · subst hd; cases hr; simp
theorem isNil_fn {d:D}{u:Value}{b:Bool}(hr:Rel K Q d u)(hd:isNil 2 d=some b):(u = .nilFunc∧b=true)∨(∃ f g h,u = .func f g h∧b=false):=by
 unfold isNil at hd
 split at hd<;>simp_all
 · cases hr; rfl
 · cases hr; simp
theorem op_eqN {neg:Bool}{t t':TypeId}{x:Operand}{z:Value}{x':Opd}{b:Bool}{k:Nat}(ho:o.op = .binOp (if neg then .neq else .eql) t x (.const z) t')(hk:nilT P t k z=true)(h1:okX n x x'=true)
   (hd:isNil k (rho e x')=some b) (hs:Sim w0 K0 K Q H w) (he:RelE K Q n e a.tmps):OpOk P w0 K0 K Q w n o a (.bool (bif neg then !b else b)) e H:=by
 have rx:=okX_rel he h1
 have go:∀ u,a.eval x=u→(∀ xs,u≠.agg xs)→u≠.nilIface→(binOp .eql t u z=(do pure (.bool (←Op.equal t u z)))∧binOp .neq t u z=(do pure (.bool (!(←Op.equal t u z)))))→(∀ d,(Op.equalIn (d + 1) t u z).run P w = .ok b w)→OpOk P w0 K0 K Q w n o a (.bool (bif neg then !b else b)) e H:=fun u hu ha hi hb hr=>
   .val hs he (v:=.bool (bif neg then !b else b)) (binOp_bool ho hu rfl (fun op=>eqGuard_plain ha hi) hb (hr 9999)) (.bool _)
 unfold nilT at hk
 split at hk<;>try (cases hk; done)
 · rename_i ht
   obtain ⟨p,m,c,hu,rfl⟩:=isNil_slice rx hd
   exact go _ hu (fun _=>by simp) (by simp) ⟨rfl,rfl⟩ fun d=>by cases p<;>simp [Op.equalIn,run_underlying ht]
 · rename_i ht
   obtain ⟨p,hu,rfl⟩:=isNil_ptr rx hd
   exact go _ hu (fun _=>by simp) (by simp) ⟨rfl,rfl⟩ fun d=>by cases p<;>simp [Op.equalIn,run_underlying ht]
 · rename_i ht
   rcases isNil_fn rx hd with ⟨hu,rfl⟩ | ⟨f,g,h,hu,rfl⟩
   · exact go _ hu (fun _=>by simp) (by simp) ⟨rfl,rfl⟩ fun d=>by simp [Op.equalIn,run_underlying ht]
   · exact go _ hu (fun _=>by simp) (by simp) ⟨rfl,rfl⟩ fun d=>by simp [Op.equalIn,run_underlying ht]
end
end Gs
namespace Gs
open Go
variable [GlobTab]
section
variable {P:Program} {w0:World0} {w w':World} {K0 K K':Km} {Q Q':Pm} {H:Heap} {n:Nat} {e:Env} {ts:Array Value}
theorem RelE.reset (he:RelE K Q n e ts){t:Nat}{d:D}(hd:Rel K Q d (ts.getD t undef)):RelE K Q n (set e t d) ts:=by
 refine ⟨he.1,fun u hu=>?_⟩
 rw [get_set]
 by_cases h:t=u
 · subst h; rw [if_pos rfl]; exact hd
 · rw [if_neg h]; exact he.2 u hu
def ghOk (n:Nat):RG→Bool
 | .fr t=>decide (t < n)
 | .wh t _=>decide (t < n)
 | .rn t _=>decide (t < n)
 | .nr t _ _=>decide (t < n)
 | .dr _=>true
 | .bl t _=>decide (t < n)
theorem Sim.moved (hs:Sim w0 K0 K Q H w){b tid:Nat}{nz nz':Bool}{esz:Nat}{xs:List D}{p:Nat}{dy:Bool}{off l:Nat}{v:Value}(hx:hget H b=some (.row nz esz xs p dy))(htid:b=tid∨hget H tid=none)
   (hle:off + l≤xs.length) (hp:p≤off + l) (hr:Rel K Q (.win b off l) v) (hnz:nz'=true→nz=true∧off=0∧l=xs.length) :
   ∃ K',Sim w0 K0 K' Q (hset (killH [b] (without [b] H)) tid (.row nz' esz (cut xs off l) (p - off) true)) w∧Maps (killM [b]) K K' Q Q∧Rel K' Q (.ow tid) v:=by
 obtain ⟨K1,hs1,hm,hsome⟩:=hs.kill [b]
 have hfree:hget (killH [b] (without [b] H)) tid=none:=by
   rcases htid with rfl | h
   · exact hget_killed
   · rw [hget_killH,hget_without]; split
     · rfl
     · rw [h]; rfl
 have hlen:(cut xs off l).length=l:=cut_length hle
 obtain ⟨r1,r2,r3,r4⟩:=hs.blk b _ hx
 cases hr with
 | winNil h=>
   have hrl:=hs.row_len hx h
   simp at hrl
   have hx0:xs=[]:=List.eq_nil_of_length_eq_zero hrl.2.2.symm
   subst hx0
   have hp0:p=0:=by simpa using r3
   subst hp0
   obtain ⟨K',g1,g2,g3⟩:=hs1.nilRow (nz:=nz') (esz:=esz) hfree
   have:cut ([]:List D) 0 0=[]:=rfl
   rw [this]
   exact ⟨K',g1,⟨fun b c i h1 h2=>g2 _ _ (hm.k b c i h1 h2),hm.q⟩,.owNil g3⟩
 | @win _ B base tot nz1 esz1 len1 cap1 _ _ a1 h hl ho ht ha=>
   have hrl:=hs.row_len hx h
   simp at hrl
   obtain ⟨rfl,rfl,rfl⟩:=hrl
   rcases r4 with ⟨g1,_⟩ | ⟨B',base',vs,ty,g1,g2,g3,g4,g5,g6,g7⟩
   · rw [h] at g1; injection g1 with g1; injection g1 with g1; cases g1
   · rw [h] at g1; injection g1 with g1; injection g1 with e1 e2; injection e1 with e1; injection e1 with e1 e3; injection e3 with e3 e4
     subst e1; subst e3; subst e4
     have hmul:(off + l) * esz1≤xs.length * esz1:=Nat.mul_le_mul_right _ hle
     rw [Nat.add_mul] at hmul
     rw [Nat.add_mul] at ht
     obtain ⟨K',k1,k2,k3⟩:=hs1.sameRow (w':=w) (b:=tid) (B:=B) (base:=base + off * esz1) (tot:=vs.size) (esz:=esz1) (nz:=nz') (p:=p - off) (xs:=cut xs off l) (V:=vs) (ty:=ty) hfree (cut_closed r1) (fun d hd=>r2 d (List.mem_of_mem_drop (List.mem_of_mem_take hd)))
       (by rw [hlen]; omega) (fun hz hh=>by
         obtain ⟨z1,z2,z3⟩:=hnz hz
         have:(cut xs off l).length=0:=by rw [hh]; rfl
         rw [hlen,z3] at this
         exact g2 z1 (List.eq_nil_of_length_eq_zero this)) (by rw [hlen]; omega)
       (fun i d hd j c hc=>by
         obtain ⟨u,h1,h2,h3⟩:=g5 (off + i) d (cut_get hd).1 j c hc
         refine ⟨u,by rw [←h1,Nat.add_mul]; congr 1; omega,h2.shut (closedL_mem (cellsOf_closed (closedL_mem r1 (List.mem_of_getElem? (cut_get hd).1))) (List.mem_of_getElem? hc)) fun _ _ _ h=>h,h3⟩)
       g3 (fun _ _=>rfl) rfl rfl rfl rfl (hs.low b _ _ _ _ h rfl) (fun c j o n hc hl=>by
         obtain ⟨h1,h2⟩:=hsome c j hc
         exact h2 (by simp; exact hs.inj c b _ _ _ _ _ _ _ h1 h hl rfl))
       ⟨_,_,_,g3⟩ (fun o v hv=>by
         have:=((hs.val B o v hv).cell g3).1
         rwa [cell_of_heap g3] at this)
       (fun o ho=>g6 o (by
         rcases Nat.lt_or_ge p off with h | h
         · have:p * esz1≤off * esz1:=Nat.mul_le_mul_right _ (by omega)
           omega
         · have:p * esz1=off * esz1 + (p - off) * esz1:=by rw [←Nat.add_mul]; congr 1; omega
           omega))
       (fun o h1 h2=>g7 o (by omega) (by
         rcases Nat.lt_or_ge p off with h | h
         · have:p - off=0:=by omega
           rw [this] at h2; omega
         · have:p * esz1=off * esz1 + (p - off) * esz1:=by rw [←Nat.add_mul]; congr 1; omega
           omega))
     rw [hlen] at k3
     exact ⟨K',k1,⟨fun b c i h1 h2=>k2 _ _ (hm.k b c i h1 h2),hm.q⟩,.ow k3 hl (by omega) ha⟩
theorem Rel.asWin {b len:Nat}{v:Value}(h:Rel K Q (.ow b) v)(hk:∀ i,K b=some i→∃ nz esz,i.k=some (nz,esz,len)):Rel K Q (.win b 0 len) v:=by
 cases h with
 | owNil h=>
   obtain ⟨nz,esz,he⟩:=hk _ h
   simp at he
   rw [←he.2.2]; exact .winNil h
 | ow h hl ht ha=>
   obtain ⟨nz,esz,he⟩:=hk _ h
   simp at he
   obtain ⟨rfl,rfl,rfl⟩:=he
   exact .win h hl (by omega) (by simpa using ht) (by simpa using ha)
theorem cut_all (xs:List D):cut xs 0 xs.length=xs:=by simp [cut]
theorem tidFree {b tid:Nat}(h:(bif (b == tid) then true else noMem (idsOf H) [tid])=true):b=tid∨hget H tid=none:=by
 cases hb:(b == tid) with
 | true=>exact .inl (eq_of_beq hb)
 | false=>rw [hb] at h; exact .inr (noMem_one h)
theorem ghost_ok {g:RG}{e':Env}{H':Heap}(hg:ghOk n g=true)(h:ghost g e H=some (e',H'))(hs:Sim w0 K0 K Q H w)(he:RelE K Q n e ts) :
   ∃ K' Q',Sim w0 K0 K' Q' H' w∧RelE K' Q' n e' ts∧Le Q Q':=by
 cases g with
 | fr t=>
   simp only [ghOk,decide_eq_true_eq] at hg
   simp only [ghost] at h
   split at h<;>try (cases h; done)
   rename_i d H1 hf
   injection h with h; injection h with h1 h2; subst h1; subst h2
   obtain ⟨Q',g1,g2,g3,_,_⟩:=(frz_ok (w0:=w0) (K0:=K0) (K:=K) (w:=w) deep).1 hs (he.2 t hg) hf
   exact ⟨K,Q',g2,(he.mono (fun _ _ h=>h) g1).reset g3,g1⟩
 | wh t tid=>
   simp only [ghOk,decide_eq_true_eq] at hg
   have rt:=he.2 t hg
   simp only [ghost] at h
   split at h<;>try (cases h; done)
   · rename_i b off l ht
     split at h<;>try (cases h; done)
     rename_i nz esz xs p dy hx
     split at h<;>try (cases h; done)
     rename_i hc
     injection h with h; injection h with h1 h2; subst h1; subst h2
     simp only [Bool.and_eq_true,decide_eq_true_eq] at hc
     rw [ht] at rt
     obtain ⟨K',g1,g2,g3⟩:=hs.moved (nz':=false) hx (tidFree hc.2) hc.1.1 hc.1.2 rt (fun h=>by cases h)
     exact ⟨K',Q,g1,(he.kill g2).reset g3,fun _ _ _ h=>h⟩
   · rename_i b ht
     split at h<;>try (cases h; done)
     rename_i nz esz xs p dy hx
     split at h<;>try (cases h; done)
     rename_i hc
     injection h with h; injection h with h1 h2; subst h1; subst h2
     rw [ht] at rt
     obtain ⟨K',g1,g2,g3⟩:=hs.moved (nz':=nz) (off:=0) (l:=xs.length) hx (tidFree hc) (by omega) (by have:=(hs.blk b _ hx).2.2.1; omega) (rt.asWin fun i hi=>⟨nz,esz,hs.row_len hx hi⟩) (fun h=>⟨h,rfl,rfl⟩)
     rw [cut_all,Nat.sub_zero] at g1
     exact ⟨K',Q,g1,(he.kill g2).reset g3,fun _ _ _ h=>h⟩
   · injection h with h; injection h with h1 h2; subst h1; subst h2
     exact ⟨K,Q,hs,he,fun _ _ _ h=>h⟩
 | rn t tid=>
   simp only [ghOk,decide_eq_true_eq] at hg
   have rt:=he.2 t hg
   simp only [ghost] at h
   split at h<;>try (cases h; done)
   rename_i b ht
   split at h
   · injection h with h; injection h with h1 h2; subst h1; subst h2
     exact ⟨K,Q,hs,he,fun _ _ _ h=>h⟩
   · split at h<;>try (cases h; done)
     rename_i nz esz xs p dy hx
     split at h<;>try (cases h; done)
     rename_i hc
     injection h with h; injection h with h1 h2; subst h1; subst h2
     rw [ht] at rt
     obtain ⟨K',g1,g2,g3⟩:=hs.moved (nz':=nz) (off:=0) (l:=xs.length) hx (.inr (noMem_one hc)) (by omega) (by have:=(hs.blk b _ hx).2.2.1; omega) (rt.asWin fun i hi=>⟨nz,esz,hs.row_len hx hi⟩) (fun h=>⟨h,rfl,rfl⟩)
     rw [cut_all,Nat.sub_zero] at g1
     exact ⟨K',Q,g1,(he.kill g2).reset g3,fun _ _ _ h=>h⟩
 | nr t tid esz=>
   simp only [ghOk,decide_eq_true_eq] at hg
   have rt:=he.2 t hg
   simp only [ghost] at h
   split at h<;>try (cases h; done)
   · rename_i z xs ht
     split at h<;>try (cases h; done)
     split at h<;>try (cases h; done)
     rename_i hc
     injection h with h; injection h with h1 h2; subst h1; subst h2
     obtain ⟨K',g1,g2,g3⟩:=hs.nilRow (nz:=true) (esz:=esz) (noMem_one hc)
     rw [ht] at rt
     refine ⟨K',Q,g1,(he.mono g2 fun _ _ _ h=>h).reset ?_,fun _ _ _ h=>h⟩
     generalize ts.getD t undef=v at rt
     cases rt with
     | fzNil=>exact .owNil g3
     | fz h=>exact absurd rfl h
   · split at h<;>try (cases h; done)
     injection h with h; injection h with h1 h2; subst h1; subst h2
     exact ⟨K,Q,hs,he,fun _ _ _ h=>h⟩
 | bl t ids=>
   simp only [ghOk,decide_eq_true_eq] at hg
   simp only [ghost] at h
   injection h with h; injection h with h1 h2; subst h1; subst h2
   refine ⟨K,Q,hs,he.reset ?_,fun _ _ _ h=>h⟩
   rw [killD_eq]
   exact (he.2 t hg).map ⟨fun b c i h1 h2=>by obtain ⟨rfl,_⟩:=killM_some h1; exact h2,fun _ _ _ h=>h⟩
 | dr ids=>
   simp only [ghost] at h
   injection h with h; injection h with h1 h2; subst h1; subst h2
   obtain ⟨K',g1,g2,g3⟩:=hs.kill ids
   exact ⟨K',Q,g1,he.kill g2,fun _ _ _ h=>h⟩
end
end Gs
namespace Gs
open Go
variable [GlobTab]
theorem distinct_iff (l:List Nat):distinct l=true↔l.Nodup:=by
 induction l with
 | nil=>simp [distinct]
 | cons a r ih=>
   simp only [distinct]
   cases h:mem a r with
   | true=>simp only [cond_true,Bool.false_eq_true,false_iff,List.nodup_cons]; exact fun hh=>hh.1 ((mem_iff a r).1 h)
   | false=>
     have:a∉r:=fun hh=>by rw [(mem_iff a r).2 hh] at h; cases h
     simp [ih,this]
theorem allMem_iff (l m:List Nat):allMem l m=true↔∀ a∈m,a∈l:=by
 induction m with
 | nil=>simp [allMem]
 | cons a r ih=>
   simp only [allMem]
   cases h:mem a l with
   | true=>simp [ih,(mem_iff a l).1 h]
   | false=>
     have:a∉l:=fun hh=>by rw [(mem_iff a l).2 hh] at h; cases h
     simp [this]
theorem smallL_iff (l:List Nat):smallL l=true↔∀ a∈l,a < 500000:=by
 induction l with
 | nil=>simp [smallL]
 | cons a r ih=>
   simp only [smallL]
   by_cases h:a < 500000
   · simp [h,ih]
   · simp [h]
theorem dom_eq (m:List (Nat×Nat)):dom m=m.map (·.1):=by induction m with | nil=>rfl | cons p r ih=>simp [dom,ih]
theorem joinM_eq (a b:List (Nat×Nat)):joinM a b=a ++ b:=by induction a with | nil=>rfl | cons p r ih=>simp [joinM,ih]
theorem ren1_mem {m:List (Nat×Nat)}{b c:Nat}(h:ren1 m b=some c):(b,c)∈m:=by
 induction m with
 | nil=>simp [ren1] at h
 | cons p r ih=>
   obtain ⟨x,y⟩:=p
   simp only [ren1] at h
   by_cases e:x=b
   · subst e; simp at h; subst h; simp
   · rw [nbeq e] at h; exact List.mem_cons_of_mem _ (ih h)
theorem mem_ren1 {m:List (Nat×Nat)}{b c:Nat}(hn:(m.map (·.1)).Nodup)(h:(b,c)∈m):ren1 m b=some c:=by
 induction m with
 | nil=>simp at h
 | cons p r ih=>
   obtain ⟨x,y⟩:=p
   simp only [List.map_cons,List.nodup_cons] at hn
   simp only [ren1]
   by_cases e:x=b
   · subst e
     cases h with
     | head=>simp
     | tail _ h=>exact absurd (List.mem_map_of_mem (f:=(·.1)) h) hn.1
   · rw [nbeq e]
     cases h with
     | head=>exact absurd rfl e
     | tail _ h=>exact ih hn.2 h
theorem ran_inj {m:List (Nat×Nat)}(hn:(m.map (·.2)).Nodup){a b c:Nat}(h:(a,c)∈m)(h':(b,c)∈m):a=b:=by
 induction m with
 | nil=>simp at h
 | cons p r ih=>
   obtain ⟨x,y⟩:=p
   simp only [List.map_cons,List.nodup_cons] at hn
   cases h with
   | head=>
     cases h' with
     | head=>rfl
     | tail _ h'=>exact absurd (List.mem_map_of_mem (f:=(·.2)) h') hn.1
   | tail _ h=>
     cases h' with
     | head=>exact absurd (List.mem_map_of_mem (f:=(·.2)) h) hn.1
     | tail _ h'=>exact ih hn.2 h h'
theorem hget_pick (m:List (Nat×Nat))(dy:Nat→Bool→Bool)(H:Heap):∀ (l:List (Nat×Nat)),(l.map (·.2)).Nodup→∀ c y,hget (pickH m dy H l) c=some y↔∃ b x,(b,c)∈l∧hget H b=some x∧y=renB m (dy b) x
 | [],_,c,y=>by simp [pickH,hget]
 | (b, k) :: r, hn, c, y => by
   simp only [List.map_cons,List.nodup_cons] at hn
   have ih:=hget_pick m dy H r hn.2 c y
   simp only [pickH]
   cases hx:hget H b with
   | none=>
     simp only [ih]
     constructor
     · rintro ⟨b',x,h1,h2⟩; exact ⟨b',x,List.mem_cons_of_mem _ h1,h2⟩
     · rintro ⟨b',x,h1,h2,h3⟩
       cases h1 with
       | head=>rw [hx] at h2; cases h2
       | tail _ h1=>exact ⟨b',x,h1,h2,h3⟩
   | some x=>
     simp only [hget]
     by_cases e:k=c
     · subst e
       simp only [BEq.rfl,cond_true,Option.some.injEq]
       constructor
       · rintro rfl; exact ⟨b,x,List.mem_cons_self ..,hx,rfl⟩
       · rintro ⟨b',x',h1,h2,h3⟩
         cases h1 with
         | head=>rw [hx] at h2; injection h2 with h2; subst h2; exact h3.symm
         | tail _ h1=>exact absurd (List.mem_map_of_mem (f:=(·.2)) h1) hn.1
     · rw [nbeq e]
       simp only [cond_false,ih]
       constructor
       · rintro ⟨b',x,h1,h2⟩; exact ⟨b',x,List.mem_cons_of_mem _ h1,h2⟩
       · rintro ⟨b',x,h1,h2,h3⟩
         cases h1 with
         | head=>exact absurd rfl e
         | tail _ h1=>exact ⟨b',x,h1,h2,h3⟩
theorem hget_cat (A B:Heap)(c:Nat):hget (catH A B) c=(hget A c).or (hget B c):=by
 induction A with
 | nil=>simp [catH,hget]
 | cons p r ih=>
   obtain ⟨k,x⟩:=p
   simp only [catH,hget]
   cases h:(k == c)<;>simp [ih]
theorem names_dom (l:List Nat)(k:Nat):(names l k).map (·.1)=l:=by
 induction l generalizing k with
 | nil=>rfl
 | cons a r ih=>simp [names,ih]
theorem names_ran {l:List Nat}{k b c:Nat}(h:(b,c)∈names l k):k≤c∧c < k + l.length:=by
 induction l generalizing k with
 | nil=>simp [names] at h
 | cons a r ih=>
   simp only [names,List.mem_cons,Prod.mk.injEq] at h
   rcases h with ⟨_,rfl⟩ | h
   · simp
   · have:=ih h; simp; omega
theorem names_nodup (l:List Nat)(k:Nat):((names l k).map (·.2)).Nodup:=by
 induction l generalizing k with
 | nil=>simp [names]
 | cons a r ih=>
   simp only [names,List.map_cons,List.nodup_cons,ih,and_true]
   intro h
   obtain ⟨⟨x,y⟩,hm,he⟩:=List.mem_map.1 h
   have:=names_ran hm
   simp at he; omega
theorem back_names (l:List Nat)(k b c:Nat):(c,b)∈back l k↔(b,c)∈names l k:=by
 induction l generalizing k with
 | nil=>simp [back,names]
 | cons a r ih=>simp only [back,names,List.mem_cons,Prod.mk.injEq,ih]; constructor<;>(rintro (⟨rfl,rfl⟩ | h)<;>simp [*])
theorem back_ran (l:List Nat)(k:Nat):(back l k).map (·.2)=l:=by
 induction l generalizing k with
 | nil=>rfl
 | cons a r ih=>simp [back,ih]
theorem back_dom (l:List Nat)(k:Nat):(back l k).map (·.1)=(names l k).map (·.2):=by
 induction l generalizing k with
 | nil=>rfl
 | cons a r ih=>simp [back,names,ih]
theorem same_dom (l:List Nat):(same l).map (·.1)=l:=by induction l with | nil=>rfl | cons a r ih=>simp [same,ih]
theorem same_ran (l:List Nat):(same l).map (·.2)=l:=by induction l with | nil=>rfl | cons a r ih=>simp [same,ih]
theorem mem_same (l:List Nat)(a b:Nat):(a,b)∈same l↔a=b∧a∈l:=by
 induction l with
 | nil=>simp [same]
 | cons c r ih=>
   simp only [same,List.mem_cons,Prod.mk.injEq,ih]
   constructor
   · rintro (⟨rfl,rfl⟩ | ⟨rfl,h⟩)
     · simp
     · simp [h]
   · rintro ⟨rfl,rfl | h⟩
     · simp
     · simp [h]
section
variable {P:Program} {w0:World0} {w w':World} {K0 K K':Km} {Q Q':Pm} {H H':Heap} {n:Nat} {e:Env} {ts:Array Value}
theorem Core.pick (hs:Core K Q H w)(m:List (Nat×Nat))(dy:Nat→Bool→Bool)(hd:(m.map (·.1)).Nodup)(hr:(m.map (·.2)).Nodup) :
   Core (mapK (ren1 m) K (pickH m dy H m)) Q (pickH m dy H m) w∧Maps (ren1 m) K (mapK (ren1 m) K (pickH m dy H m)) Q Q:=by
 refine hs.map (fun a b c h h'=>ran_inj hr (ren1_mem h) (ren1_mem h')) (fun c y hy=>?_) (fun b c hb hx hh=>?_)
 · obtain ⟨b,x,h1,h2,rfl⟩:=(hget_pick m dy H m hr c y).1 hy
   exact ⟨b,x,mem_ren1 hd h1,h2,.ren m _ x⟩
 · cases hx':hget H b with
   | none=>exact hx hx'
   | some x=>
     have:=(hget_pick m dy H m hr c _).2 ⟨b,x,ren1_mem hb,hx',rfl⟩
     rw [hh] at this; cases this
theorem handBack_ok {ps outs:List Nat}{d r:D}{v:Value}(hps:∀ b∈ps,500000≤b∧b < 600000)(hdom:∀ b,b∈ps∨K0 b=none)(h:handBack ps outs d H=some (r,H'))(hs:Sim w0 K0 K Q H w)(hr:Rel K Q d v) :
   ∃ K',Sim w0 K0 K' Q H' w∧Rel K' Q r v:=by
 unfold handBack at h
 split at h<;>try (cases h; done)
 rename_i hd
 injection h with h; injection h with h1 h2; subst h1; subst h2
 rw [distinct_iff,dom_eq] at hd
 rw [joinM_eq] at hd ⊢
 have hd':=hd
 rw [List.map_append,same_dom,names_dom] at hd'
 have hran:((same ps ++ names outs resId).map (·.2)).Nodup:=by
   rw [List.map_append,same_ran,List.nodup_append]
   refine ⟨(List.nodup_append.1 hd').1,names_nodup _ _,fun a ha b hb hab=>?_⟩
   subst hab
   obtain ⟨⟨x,y⟩,hm,rfl⟩:=List.mem_map.1 hb
   have:=names_ran hm
   have:=(hps _ ha).2
   simp only [resId] at *
   omega
 obtain ⟨g1,g2⟩:=hs.toCore.pick (same ps ++ names outs resId) (fun _ d=>d) hd hran
 refine ⟨_,⟨g1,hs.kept,fun c i B o n hc hl=>?_,fun c hc hc' y hy hcl=>?_,hs.qk,hs.grow⟩,by rw [renD_eq]; exact hr.map g2⟩
 · obtain ⟨b,hb,hk,_⟩:=mapK_some hc
   exact hs.low b i B o n hk hl
 · obtain ⟨b,x,h1,h2,rfl⟩:=(hget_pick _ _ H _ hran c y).1 hy
   have hb:b=c:=by
     rcases List.mem_append.1 h1 with h1 | h1
     · exact ((mem_same _ _ _).1 h1).1
     · have:=names_ran h1; simp only [resId] at this; omega
   subst hb
   have hx:isClean x=true:=by cases x<;>simp_all [renB,isClean]
   have:=hs.clean b hc hc' x h2 hx
   rw [←this]
   cases hk:K b with
   | none=>
     cases hh:mapK (ren1 (same ps ++ names outs resId)) K (pickH (same ps ++ names outs resId) (fun _ d=>d) H (same ps ++ names outs resId)) b with
     | none=>rfl
     | some i=>
       obtain ⟨b',hb',hk',_⟩:=mapK_some hh
       have:=ran_inj hran (ren1_mem hb') h1
       subst this; rw [hk] at hk'; cases hk'
   | some i=>rw [mapK_eq (fun a b c h h'=>ran_inj hran (ren1_mem h) (ren1_mem h')) (mem_ren1 hd h1) (by rw [hk]; simp) (by rw [hy]; simp),hk]
def Gives (P:Program)(g:Nat)(args:List D)(H:Heap)(r:D)(H':Heap):Prop:=
  (∃ fn, P.funcs[g]? = some fn ∧ fn.body.isNone = false ∧ (fn.name == "runtime.NumGoroutine") = false) ∧ ∀ (K : Km) (Q : Pm) (w : World) (vs : List Value), (∀ b ∈ idsOf H, 500000 ≤ b ∧ b < 600000) → GlobOk Q → Core K Q H w → RelL K Q args vs →
    Calls P g vs.toArray w fun en w'=>∃ v,en = .returned v∧∃ K' Q',Sim ⟨w,Q⟩ K K' Q' H' w'∧Le Q Q'∧Rel K' Q' r v
theorem BlkOk.after {b:Nat}{x:Blk}{tk:List Nat}(h:BlkOk K Q w b x)(hm:Maps (killM tk) K K' Q Q')(hk:K' b=K b)(hw:∀ B o n k,K b=some ⟨some (B,o,n),k⟩→w'.heap[B]?=w.heap[B]?)
   (hq:∀ B o n k,K b=some ⟨some (B,o,n),k⟩→∀ j,Q' B j=Q B j):BlkOk K' Q' w' b (killB tk x):=by
 cases x with
 | itr s pos=>
   obtain ⟨B,h1,h2,h3⟩:=h
   exact ⟨B,by rw [hk]; exact h1,by rw [hw _ _ _ _ h1]; exact h2,fun o=>by rw [hq _ _ _ _ h1,h3]⟩
 | mapB cs fr=>
   obtain ⟨B,es,cl,h1,h2,h3,h4,h5⟩:=h
   exact ⟨B,es,cl,by rw [hk]; exact h1,by rw [hw _ _ _ _ h1]; exact h2,h3.shut h4 hm.q,h4,fun o=>by rw [hq _ _ _ _ h1,h5]⟩
 | box cs fr=>
   obtain ⟨B,vs,t,h1,h2,h3,h4,h5,h6⟩:=h
   refine ⟨B,vs,t,by rw [hk]; exact h1,by rw [hw _ _ _ _ h1]; exact h2,by rw [killL_eq]; exact h3.map hm,h4,fun o=>by rw [hq _ _ _ _ h1,h5],fun hf=>?_⟩
   rw [killL_eq,mapL_closed _ cs (h6 hf)]; exact h6 hf
 | row nz esz xs p d=>
   obtain ⟨h1,h2,h3,h⟩:=h
   refine ⟨h1,h2,h3,?_⟩
   rw [hk]
   rcases h with h | ⟨B,base,vs,t,g1,g2,g3,g4,g5,g6,g7⟩
   · exact .inl h
   · exact .inr ⟨B,base,vs,t,g1,g2,by rw [hw _ _ _ _ g1]; exact g3,g4,g5.map h1 hm.q,fun o ho=>by rw [hq _ _ _ _ g1,g6 o ho],fun o a b=>by rw [hq _ _ _ _ g1,g7 o a b]⟩
theorem BlkOk.k_kind {b:Nat}{x:Blk}(h:BlkOk K Q w b x):∃ i,K b=some i∧(i.k=none↔∀ nz esz xs p d,x≠.row nz esz xs p d):=by
 cases x with
 | itr s pos=>
   obtain ⟨B,h1,_⟩:=h
   exact ⟨_,h1,by simp⟩
 | mapB cs fr=>
   obtain ⟨B,es,cl,h1,_⟩:=h
   exact ⟨_,h1,by simp⟩
 | box cs fr=>
   obtain ⟨B,vs,t,h1,_⟩:=h
   exact ⟨_,h1,by simp⟩
 | row nz esz xs p d=>
   obtain ⟨_,_,_,h | ⟨B,base,vs,t,g1,_⟩⟩:=h
   · exact ⟨_,h.1,by simp only [reduceCtorEq,false_iff]; exact fun hh=>hh _ _ _ _ _ rfl⟩
   · exact ⟨_,g1,by simp only [reduceCtorEq,false_iff]; exact fun hh=>hh _ _ _ _ _ rfl⟩
theorem turned_mem {H:Heap}{b:Nat} : ∀ {l:List (Nat×Nat)},b∈turned H l→∃ c,(b,c)∈l
 | [],h=>by simp [turned] at h
 | (x,c) :: r,h=>by
   simp only [turned] at h
   split at h
   · obtain ⟨c',hc'⟩:=turned_mem h; exact ⟨c',List.mem_cons_of_mem _ hc'⟩
   · obtain ⟨c',hc'⟩:=turned_mem h; exact ⟨c',List.mem_cons_of_mem _ hc'⟩
   · obtain ⟨c',hc'⟩:=turned_mem h; exact ⟨c',List.mem_cons_of_mem _ hc'⟩
   · obtain ⟨c',hc'⟩:=turned_mem h; exact ⟨c',List.mem_cons_of_mem _ hc'⟩
   · cases h with
     | head=>exact ⟨c,List.mem_cons_self ..⟩
     | tail _ h=>obtain ⟨c',hc'⟩:=turned_mem h; exact ⟨c',List.mem_cons_of_mem _ hc'⟩
theorem not_turned {H:Heap}{b c:Nat} : ∀ {l:List (Nat×Nat)},(b,c)∈l→(l.map (·.1)).Nodup→b∉turned H l→∃ x,hget H c=some x∧isClean x=true
 | (x,k) :: r,h,hn,hb=>by
   simp only [List.map_cons,List.nodup_cons] at hn
   simp only [turned] at hb
   cases h with
   | head=>
     split at hb
     · rename_i hx; exact ⟨_,hx,rfl⟩
     · rename_i hx; exact ⟨_,hx,rfl⟩
     · rename_i hx; exact ⟨_,hx,rfl⟩
     · rename_i hx; exact ⟨_,hx,rfl⟩
     · exact absurd (List.mem_cons_self ..) hb
   | tail _ h=>
     split at hb
     · exact not_turned h hn.2 hb
     · exact not_turned h hn.2 hb
     · exact not_turned h hn.2 hb
     · exact not_turned h hn.2 hb
     · exact not_turned h hn.2 fun hh=>hb (List.mem_cons_of_mem _ hh)
end
end Gs
namespace Gs
open Go
variable [GlobTab]
section
variable {P:Program} {w0:World0} {w w':World} {K0 K K':Km} {Q Q':Pm} {H H':Heap} {n:Nat} {e:Env} {ts:Array Value}
open Classical in
noncomputable def joinK (m:List (Nat×Nat)) (Kc:Km) (Hn:Heap) (bs:List Nat) (K:Km):Km:=fun b=>if hget Hn b≠none then mapK (ren1 m) Kc Hn b else if b∈bs then none else K b
theorem call_back {bs tids:List Nat}{Ho:Heap}{Kc Kc':Km}{Qc:Pm}{r:D}{v:Value}(hbs:bs.Nodup)(htids:tids.Nodup)(hfree:∀ i∈tids,hget H i=none)(hapart:∀ i∈tids,i∉bs)(hsmall:∀ i∈tids,i < 500000)(hlen:bs.length < 100000)
   (hs:Sim w0 K0 K Q H w) (he:RelE K Q n e ts)
   (hKc:Kc=mapK (ren1 (names bs parId)) K (pickH (names bs parId) (fun _ _=>false) H (names bs parId)))
   (hc:Sim ⟨w,Q⟩ Kc Kc' Qc Ho w') (hq:Le Q Qc) (hr:Rel Kc' Qc r v) :
   ∃ K',Sim w0 K0 K' Qc (catH (killH (turned Ho (names bs parId)) (without bs H)) (pickH (back bs parId ++ back tids resId) (markBack (back bs parId ++ back tids resId) H) Ho (back bs parId ++ back tids resId))) w'∧
     RelE K' Qc n (killE (turned Ho (names bs parId)) e) ts∧Rel K' Qc (renD (back bs parId ++ back tids resId) r) v:=by
 let m1:=names bs parId
 let m2:=back bs parId ++ back tids resId
 let tk:=turned Ho m1
 let Hn:=pickH m2 (markBack m2 H) Ho m2
 have hm1d:(m1.map (·.1)).Nodup:=by simp only [m1]; rw [names_dom]; exact hbs
 have hm1r:(m1.map (·.2)).Nodup:=names_nodup _ _
 have hm2r:(m2.map (·.2)).Nodup:=by
   simp only [m2]
   rw [List.map_append,back_ran,back_ran,List.nodup_append]
   exact ⟨hbs,htids,fun a ha b hb hab=>hapart b hb (hab ▸ ha)⟩
 have hm2d:(m2.map (·.1)).Nodup:=by
   simp only [m2]
   rw [List.map_append,back_dom,back_dom,List.nodup_append]
   refine ⟨names_nodup _ _,names_nodup _ _,fun a ha b hb hab=>?_⟩
   subst hab
   obtain ⟨⟨x,y⟩,h1,rfl⟩:=List.mem_map.1 ha
   obtain ⟨⟨x',y'⟩,h2,h3⟩:=List.mem_map.1 hb
   have:=names_ran h1
   have:=names_ran h2
   simp only [parId,resId] at *
   omega
 have par:∀ b c,(b,c)∈m1→b∈bs∧500000≤c∧c < 600000∧(c,b)∈m2:=fun b c h=>by
   have h1:=names_ran h
   have h2:b∈m1.map (·.1):=List.mem_map_of_mem (f:=(·.1)) h
   simp only [m1] at h2
   rw [names_dom] at h2
   simp only [parId] at h1
   exact ⟨h2,h1.1,by omega,List.mem_append_left _ ((back_names _ _ _ _).2 h)⟩
 have par':∀ b,b∈bs→∃ c,(b,c)∈m1:=fun b hb=>by
   have:b∈m1.map (·.1):=by simp only [m1]; rw [names_dom]; exact hb
   obtain ⟨⟨x,y⟩,h,rfl⟩:=List.mem_map.1 this
   exact ⟨y,h⟩
 have m2of:∀ c b,(c,b)∈m2→(b,c)∈m1∨(b∈tids∧600000≤c):=fun c b h=>by
   rcases List.mem_append.1 h with h | h
   · exact .inl ((back_names _ _ _ _).1 h)
   · have h1:=(back_names _ _ _ _).1 h
     have h2:b∈(names tids resId).map (·.1):=List.mem_map_of_mem (f:=(·.1)) h1
     rw [names_dom] at h2
     have:=names_ran h1
     exact .inr ⟨h2,this.1⟩
 have hcin:∀ B,InK Kc B→∃ b i o n,b∈bs∧K b=some i∧i.loc=some (B,o,n):=fun B hB=>by
   obtain ⟨c,i,o,n,hc1,hl⟩:=hB
   rw [hKc] at hc1
   obtain ⟨b,hb,hk,_⟩:=mapK_some hc1
   exact ⟨b,i,o,n,(par b c (ren1_mem hb)).1,hk,hl⟩
 have hkc:∀ b c,(b,c)∈m1→hget H b≠none→K b≠none→Kc c=K b:=fun b c h hx hk=>by
   rw [hKc]
   refine mapK_eq (fun a b c h h'=>ran_inj hm1r (ren1_mem h) (ren1_mem h')) (mem_ren1 hm1d h) hk ?_
   cases hx':hget H b with
   | none=>exact absurd hx' hx
   | some x=>
     have:=(hget_pick m1 (fun _ _=>false) H m1 hm1r c _).2 ⟨b,x,h,hx',rfl⟩
     rw [this]; simp
 have hlt:∀ b i B o n,K b=some i→i.loc=some (B,o,n)→B < w.heap.size:=fun b i B o n hk hl=>hs.toCore.lt hk hl
 have hout:∀ b i B o n,b∉bs→K b=some i→i.loc=some (B,o,n)→¬ InK Kc B:=fun b i B o n hb hk hl hin=>by
   obtain ⟨b',i',o',n',hb',hk',hl'⟩:=hcin B hin
   have:=hs.inj b b' i i' B o n o' n' hk hk' hl hl'
   subst this; exact hb hb'
 have hheap:∀ b i B o n,b∉bs→K b=some i→i.loc=some (B,o,n)→w'.heap[B]?=w.heap[B]?:=fun b i B o n hb hk hl=>hc.kept.block B (hlt _ _ _ _ _ hk hl) (hout _ _ _ _ _ hb hk hl)
 have hqq:∀ b i B o n,b∉bs→K b=some i→i.loc=some (B,o,n)→∀ j,Qc B j=Q B j:=fun b i B o n hb hk hl=>hc.qk B (hlt _ _ _ _ _ hk hl) (hout _ _ _ _ _ hb hk hl)
 obtain ⟨g1,g2⟩:=hc.toCore.pick m2 (markBack m2 H) hm2d hm2r
 have hHn:∀ b y,hget Hn b=some y↔∃ c x,(c,b)∈m2∧hget Ho c=some x∧y=renB m2 (markBack m2 H c) x:=hget_pick m2 (markBack m2 H) Ho m2 hm2r
 have htkbs:∀ b,b∈tk→b∈bs:=fun b hb=>by
   obtain ⟨c,hc'⟩:=turned_mem hb
   exact (par b c hc').1
 have hcore1:∀ b,b∉bs→b∉tids→hget Hn b=none:=fun b h1 h2=>by
   cases hh:hget Hn b with
   | none=>rfl
   | some y=>
     obtain ⟨c,x,h3,_⟩:=(hHn b y).1 hh
     rcases m2of c b h3 with h4 | h4
     · exact absurd (par _ _ h4).1 h1
     · exact absurd h4.1 h2
 let K':=joinK m2 Kc' Hn bs K
 have k1:∀ b,hget Hn b≠none→K' b=mapK (ren1 m2) Kc' Hn b:=fun b h=>by simp only [K',joinK]; rw [if_pos h]
 have k2:∀ b,b∉bs→b∉tids→K' b=K b:=fun b h1 h2=>by simp only [K',joinK]; rw [if_neg (by rw [hcore1 b h1 h2]; simp),if_neg h1]
 have k2':∀ b i,b∉bs→K b=some i→b∉tids:=fun b i h1 hk ht=>by
   obtain ⟨x,hx⟩:=hs.dom b i hk
   rw [hfree b ht] at hx; cases hx
 have k3:∀ b i,mapK (ren1 m2) Kc' Hn b=some i→K' b=some i:=fun b i h=>by
   rw [k1 b (mapK_some h).choose_spec.2.2]; exact h
 have k4:∀ b i,K' b=some i→(hget Hn b≠none∧mapK (ren1 m2) Kc' Hn b=some i)∨(b∉bs∧b∉tids∧K b=some i∧hget Hn b=none):=fun b i h=>by
   by_cases hh:hget Hn b≠none
   · exact .inl ⟨hh,by rw [←k1 b hh]; exact h⟩
   · have hn:hget Hn b=none:=by simpa using hh
     simp only [K',joinK] at h
     rw [if_neg hh] at h
     by_cases hb:b∈bs
     · rw [if_pos hb] at h; cases h
     · rw [if_neg hb] at h
       exact .inr ⟨hb,k2' b i hb h,h,hn⟩
 have hsame:∀ b i,b∈bs→b∉tk→K b=some i→K' b=some i:=fun b i hb htk hk=>by
   obtain ⟨c,hm⟩:=par' b hb
   obtain ⟨x,hx,hcl⟩:=not_turned hm hm1d htk
   obtain ⟨_,p1,p2,p3⟩:=par b c hm
   obtain ⟨y,hy⟩:=hs.dom b i hk
   have h1:Kc' c=Kc c:=hc.clean c p1 p2 x hx hcl
   rw [hkc b c hm (by rw [hy]; simp) (by rw [hk]; simp),hk] at h1
   have hn:hget Hn b≠none:=by rw [(hHn b _).2 ⟨c,x,p3,hx,rfl⟩]; simp
   rw [k1 b hn,mapK_eq (fun a b c h h'=>ran_inj hm2r (ren1_mem h) (ren1_mem h')) (mem_ren1 hm2d p3) (by rw [h1]; simp) hn,h1]
 have hmaps:Maps (killM tk) K K' Q Qc:=⟨fun b c i hb hk=>by
   obtain ⟨rfl,hn⟩:=killM_some hb
   by_cases hbs':b∈bs
   · exact hsame b i hbs' hn hk
   · rw [k2 b hbs' (k2' b i hbs' hk)]; exact hk,hq⟩
 have hold:∀ b,hget (killH tk (without bs H)) b=if b∈bs then none else (hget H b).map (killB tk):=fun b=>by
   rw [hget_killH,hget_without]; split<;>rfl
 have hH1:∀ b y,hget (catH (killH tk (without bs H)) Hn) b=some y→(b∉bs∧b∉tids∧∃ x,hget H b=some x∧y=killB tk x)∨hget Hn b=some y:=fun b y h=>by
   rw [hget_cat,hold] at h
   by_cases hb:b∈bs
   · rw [if_pos hb] at h; exact .inr (by simpa using h)
   · rw [if_neg hb] at h
     cases hx:hget H b with
     | none=>rw [hx] at h; exact .inr (by simpa using h)
     | some x=>
       rw [hx] at h
       simp at h
       exact .inl ⟨hb,(fun ht=>by rw [hfree b ht] at hx; cases hx),x,rfl,h.symm⟩
 have hin0:∀ B,B < w0.heap.size→¬ InK K0 B→¬ InK Kc B:=fun B hB hn hin=>by
   obtain ⟨b',j,o,n,_,hk,hl⟩:=hcin B hin
   rcases hs.low _ _ _ _ _ hk hl with h | h
   · exact hn h
   · omega
 have hsz:=hc.kept.size
 have hsz0:=hs.kept.size
 have hsz':w.heap.size≤w'.heap.size:=hsz
 refine ⟨K',⟨⟨hc.val,fun b y hy=>?_,fun b i hk=>?_,fun b b' i i' B o n o' n' hk hk' hl hl'=>?_⟩,⟨hc.kept.os.trans hs.kept.os,hc.kept.tape.trans hs.kept.tape,hc.kept.output.trans hs.kept.output,by omega,fun B hB hn=>?_,fun hm=>Nat.le_trans (hs.kept.drawn hm) (hc.kept.drawn hm)⟩,fun b i B o n hk hl=>?_,fun b hb1 hb2 y hy hcl=>?_,fun B hB hn o=>?_,fun B o v h=>hq B o v (hs.grow B o v h)⟩,?_,?_⟩
 · rcases hH1 b y hy with ⟨h1,h2,x,hx,rfl⟩ | h
   · exact (hs.blk b x hx).after hmaps (k2 b h1 h2) (fun B o n k hk=>hheap b _ B o n h1 hk rfl) fun B o n k hk=>hqq b _ B o n h1 hk rfl
   · exact (g1.blk b y h).heap (fun i h=>k3 b i h) (fun c i h _=>k3 c i h) (fun _ _ _ _ _=>rfl) (fun _ _ _ h=>h) fun _ _ _ _ _ _=>rfl
 · rw [hget_cat,hold]
   rcases k4 b i hk with ⟨h1,_⟩ | ⟨h1,_,h2,_⟩
   · cases hh:hget Hn b with
     | none=>exact absurd hh h1
     | some y=>
       cases hx:(if b∈bs then none else (hget H b).map (killB tk)) with
       | none=>exact ⟨y,rfl⟩
       | some z=>exact ⟨z,rfl⟩
   · obtain ⟨x,hx⟩:=hs.dom b i h2
     rw [if_neg h1,hx]; exact ⟨killB tk x,rfl⟩
 ·
   have mix:∀ b b' i i' o n o' n',mapK (ren1 m2) Kc' Hn b=some i→b'∉bs→K b'=some i'→i.loc=some (B,o,n)→i'.loc=some (B,o',n')→False:=fun b b' i i' o n o' n' h1 h2 h3 h4 h5=>by
     obtain ⟨c,_,hc1,_⟩:=mapK_some h1
     rcases hc.low c i B o n hc1 h4 with h | h
     · exact hout b' i' B o' n' h2 h3 h5 h
     · have:=hlt b' i' B o' n' h3 h5
       have h:w.heap.size≤B:=h
       omega
   rcases k4 b i hk with ⟨_,h1⟩ | ⟨h1,_,h2,_⟩<;>rcases k4 b' i' hk' with ⟨_,h1'⟩ | ⟨h1',_,h2',_⟩
   · exact g1.inj b b' i i' B o n o' n' h1 h1' hl hl'
   · exact (mix b b' i i' o n o' n' h1 h1' h2' hl hl').elim
   · exact (mix b' b i' i o' n' o n h1' h1 h2 hl' hl).elim
   · exact hs.inj b b' i i' B o n o' n' h2 h2' hl hl'
 · have h1:w'.heap[B]?=w.heap[B]?:=hc.kept.block B (show B < w.heap.size by omega) (hin0 B hB hn)
   rw [h1]; exact hs.kept.block B hB hn
 · rcases k4 b i hk with ⟨_,h1⟩ | ⟨_,_,h2,_⟩
   · obtain ⟨c,_,hc1,_⟩:=mapK_some h1
     rcases hc.low c i B o n hc1 hl with h | h
     · obtain ⟨b',j,o,n,_,hk,hl⟩:=hcin B h
       exact hs.low _ _ _ _ _ hk hl
     · have h:w.heap.size≤B:=h
       exact .inr (by omega)
   · exact hs.low b i B o n h2 hl
 · rcases hH1 b y hy with ⟨h1,h2,x,hx,rfl⟩ | h
   · rw [k2 b h1 h2]
     exact hs.clean b hb1 hb2 x hx (by cases x<;>simp_all [killB,isClean])
   · obtain ⟨c,x,hm,hx,rfl⟩:=(hHn b y).1 h
     rcases m2of c b hm with h3 | h3
     · obtain ⟨p0,p1,p2,p3⟩:=par b c h3
       have hclx:isClean x=true:=by
         cases x with
         | box=>rfl
         | itr=>rfl
         | mapB=>rfl
         | row nz esz xs p d=>simp only [renB,isClean,markBack,mem_ren1 hm2d p3] at hcl ⊢; simp at hcl ⊢; exact hcl.1
       have h4:Kc' c=Kc c:=hc.clean c p1 p2 x hx hclx
       obtain ⟨j,hj,hkind⟩:=(hc.blk c x hx).k_kind
       have hkcc:Kc c=some j:=by rw [←h4]; exact hj
       have hkb:K b=some j:=by
         rw [hKc] at hkcc
         obtain ⟨b',hb',hk',_⟩:=mapK_some hkcc
         have:=ran_inj hm1r (ren1_mem hb') h3
         subst this; exact hk'
       obtain ⟨z,hz⟩:=hs.dom b j hkb
       have hclz:isClean z=true:=by
         cases z with
         | box=>rfl
         | itr=>rfl
         | mapB=>rfl
         | row nz esz xs p d=>
           cases x with
           | box cs fr=>
             obtain ⟨i',h5,h6⟩:=(hs.blk b _ hz).k_kind
             rw [hkb] at h5; injection h5 with h5; subst h5
             have:=h6.1 (hkind.2 (fun _ _ _ _ _ h=>by cases h))
             exact absurd rfl (this _ _ _ _ _)
           | itr s pos=>
             obtain ⟨i',h5,h6⟩:=(hs.blk b _ hz).k_kind
             rw [hkb] at h5; injection h5 with h5; subst h5
             have:=h6.1 (hkind.2 (fun _ _ _ _ _ h=>by cases h))
             exact absurd rfl (this _ _ _ _ _)
           | mapB cs fr=>
             obtain ⟨i',h5,h6⟩:=(hs.blk b _ hz).k_kind
             rw [hkb] at h5; injection h5 with h5; subst h5
             have:=h6.1 (hkind.2 (fun _ _ _ _ _ h=>by cases h))
             exact absurd rfl (this _ _ _ _ _)
           | row nz' esz' xs' p' d'=>
             simp only [renB,isClean,markBack,mem_ren1 hm2d p3,wasDirty,hz] at hcl ⊢
             simp at hcl ⊢; exact hcl.2
       have h7:=hs.clean b hb1 hb2 z hz hclz
       rw [←h7,hkb,k1 b (by rw [h]; simp),mapK_eq (fun a b c h h'=>ran_inj hm2r (ren1_mem h) (ren1_mem h')) (mem_ren1 hm2d p3) (by rw [hj]; simp) (by rw [h]; simp),hj]
     · have:=hsmall b h3.1; omega
 · have h1:Qc B o=Q B o:=hc.qk B (show B < w.heap.size by omega) (hin0 B hB hn) o
   rw [h1]; exact hs.qk B hB hn o
 · exact he.mapped hmaps fun t=>by rw [get_killE,killD_eq]
 · rw [renD_eq]; exact (hr.map g2).mono k3 fun _ _ _ h=>h
end
end Gs
namespace Gs
open Go
variable [GlobTab]
section
variable {P:Program} {w0:World0} {w w':World} {K0 K K':Km} {Q Q':Pm} {H H':Heap} {n:Nat} {e e':Env} {a:Act} {o:Oper}
def OpWp (P:Program)(w0:World0)(K0 K:Km)(Q:Pm)(w:World)(n:Nat)(o:Oper)(a:Act)(d:D)(e:Env)(H:Heap):Prop:=
 ∀ (next:Act→World→Prop) (Qx:Exit→Act→World→Prop),(∀ v K' Q' w',Sim w0 K0 K' Q' H w'→RelE K' Q' n e a.tmps→Rel K' Q' d v→Le Q Q'→next (a.put o.dst v) w')→o.wp P a w next Qx
theorem OpOk.wp {d:D}(h:OpOk P w0 K0 K Q w n o a d e H):OpWp P w0 K0 K Q w n o a d e H:=fun next Qx hn=>by
 obtain ⟨K',Q',w',v,h1 | ⟨h1,h1'⟩,h2,h3,h4,h5⟩:=h
 · unfold Oper.wp; rw [h1,Oper.upon_value]; exact hn v K' Q' w' h2 h3 h4 h5
 · unfold Oper.wp; rw [h1,Oper.upon_skip,←h1']; exact hn v K' Q' w' h2 h3 h4 h5
theorem Rel.fn_inv {g:Nat}{caps:List D}{v:Value}(h:Rel K Q (.fn g caps) v):∃ vs,v = .func (.func g) #[] vs.toArray∧RelL K Q caps vs:=by
 cases h with | fn h=>exact ⟨_,rfl,h⟩
theorem op_call {O:Ora}{f:Operand}{args:Array Operand}{ats:Array TypeId}{f':Opd}{args':List Opd}{bs tids:List Nat}{d:D}(ho:o.op = .call ⟨.value f,args,ats⟩)(h1:okX n f f'=true)(h2:okXs n args.toList args'=true)(hlen:bs.length < 100000)
   (hO:∀ g as Hc r Ho,O.call g as Hc=some (r,Ho)→Gives P g as Hc r Ho) (h:callOp O (rho e f') (rhos e args') bs tids e H=some (d,e',H')) (hs:Sim w0 K0 K Q H w) (he:RelE K Q n e a.tmps):OpWp P w0 K0 K Q w n o a d e' H':=by
 have rf:=okX_rel he h1
 have ra:=okXs_rel he h2
 unfold callOp at h
 split at h<;>try (cases h; done)
 rename_i g caps hf
 rw [hf] at rf
 obtain ⟨cvs,hv,rc⟩:=rf.fn_inv
 split at h<;>try (cases h; done)
 rename_i hb
 simp only [Bool.and_eq_true,distinct_iff,noMem_iff,smallL_iff] at hb
 obtain ⟨⟨⟨⟨b1,b2⟩,b3⟩,b4⟩,b5⟩:=hb
 split at h<;>try (cases h; done)
 rename_i r Ho hcall
 injection h with h; injection h with e1 h; injection h with e2 e3; subst e1; subst e2; subst e3
 obtain ⟨⟨fn,g1,g2,g3⟩,hg⟩:=hO _ _ _ _ _ hcall
 have hm1d:((names bs parId).map (·.1)).Nodup:=by rw [names_dom]; exact b1
 obtain ⟨c1,c2⟩:=hs.toCore.pick (names bs parId) (fun _ _=>false) hm1d (names_nodup _ _)
 have hids:∀ b∈idsOf (pickH (names bs parId) (fun _ _=>false) H (names bs parId)),500000≤b∧b < 600000:=fun b hb=>by
   rw [mem_idsOf] at hb
   cases hx:hget (pickH (names bs parId) (fun _ _=>false) H (names bs parId)) b with
   | none=>exact absurd hx hb
   | some y=>
     obtain ⟨c,x,hm,_⟩:=(hget_pick _ _ H _ (names_nodup _ _) b y).1 hx
     have:=names_ran hm
     simp only [parId] at this
     omega
 have hc:=hg _ Q w _ hids he.1.2 c1 (by rw [renL_eq]; exact (ra.app rc).map c2)
 intro next Qx hn
 unfold Oper.wp
 have hrun:(execOp a.eval o).run P w = .ok (.enter g (args.toList.map a.eval ++ cvs).toArray) w:=by
   have harr:(#[]:Array Value) ++ args.map a.eval ++ cvs.toArray=(args.toList.map a.eval ++ cvs).toArray:=by
     apply Array.ext'; simp
   simp only [execOp,ho,resolve,hv,Deferred.ofValue,Sem.run_bind,Sem.run_pure,Result.andThen_ok,invoke,callFunc,Go.run_program,g1,g3,g2,Bool.false_eq_true,if_false]
   rw [harr]
 rw [hrun,Oper.upon_enter]
 refine hc.mono fun en w' hen=>?_
 obtain ⟨v,rfl,Kc',Qc,hcs,hq,hr⟩:=hen
 simp only
 obtain ⟨K',k1,k2,k3⟩:=call_back (tids:=tids) (r:=r) (v:=v) b1 b2 (fun i hi=>by
     have:=b3 i hi
     rw [mem_idsOf] at this
     simpa using this) b4 b5 hlen hs he rfl hcs hq hr
 simp only [joinM_eq] at *
 exact hn v K' Qc w' k1 k2 k3 hq
end
end Gs
namespace Gs
open Go
variable [GlobTab]
section
variable {P:Program} {w0:World0} {w:World} {K0 K:Km} {Q:Pm} {H:Heap} {n:Nat} {e:Env} {a:Act} {o:Oper}
theorem op_rng {t:TypeId}{x:Operand}{x':Opd}{b:Nat}{s:ByteArray}(ho:o.op = .range t x)(ht:P.underlying t=some .string)(h1:okX n x x'=true)(hx:rho e x' = .str s)(hb:noMem (idsOf H) [b]=true)(hlt:smallL [b]=true)
   (hs:Sim w0 K0 K Q H w) (he:RelE K Q n e a.tmps):OpOk P w0 K0 K Q w n o a (.ptr b 0) e (hset H b (.itr s 0)):=by
 have hb':=noMem_one hb
 have hn:=hs.toCore.absent hb'
 have hrel:=okX_rel he h1
 rw [hx] at hrel
 have hkk:∀ c i,K c=some i→updK K b ⟨some (w.heap.size,0,0),none⟩ c=some i:=fun c i h=>by
   by_cases e:c=b
   · subst e; rw [hn] at h; cases h
   · rw [updK_ne _ _ e]; exact h
 have hsim:Sim w0 K0 (updK K b ⟨some (w.heap.size,0,0),none⟩) Q (hset H b (.itr s 0)) (w.alloc (.stringIter s 0)):=by
   refine hs.add hb' (hs.kept.alloc _) (fun _ _ _ h=>h) (fun _ _ _ _ _ _ _ _=>rfl) (fun B o v h=>?_) (fun c j B o n hk hl=>heap_alloc_lt (hs.toCore.lt hk hl)) (fun B o n c j o' n' hi hk hl=>?_) (fun B o n hi=>?_) (fun _ _ _=>rfl) ⟨w.heap.size,updK_same _ _ _,heap_alloc_new,fun o=>hs.toCore.qnew o⟩ (.inl (smallL_one hlt))
   · exact (hs.val B o v h).congr (heap_alloc_lt (hs.toCore.qlt h))
   · injection hi with hi; injection hi with e _
     have:=hs.toCore.lt hk hl
     omega
   · injection hi with hi; injection hi with e _
     exact .inr (by have:=hs.kept.size; omega)
 have hv:a.eval x = .string s:=by
   generalize a.eval x=v at hrel
   cases hrel; rfl
 refine ⟨_,Q,_,_,.inl ?_,hsim,he.mono hkk (fun _ _ _ h=>h),.ptr 0 (updK_same _ _ _),fun _ _ _ h=>h⟩
 simp only [execOp,ho,hv,Sem.run_bind,run_range_string w t s ht,Result.andThen_ok,Sem.run_pure]
 rfl
theorem op_nxt {x:Operand}{x':Opd}{b:Nat}{s:ByteArray}{pos:Nat}(ho:o.op = .next x true)(h1:okX n x x'=true)(hx:rho e x' = .ptr b 0)(hb:hget H b=some (.itr s pos))
   (hs:Sim w0 K0 K Q H w) (he:RelE K Q n e a.tmps):(pos < s.size→OpOk P w0 K0 K Q w n o a (.tup [.bool true,.int .i64 pos,.int .i32 (Utf8.decode s pos).1]) e (hset H b (.itr s (pos + (Utf8.decode s pos).2))))∧
     (¬ pos < s.size→OpOk P w0 K0 K Q w n o a (.tup [.bool false]) e H):=by
 have hrel:=okX_rel he h1
 rw [hx] at hrel
 obtain ⟨B,hk,hh,hq⟩:=hs.blk b _ hb
 obtain ⟨B',tot,hv,hk'⟩:=hrel.ptr_inv
 rw [hk] at hk'; injection hk' with hk'; injection hk' with hk'; injection hk' with hk'; injection hk' with e1 _; subst e1
 refine ⟨fun hp=>?_,fun hp=>?_⟩
 · let w':World:={ w with heap:=w.heap.setIfInBounds B (.stringIter s (pos + (Utf8.decode s pos).2)) }
   have hlt:B < w.heap.size:=(Array.getElem?_eq_some_iff.1 hh).1
   have hwB:w'.heap[B]?=some (.stringIter s (pos + (Utf8.decode s pos).2)):=by simp [w',hlt]
   have hwo:∀ k,k≠B→w'.heap[k]?=w.heap[k]?:=fun k hk=>by simp [w',Array.getElem?_setIfInBounds,Ne.symm hk]
   refine ⟨K,Q,w',_,.inl ?_,hs.write hb hk hwo (by simp [w']) rfl rfl rfl (fun o v h=>by rw [hq] at h; cases h) ⟨B,hk,hwB,hq⟩ (fun _=>rfl),he,.tup (.cons (.bool _) (.cons (.int _ _) (.cons (.int _ _) .nil))),fun _ _ _ h=>h⟩
   simp only [execOp,ho,hv,Instr.next,getObj,setObj,Sem.run_bind,Sem.run,hh,Result.andThen,hp,if_true,Sem.run_pure]
   rfl
 · refine ⟨K,Q,w,_,.inl ?_,hs,he,.tup (.cons (.bool _) .nil),fun _ _ _ h=>h⟩
   simp only [execOp,ho,hv,Instr.next,getObj,setObj,Sem.run_bind,Sem.run,hh,Result.andThen,hp,if_false,Sem.run_pure]
end
end Gs
namespace Gs
open Go
variable [GlobTab]
section
variable {P:Program} {w0:World0} {w:World} {K0 K:Km} {Q:Pm} {H:Heap} {n:Nat} {e:Env} {a:Act} {o:Oper}
theorem allEsz_shaped {esz:Nat} : ∀ {l:List D},allEsz esz l=true→Shaped esz l
 | l,h=>fun d hd=>allEsz_mem h d hd
theorem op_bso {t el:TypeId}{m esz b:Nat}{ps:Array (Nat×Operand)}{ps':List Opd}{z:Value}(ho:o.op = .buildSlice t m ps)(ht:P.underlying t=some (.slice el))(hsz:sizeT P el=some esz)(hz:zeroT P el=some z)(hzc:z.cells.size=esz)(hz1:oneCs z.cells.toList=true)
   (hm:ps'.length=m) (hbig:m * esz≤2 ^ 24) (hok:okSeq n 0 ps.toList ps'=true) (hcl:closedL (rhos e ps')=true) (hez:allEsz esz (rhos e ps')=true) (hso:solidAll (rhos e ps')=true) (hb:noMem (idsOf H) [b]=true)
   (hs:Sim w0 K0 K Q H w) (he:RelE K Q n e a.tmps):OpOk P w0 K0 K Q w n o a (.ow b) e (hset H b (.row false esz (rhos e ps') 0 true)):=by
 let cells0:Array Value:=(Array.range (m * esz)).map fun i=>(if m * esz=0 then (#[]:Array Value) else z.cells)[i % (if m * esz=0 then (#[]:Array Value) else z.cells).size]!
 have hc0:cells0.size=m * esz:=by simp [cells0]
 have hone0:∀ u∈cells0,u.oneCell'=true:=fun u hu=>by
   simp only [cells0,Array.mem_map,Array.mem_range] at hu
   obtain ⟨i,hi,rfl⟩:=hu
   have hne:m * esz≠0:=by omega
   simp only [hne,if_false]
   have hpos:0 < z.cells.size:=by rw [hzc]; exact Nat.pos_of_ne_zero fun h=>hne (by rw [h]; rfl)
   have hlt:i % z.cells.size < z.cells.size:=Nat.mod_lt _ hpos
   rw [getElem!_pos z.cells _ hlt]
   exact oneCs_mem hz1 _ (by simp)
 have hpl:=okSeq_length hok
 obtain ⟨cells',g1,g2,g3,g4,g5⟩:=fill_seq (tot:=m * esz) he (cells:=cells0) hok hez hso hc0 (by rw [hpl,hm]; simp) hone0
 have hlen:(rhos e ps').length=m:=by rw [rhos_length,hm]
 obtain ⟨K',Q',hs',hq,hk,hkb⟩:=hs.newRow (b:=b) (nz:=false) (esz:=esz) (p:=0) (xs:=rhos e ps') (vs:=cells') (t:=el) (noMem_one hb) g3 hcl (allEsz_shaped hez) (Nat.zero_le _) (fun h=>by cases h) (by rw [hlen,g2]; exact Nat.le_refl _) (fun i d hd j c hc=>by
   obtain ⟨v,hv,hr⟩:=g5 i d hd j c hc
   refine ⟨v,?_,hr,g3 v (Array.mem_of_getElem? hv)⟩
   rw [←hv,Nat.zero_add,Nat.zero_add])
 refine ⟨K',Q',_,.slice (some ⟨w.heap.size,0,none⟩) m m,.inl ?_,hs',he.mono hk hq,?_,hq⟩
 · have hpm:(ps.map fun (i,x)=>(i,a.eval x)).toList=ps.toList.map fun (i,x)=>(i,a.eval x):=by simp
   have hng:¬ m * esz > 2 ^ 24:=by omega
   simp only [execOp,ho,Instr.buildSlice,Sem.run_bind,Go.run_underlying ht,Result.andThen_ok,run_sizeT hsz,hng,if_false,Sem.run_pure]
   have g1':=g1
   simp only [cells0] at g1'
   by_cases h0:m * esz=0
   · simp only [h0,if_true] at g1' ⊢
     simp only [Sem.run_bind,Sem.run_pure,Result.andThen_ok,hpm]
     rw [g1']
     simp [newRow]
   · simp only [h0,if_false] at g1' ⊢
     simp only [Sem.run_bind,Sem.run_pure,run_zeroT hz,Result.andThen_ok,hpm]
     rw [g1']
     simp [newRow]
 · refine .ow (hlen ▸ hkb) (Nat.le_refl _) (by rw [g2]; simp) (fun _=>rfl)
theorem zeros_get {z:Array Value}{esz m:Nat}(hz:z.size=esz)(i j:Nat)(hi:i < m)(hj:j < esz):(Builtin.zeroCells z m)[i * esz + j]?=z[j]?:=by
 have hmul:(i + 1) * esz≤m * esz:=Nat.mul_le_mul_right _ hi
 rw [Nat.add_mul] at hmul
 simp only [Builtin.zeroCells]
 rw [Array.getElem?_map,Array.getElem?_range,if_pos (by rw [hz]; omega)]
 have:(i * esz + j) % z.size=j:=by rw [hz,Nat.mul_comm,Nat.mul_add_mod,Nat.mod_eq_of_lt hj]
 simp only [Option.map_some,this]
 rw [getElem!_pos z j (by omega),Array.getElem?_eq_getElem (by omega)]
theorem zeros_elems {z:Value}{d:D}{esz m:Nat}(hz:z.cells.size=esz)(hz1:oneCs z.cells.toList=true)(hr:RelL K Q (cellsOf d) z.cells.toList)(he:(cellsOf d).length=esz):Elems K Q (Builtin.zeroCells z.cells m) 0 esz (List.replicate m d):=fun i x hx j c hc=>by
 have hi:i < m:=by simpa using (List.getElem?_eq_some_iff.1 hx).1
 rw [List.getElem?_replicate,if_pos hi] at hx
 injection hx with hx; subst hx
 obtain ⟨v,hv,hrv⟩:=hr.get hc
 have hj:j < esz:=by rw [←he]; exact (List.getElem?_eq_some_iff.1 hc).1
 refine ⟨v,?_,hrv,oneCs_mem hz1 v (List.mem_of_getElem? hv)⟩
 rw [Nat.zero_add,zeros_get hz i j hi hj]
 simpa using hv
theorem op_mks {t el:TypeId}{x y:Operand}{x':Opd}{esz bytes b:Nat}{i:TypeInfo}{z:Value}{d:D}{k:IntKind}{c:Int}(ho:o.op = .makeSlice t x y)(ht:P.underlying t=some (.slice el))(hi:P.info? el=some i)(hz:i.zero=some z)(hsz:i.size=esz)(hby:i.bytes=bytes)(hpos:0 < bytes)(hzc:z.cells.size=esz)(hz1:oneCs z.cells.toList=true)
   (hx:okX n x x'=true) (hy:okX n y x'=true) (hc:rho e x' = .int k c) (hd:okC d z=true) (h0:0≤c) (hfit:fits c.toNat bytes=true) (hb:noMem (idsOf H) [b]=true) (hcl:closed d=true) (hlen:(cellsOf d).length=esz) (hsol:solidL (cellsOf d)=true)
   (hs:Sim w0 K0 K Q H w) (he:RelE K Q n e a.tmps):OpOk P w0 K0 K Q w n o a (.ow b) e (hset H b (.row false esz (List.replicate c.toNat d) 0 true)):=by
 have hxv:a.eval x = .int k c:=(hc ▸ okX_rel he hx).int_inv
 have hyv:a.eval y = .int k c:=(hc ▸ okX_rel he hy).int_inv
 have hrd:RelL K Q (cellsOf d) z.cells.toList:=((okC_rel d z hd).cells hsol).1
 have hsh:Shaped esz (List.replicate c.toNat d):=fun x hx=>by rw [List.eq_of_mem_replicate hx]; exact hlen
 obtain ⟨K',Q',hs',hq,hk,hkb⟩:=hs.newRow (b:=b) (nz:=false) (esz:=esz) (p:=0) (xs:=List.replicate c.toNat d) (vs:=Builtin.zeroCells z.cells c.toNat) (t:=el) (noMem_one hb) (zeroCells_one hz1 _) (closedL_iff.2 fun x hx=>by rw [List.eq_of_mem_replicate hx]; exact hcl) hsh (Nat.zero_le _) (fun h=>by cases h) (by simp [size_zeroCells,hzc]) (zeros_elems hzc hz1 hrd hlen)
 refine ⟨K',Q',_,.slice (some ⟨w.heap.size,0,none⟩) c.toNat c.toNat,.inl ?_,hs',he.mono hk hq,?_,hq⟩
 · have hf:c.toNat * bytes≤140737488355328:=by simpa [fits] using hfit
   have hc63:c≤140737488355328:=by
     have:c.toNat * 1≤c.toNat * bytes:=Nat.mul_le_mul_left _ hpos
     omega
   have wl:IntKind.i64.wrap c=c:=by rw [IntKind.wrap_i64]; omega
   have n1:¬ c < 0:=by omega
   have hcb:(bytes:Int) * c=((c.toNat * bytes:Nat):Int):=by
     rw [Int.natCast_mul,Int.toNat_of_nonneg h0,Int.mul_comm]
   have n2:¬ (281474976710656 < (bytes:Int) * c):=by rw [hcb]; omega
   have n5:¬ (140737488355328 < c.toNat * bytes):=by omega
   simp only [execOp,ho,hxv,hyv]
   by_cases hn:c.toNat * esz=0
   · have:Builtin.zeroCells z.cells c.toNat = #[]:=Array.eq_empty_of_size_eq_zero (by rw [size_zeroCells,hzc]; exact hn)
     rw [this]
     simp [Instr.makeSlice,run_underlying ht,asInt,asIntOf,typeInfo,hi,Go.sizeOf,wl,n1,hby,n2,n5,hsz,hn,newRow,askRoom,roomBytes]
     exact congrArg (fun u=>w.alloc (Obj.cells u el)) (Array.eq_empty_of_size_eq_zero (by simp))
   · simp [Instr.makeSlice,run_underlying ht,asInt,asIntOf,typeInfo,hi,Go.sizeOf,zeroValue,hz,wl,n1,hby,n2,n5,hsz,hn,newRow,askRoom,roomBytes,Builtin.zeroCells,hzc]
 · exact .ow (by simpa using hkb) (Nat.le_refl _) (by simp [size_zeroCells,hzc]) (fun _=>rfl)
theorem op_clr {t el:TypeId}{x:Operand}{x':Opd}{z:Value}{d:D}{esz b off l p:Nat}{nz dy:Bool}{xs:List D}(ho:o.op = .call ⟨.builtin .clear,#[x],#[t]⟩)(ht:P.underlying t=some (.slice el))(hz:zeroT P el=some z)(hz1:oneCs z.cells.toList=true)
   (hx:okX n x x'=true) (hw:rho e x' = .win b off l) (hd:okC d z=true) (hcl:closed d=true) (hlen:(cellsOf d).length=esz) (hsol:solidL (cellsOf d)=true) (hb:hget H b=some (.row nz esz xs p dy)) (hp:p≤off) (hl:off + l≤xs.length)
   (hs:Sim w0 K0 K Q H w) (he:RelE K Q n e a.tmps):OpOk P w0 K0 K Q w n o a (.tup []) e (hset H b (.row nz esz (xs.take off ++ List.replicate l d ++ xs.drop (off + l)) p dy)):=by
 have rx:=okX_rel he hx
 rw [hw] at rx
 have hzc:z.cells.size=esz:=by
   have:=((okC_rel (K:=K) (Q:=Q) d z hd).cells hsol).1.length
   rw [hlen] at this; simpa using this.symm
 have hrd:RelL K Q (cellsOf d) z.cells.toList:=((okC_rel d z hd).cells hsol).1
 obtain ⟨r1,r2,r3,r4⟩:=hs.blk b _ hb
 by_cases h0:l=0
 · subst h0
   have hxs:xs.take off ++ List.replicate 0 d ++ xs.drop (off + 0)=xs:=by simp
   rw [hxs]
   have hrun:∀ v,a.eval x=v→(∃ q c,v = .slice q 0 c)→(execOp a.eval o).run P w = .ok (.value (.tuple #[])) w:=fun v hv ⟨q,c,hq⟩=>by
     rw [execOp_builtin ho]
     simp only [builtin,List.map_toArray,List.map_cons,List.map_nil,hv,hq,Builtin.clear_]
     cases q<;>simp [run_underlying ht]
   have hsame:hset H b (.row nz esz xs p dy)=hset H b (.row nz esz xs p dy):=rfl
   have hsim:Sim w0 K0 K Q (hset H b (.row nz esz xs p dy)) w:=hs.congr fun c=>by
     rw [hget_hset]
     by_cases e:b=c
     · subst e; rw [if_pos rfl,hb]
     · rw [if_neg e]
   refine ⟨K,Q,w,.tuple #[],.inl (hrun _ rfl ?_),hsim,he,.tup .nil,fun _ _ _ h=>h⟩
   generalize a.eval x=v at rx
   cases rx with
   | winNil h=>exact ⟨_,_,rfl⟩
   | win h hl' ho' ht' ha=>exact ⟨_,_,rfl⟩
 · rcases r4 with ⟨g1,gx⟩ | ⟨B,base,vs,ty,g1,g2,g3,g4,g5,g6,g7⟩
   · subst gx; simp at hl; omega
   · have hv : ∃ c, a.eval x = .slice (some ⟨B, base + off * esz, none⟩) l c := by
       generalize a.eval x=v at rx
       cases rx with
       | winNil h=>omega
       | win h hl' ho' ht' ha=>
         rw [g1] at h; injection h with h; injection h with e1 e2; injection e1 with e1; injection e1 with e1 e3; injection e3 with e3 _; injection e2 with e2; injection e2 with e2 e4; injection e4 with e4 e5
         subst e1; subst e3; subst e4
         exact ⟨_,by rw [ha (by omega)]⟩
     obtain ⟨c,hv⟩:=hv
     let new:Array Value:=(vs.toList.take (base + off * esz) ++ (Builtin.zeroCells z.cells l).toList ++ vs.toList.drop (base + off * esz + l * esz)).toArray
     have hzl:(Builtin.zeroCells z.cells l).toList.length=l * esz:=by simp [size_zeroCells,hzc]
     have hmul:(off + l) * esz≤xs.length * esz:=Nat.mul_le_mul_right _ hl
     rw [Nat.add_mul] at hmul
     have hpm:p * esz≤off * esz:=Nat.mul_le_mul_right _ hp
     have hnew:new.size=vs.size:=by simp [new,size_zeroCells,hzc]; omega
     have hst:(storeCells ⟨B,base + off * esz,none⟩ (Builtin.zeroCells z.cells l).toList 0).run P w = .ok () (w.setRow B new):=by
       have:=run_storeCells_at P B (base + off * esz) ty (Builtin.zeroCells z.cells l).toList 0 vs w g3 (by rw [hzl]; omega) (fun u hu=>zeroCells_one hz1 l u (by simpa using hu))
       rw [this,Nat.add_zero,hzl]
     have hget:∀ j,new[j]?=if j < base + off * esz then vs[j]? else if j < base + off * esz + l * esz then (Builtin.zeroCells z.cells l)[j - (base + off * esz)]? else vs[j]?:=fun j=>by
       have:=seg_get vs.toList (Builtin.zeroCells z.cells l).toList (base + off * esz) (l * esz) j hzl (by simp; omega)
       simp only [new,List.getElem?_toArray]
       rw [this]
       simp
     refine ⟨K,Q,w.setRow B new,.tuple #[],.inl ?_,?_,he,.tup .nil,fun _ _ _ h=>h⟩
     · rw [execOp_builtin ho]
       have hl0:∃ l',l=l' + 1:=⟨l - 1,by omega⟩
       obtain ⟨l',rfl⟩:=hl0
       simp only [builtin,List.map_toArray,List.map_cons,List.map_nil,hv,Builtin.clear_]
       simp [run_underlying ht,run_zeroT hz,hst]
     · have hg:=setRow_heap w B vs new ty (0,0) g3
       refine hs.write hb g1 (fun k hk=>setRow_other w B k _ hk) (by simp) rfl rfl rfl (fun j v hj=>?_) ⟨?_,?_,?_,.inr ⟨B,base,new,ty,?_,?_,hg,?_,?_,g6,?_⟩⟩ (fun h=>by simpa [isClean] using h)
       · obtain ⟨k1,k2⟩:=(hs.val B j v hj).cell g3
         refine .inl ⟨?_,k2⟩
         have hj':j < base + p * esz:=by
           rcases Nat.lt_or_ge j (base + p * esz) with h | h
           · exact h
           · rw [g6 j h] at hj; cases hj
         rw [cell_of_heap hg,hget,if_pos (by omega),←cell_of_heap g3]; exact k1
       · exact closedL_app (closedL_app (closedL_take _ r1) (closedL_iff.2 fun x hx=>by rw [List.eq_of_mem_replicate hx]; exact hcl)) (closedL_drop _ r1)
       · intro x hx
         simp only [List.mem_append] at hx
         rcases hx with (hx | hx) | hx
         · exact r2 x (List.mem_of_mem_take hx)
         · rw [List.eq_of_mem_replicate hx]; exact hlen
         · exact r2 x (List.mem_of_mem_drop hx)
       · simp; omega
       · rw [hnew,g1]; congr 3; simp; omega
       · intro hz hh
         have:=congrArg List.length hh
         simp at this; omega
       · rw [hnew]; simp; rw [show min off xs.length + (l + (xs.length - (off + l)))=xs.length by omega]; exact g4
       · intro i x hx j c hc
         rw [seg_get xs (List.replicate l d) off l i (by simp) hl] at hx
         by_cases c1:i < off
         · rw [if_pos c1] at hx
           obtain ⟨v,hv1,hv2,hv3⟩:=g5 i x hx j c hc
           have hj:j < esz:=by rw [←r2 x (List.mem_of_getElem? hx)]; exact (List.getElem?_eq_some_iff.1 hc).1
           have hm2:(i + 1) * esz≤off * esz:=Nat.mul_le_mul_right _ c1
           rw [Nat.add_mul] at hm2
           exact ⟨v,by rw [hget,if_pos (by omega)]; exact hv1,hv2,hv3⟩
         · rw [if_neg c1] at hx
           by_cases c2:i < off + l
           · rw [if_pos c2] at hx
             rw [List.getElem?_replicate] at hx
             split at hx<;>try (cases hx; done)
             injection hx with hx; subst hx
             have hj:j < esz:=by rw [←hlen]; exact (List.getElem?_eq_some_iff.1 hc).1
             have hm2:(i - off + 1) * esz≤l * esz:=Nat.mul_le_mul_right _ (by omega)
             rw [Nat.add_mul] at hm2
             have e1:i * esz=off * esz + (i - off) * esz:=by rw [←Nat.add_mul]; congr 1; omega
             obtain ⟨v,hv1,hv2,hv3⟩:=zeros_elems (K:=K) (Q:=Q) (m:=l) hzc hz1 hrd hlen (i - off) d (by rw [List.getElem?_replicate,if_pos (by omega)]) j c hc
             refine ⟨v,?_,hv2,hv3⟩
             rw [hget,if_neg (by omega),if_pos (by omega),←hv1]; congr 1; omega
           · rw [if_neg c2] at hx
             obtain ⟨v,hv1,hv2,hv3⟩:=g5 i x hx j c hc
             have hm2:(off + l) * esz≤i * esz:=Nat.mul_le_mul_right _ (by omega)
             rw [Nat.add_mul] at hm2
             exact ⟨v,by rw [hget,if_neg (by omega),if_neg (by omega)]; exact hv1,hv2,hv3⟩
       · intro j hj1 hj2
         rw [hget,if_pos (by omega)]; exact g7 j hj1 hj2
end
end Gs
namespace Gs
open Go
variable [GlobTab]
section
variable {P:Program} {w0:World0} {w:World} {K0 K:Km} {Q:Pm} {H:Heap} {n:Nat} {e:Env} {a:Act} {o:Oper}
theorem op_capz {t el:TypeId}{x:Operand}{x':Opd}{esz:Nat}(ho:o.op = .call ⟨.builtin .cap,#[x],#[t]⟩)(ht:P.underlying t=some (.slice el))(hx:okX n x x'=true)(hd:rho e x' = .fz true esz [])
   (hs:Sim w0 K0 K Q H w) (he:RelE K Q n e a.tmps):OpOk P w0 K0 K Q w n o a (.int .i64 0) e H:=by
 have rx:=okX_rel he hx
 rw [hd] at rx
 have hv:a.eval x = .slice none 0 0:=by
   generalize a.eval x=v at rx
   cases rx with
   | fzNil=>rfl
   | fz h=>exact absurd rfl h
 refine OpOk.val hs he (v:=.int .i64 0) ?_ (.int _ _)
 rw [execOp_builtin ho]
 simp only [builtin,List.map_toArray,List.map_cons,List.map_nil,hv,Builtin.cap_]
 simp [run_underlying ht,goInt]
theorem op_apz {t ti el:TypeId}{x y:Operand}{x' y':Opd}{esz bytes b sz:Nat}{i:TypeInfo}{z:Value}{d:D}{k ki:IntKind}{c:Int}(ho:o.op = .call ⟨.builtin .append,#[x,y],#[t,ti]⟩)(ht:P.underlying t=some (.slice el))(hti:P.underlying ti=some (.int ki))(hi:P.info? el=some i)(hz:i.zero=some z)(hsz:i.size=esz)(hby:i.bytes=bytes)(hpos:0 < bytes)(hzc:z.cells.size=esz)(hz1:oneCs z.cells.toList=true)
   (hx:okX n x x'=true) (hy:okX n y y'=true) (hn:rho e x' = .fz true sz []) (hc:rho e y' = .int k c) (hd:okC d z=true) (h0:0 < c) (hfit:fits c.toNat bytes=true) (hb:noMem (idsOf H) [b]=true) (hcl:closed d=true) (hlen:(cellsOf d).length=esz) (hsol:solidL (cellsOf d)=true)
   (hs:Sim w0 K0 K Q H w) (he:RelE K Q n e a.tmps):OpOk P w0 K0 K Q w n o a (.ow b) e (hset H b (.row true esz (List.replicate c.toNat d) 0 true)):=by
 have rx:=okX_rel he hx
 rw [hn] at rx
 have hxv:a.eval x = .slice none 0 0:=by
   generalize a.eval x=v at rx
   cases rx with
   | fzNil=>rfl
   | fz h=>exact absurd rfl h
 have hyv:a.eval y = .int k c:=(hc ▸ okX_rel he hy).int_inv
 have hrd:RelL K Q (cellsOf d) z.cells.toList:=((okC_rel d z hd).cells hsol).1
 have hsh:Shaped esz (List.replicate c.toNat d):=fun x hx=>by rw [List.eq_of_mem_replicate hx]; exact hlen
 have hge:=grownCap_ge w c.toNat 0 el
 obtain ⟨K',Q',hs',hq,hk,hkb⟩:=(hs.drawn (w.drawn + 1)).newRow (b:=b) (nz:=true) (esz:=esz) (p:=0) (xs:=List.replicate c.toNat d) (vs:=Builtin.zeroCells z.cells c.toNat ++ Builtin.zeroCells z.cells (grownCap w c.toNat 0 el - c.toNat)) (t:=el) (noMem_one hb) (fun u hu=>by
     rcases Array.mem_append.1 hu with hu | hu
     · exact zeroCells_one hz1 _ u hu
     · exact zeroCells_one hz1 _ u hu) (closedL_iff.2 fun x hx=>by rw [List.eq_of_mem_replicate hx]; exact hcl) hsh (Nat.zero_le _) (fun _ hh=>by have:=congrArg List.length hh; simp at this; omega) (by simp [size_zeroCells,hzc]) (fun i' x hx j c' hc'=>by
     obtain ⟨v,hv,h⟩:=zeros_elems (m:=c.toNat) hzc hz1 hrd hlen i' x hx j c' hc'
     exact ⟨v,by rw [Array.getElem?_append_left (Array.getElem?_eq_some_iff.1 hv).1]; exact hv,h⟩)
 refine ⟨K',Q',_,.slice (some ⟨w.heap.size,0,none⟩) c.toNat (grownCap w c.toNat 0 el),.inl ?_,hs',he.mono hk hq,?_,hq⟩
 · have hf:c.toNat * bytes≤140737488355328:=by simpa [fits] using hfit
   have hc63:c≤140737488355328:=by
     have:c.toNat * 1≤c.toNat * bytes:=Nat.mul_le_mul_left _ hpos
     omega
   have wl:IntKind.i64.wrap c=c:=by rw [IntKind.wrap_i64]; omega
   have n1:¬ c < 0:=by omega
   have hcb:c * (bytes:Int)=((c.toNat * bytes:Nat):Int):=by
     rw [Int.natCast_mul,Int.toNat_of_nonneg (by omega)]
   have n2:¬ (281474976710656 < c * (bytes:Int)):=by rw [hcb]; omega
   have n0:¬ c.toNat=0:=by omega
   have n0':¬ c≤0:=by omega
   have h63:¬ (9223372036854775807 < ((c.toNat:Nat):Int)):=by omega
   have h63':¬ (9223372036854775807 < max c 0):=by omega
   have h48':¬ (281474976710656 < Builtin.nextslicecap c.toNat 0 * bytes):=by rw [nextslicecap_zero (by omega)]; omega
   have h48'':¬ (281474976710656 < Builtin.nextslicecap c.toNat 0 * i.bytes):=by rw [hby]; exact h48'
   have hfz:(Builtin.firstCells esz 0 (.slice none 0 0)).run P w.drew = .ok #[] w.drew:=rfl
   rw [execOp_builtin ho]
   simp only [builtin,List.map_toArray,List.map_cons,List.map_nil,hxv,hyv]
   by_cases hne:c.toNat * esz=0
   · have:Builtin.zeroCells z.cells c.toNat = #[]:=Array.eq_empty_of_size_eq_zero (by rw [size_zeroCells,hzc]; exact hne)
     rw [this]
     simp [Builtin.append_,run_underlying ht,run_underlying hti,asInt,asIntOf,Go.sizeOf,typeInfo,zeroValue,hi,hz,hsz,hby,wl,n1,n2,n0,n0',h63,h63',h48',h48'',hfz,hne,Question.forced,newRow,grownCap]
   · simp [Builtin.append_,run_underlying ht,run_underlying hti,asInt,asIntOf,Go.sizeOf,typeInfo,zeroValue,hi,hz,hsz,hby,wl,n1,n2,n0,n0',h63,h63',h48',h48'',hfz,hne,Question.forced,newRow,grownCap]
 · refine .ow (by simpa using hkb) hge ?_ (fun _=>rfl)
   simp [size_zeroCells,hzc]
   rw [←Nat.add_mul]; exact Nat.le_of_eq (by congr 1; omega)
end
end Gs
namespace Gs
open Go
variable [GlobTab]
section
variable {P:Program} {w0:World0} {w:World} {K0 K:Km} {Q:Pm} {H:Heap} {n:Nat} {e:Env} {a:Act} {o:Oper}
def keyKind:Nat→TypeDesc→Bool
 | 0,.int _=>true
 | 1,.bool=>true
 | 2,.string=>true
 | _,_=>false
def mapT (P:Program)(t:TypeId)(kd:Nat):Option TypeId:=match P.underlying t with
  | some (.map k el)=>(match P.underlying k with
    | some d=>bif keyKind kd d then some el else none
    | none=>none)
  | _=>none
theorem mapT_eq {t el:TypeId}{kd:Nat}(h:mapT P t kd=some el):∃ k d,P.underlying t=some (.map k el)∧P.underlying k=some d∧keyKind kd d=true:=by
 unfold mapT at h
 split at h<;>try (cases h; done)
 rename_i k el' ht
 split at h<;>try (cases h; done)
 rename_i d hd
 cases hk:keyKind kd d with
 | false=>rw [hk] at h; cases h
 | true=>rw [hk] at h; injection h with h; subst h; exact ⟨k,d,ht,hd,hk⟩
theorem checkKey_ok {k:TypeId}{d:TypeDesc}{kd:Nat}(hk:P.underlying k=some d)(hd:keyKind kd d=true)(b:Bool)(v:Value):(Instr.checkKey b 10000 k v).run P w = .ok () w:=by
 have hr:(underlying k).run P w = .ok d w:=run_underlying hk w
 unfold Instr.checkKey
 rw [Sem.run_bind,hr,Result.andThen_ok]
 unfold keyKind at hd
 split at hd<;>first | (cases hd; done) | simp
theorem kind_str {kd:Nat}{b:ByteArray}(h:kindOk kd (.str b)=true):kd=2:=by
 match kd,h with
 | 0,h=>cases h
 | 1,h=>cases h
 | 2,_=>rfl
 | n + 3,h=>cases h
theorem kind_int {kd:Nat}{q:IntKind}{b:Int}(h:kindOk kd (.int q b)=true):kd=0:=by
 match kd,h with
 | 0,_=>rfl
 | 1,h=>cases h
 | 2,h=>cases h
 | n + 3,h=>cases h
theorem kind_bool {kd:Nat}{b:Bool}(h:kindOk kd (.bool b)=true):kd=1:=by
 match kd,h with
 | 0,h=>cases h
 | 1,_=>rfl
 | 2,h=>cases h
 | n + 3,h=>cases h
theorem same_now {kd:Nat}{d:TypeDesc}{k k':D}{u v:Value}{r:Bool}(hd:keyKind kd d=true)(hk:kindOk kd k=true)(hu:Rel K Q k u)(hv:Rel K Q k' v)(h:keyEq k k'=some r):Instr.sameNow d u v=some r∧(r=true→Instr.sameBits 10000 v u=true):=by
 unfold keyEq at h
 split at h<;>try (cases h; done)
 · injection h with h; subst h
   rw [hu.str_inv,hv.str_inv]
   have:=kind_str hk
   subst this
   cases d<;>simp only [keyKind] at hd<;>try (cases hd; done)
   refine ⟨by simp only [Instr.sameNow,seq,beq_toListBytes],fun h=>?_⟩
   simp only [seq] at h
   simp only [Instr.sameBits,beq_toListBytes]
   rw [beq_iff_eq] at h ⊢; exact h.symm
 · split at h<;>try (cases h; done)
   rename_i hkk
   injection h with h; subst h
   have hkk:=kEq_eq hkk; subst hkk
   rw [hu.int_inv,hv.int_inv]
   have:=kind_int hk
   subst this
   cases d<;>simp only [keyKind] at hd<;>try (cases hd; done)
   refine ⟨by simp [Instr.sameNow,ibeq],fun h=>?_⟩
   have h:=of_decide_eq_true h
   simp [Instr.sameBits,h]
 · injection h with h; subst h
   rw [hu.bool_inv,hv.bool_inv]
   have:=kind_bool hk
   subst this
   cases d<;>simp only [keyKind] at hd<;>try (cases hd; done)
   refine ⟨by simp [Instr.sameNow],fun h=>?_⟩
   rw [beq_iff_eq] at h
   simp [Instr.sameBits,h]
abbrev flatL (es:List MapEntry):List Value:=es.flatMap fun e=>[e.key,e.val]
theorem find_spec {kd:Nat}{d:TypeDesc}{k:D}{u:Value}(hd:keyKind kd d=true)(hk:kindOk kd k=true)(hu:Rel K Q k u):∀ (es:List MapEntry) (i:Nat) (cs:List D) (res:Option D),RelL K Q cs (flatL es)→mfind k cs=some res→
   (res=none∧Instr.findNow d u es i=some none)∨∃ c j v,res=some c∧Instr.findNow d u es i=some (some (j,v))∧Rel K Q c v
 | [],i,cs,res,hr,h=>by
   cases hr
   simp only [mfind,Option.some.injEq] at h; subst h
   exact .inl ⟨rfl,rfl⟩
 | x :: es,i,cs,res,hr,h=>by
   have hr':RelL K Q cs (x.key :: x.val :: flatL es):=by simpa [flatL] using hr
   cases hr' with
   | cons h1 hr'=>cases hr' with
     | cons h2 hr'=>
       simp only [mfind] at h
       split at h<;>try (cases h; done)
       · rename_i heq
         injection h with h; subst h
         obtain ⟨g,_⟩:=same_now hd hk hu h1 heq
         exact .inr ⟨_,i,_,rfl,by simp only [Instr.findNow,g],h2⟩
       · rename_i heq
         obtain ⟨g,_⟩:=same_now hd hk hu h1 heq
         have ih:=find_spec hd hk hu es (i + 1) _ res hr' h
         simp only [Instr.findNow,g]
         exact ih
theorem put_spec {kd:Nat}{d:TypeDesc}{k v:D}{u x:Value}(hd:keyKind kd d=true)(hk:kindOk kd k=true)(hu:Rel K Q k u)(hx:Rel K Q v x):∀ (es:List MapEntry) (i:Nat) (cs cs':List D),RelL K Q cs (flatL es)→mput k v cs=some cs'→
   (Instr.findNow d u es i=some none∧∀ b,RelL K Q cs' (flatL (es ++ [⟨u,x,b⟩])))∨
   ∃ j y e0,Instr.findNow d u es i=some (some (i + j,y))∧es[j]?=some e0∧Instr.sameBits 10000 e0.key u=true∧RelL K Q cs' (flatL (es.modify j fun e=>{ e with key:=u,val:=x }))
 | [],i,cs,cs',hr,h=>by
   cases hr
   simp only [mput,Option.some.injEq] at h; subst h
   exact .inl ⟨rfl,fun b=>.cons hu (.cons hx .nil)⟩
 | y :: es,i,cs,cs',hr,h=>by
   have hr':RelL K Q cs (y.key :: y.val :: flatL es):=by simpa [flatL] using hr
   cases hr' with
   | cons h1 hr'=>cases hr' with
     | cons h2 hr'=>
       simp only [mput] at h
       split at h<;>try (cases h; done)
       · rename_i heq
         injection h with h; subst h
         obtain ⟨g,gb⟩:=same_now hd hk hu h1 heq
         refine .inr ⟨0,y.val,y,by simp only [Instr.findNow,g,Nat.add_zero],rfl,gb rfl,?_⟩
         exact .cons hu (.cons hx hr')
       · rename_i heq
         obtain ⟨g,_⟩:=same_now hd hk hu h1 heq
         split at h<;>try (cases h; done)
         rename_i l hl
         injection h with h; subst h
         rcases put_spec hd hk hu hx es (i + 1) _ l hr' hl with ⟨g1,g2⟩ | ⟨j,z,e0,g1,g2,g3,g4⟩
         · refine .inl ⟨by simp only [Instr.findNow,g]; exact g1,fun b=>?_⟩
           exact .cons h1 (.cons h2 (g2 b))
         · refine .inr ⟨j + 1,z,e0,by simp only [Instr.findNow,g]; rw [g1]; congr 3; omega,by simpa using g2,g3,?_⟩
           exact .cons h1 (.cons h2 g4)
theorem map_es (hs:Core K Q H w){d:D}{v:Value}{cs:List D}(h:mapOf H d=some cs)(hr:Rel K Q d v):∃ es:Array MapEntry,RelL K Q cs (flatL es.toList)∧((v = .map none∧es = #[])∨∃ B clock,v = .map (some B)∧w.heap[B]?=some (.map es clock)):=by
 cases d with
 | fm cs0=>
   simp only [mapOf,Option.some.injEq] at h; subst h
   cases hr with
   | fmNil=>exact ⟨#[],.nil,.inl ⟨rfl,rfl⟩⟩
   | @fm _ B vs hv hl hx=>
     rcases hs.val _ _ _ hv with ⟨_,h1⟩ | ⟨_,es,cl,h2,h3⟩
     · cases h1
     · injection h3 with h3
       have h4:vs=flatEs es:=by simpa using congrArg Array.toList h3
       subst h4
       exact ⟨es,hl,.inr ⟨_,cl,rfl,h2⟩⟩
 | mp b=>
   simp only [mapOf] at h
   split at h<;>try (cases h; done)
   rename_i cs' fr hb
   injection h with h; subst h
   cases hr with
   | mp hk=>
     obtain ⟨B,es,cl,g1,g2,g3,_,_⟩:=hs.blk b _ hb
     rw [hk] at g1; injection g1 with g1; injection g1 with g1 _; injection g1 with g1; injection g1 with g1 _; subst g1
     exact ⟨es,g3,.inr ⟨_,cl,rfl,g2⟩⟩
 | _=>simp [mapOf] at h
theorem op_mkm {t el:TypeId}{k:TypeId}{r:Option Operand}{r':Option Opd}{b:Nat}(ho:o.op = .makeMap t r)(ht:P.underlying t=some (.map k el))(hr:okO n r r'=true)(hi:optInt e r'=true)(hb:noMem (idsOf H) [b]=true)(hlt:smallL [b]=true)
   (hs:Sim w0 K0 K Q H w) (he:RelE K Q n e a.tmps):OpOk P w0 K0 K Q w n o a (.mp b) e (hset H b (.mapB [] false)):=by
 have hb':=noMem_one hb
 have hn:=hs.toCore.absent hb'
 have hkk:∀ c i,K c=some i→updK K b ⟨some (w.heap.size,0,0),none⟩ c=some i:=fun c i h=>by
   by_cases e:c=b
   · subst e; rw [hn] at h; cases h
   · rw [updK_ne _ _ e]; exact h
 have hsim:Sim w0 K0 (updK K b ⟨some (w.heap.size,0,0),none⟩) Q (hset H b (.mapB [] false)) (w.alloc (.map #[] 0)):=by
   refine hs.add hb' (hs.kept.alloc _) (fun _ _ _ h=>h) (fun _ _ _ _ _ _ _ _=>rfl) (fun B o v h=>?_) (fun c j B o n hk hl=>heap_alloc_lt (hs.toCore.lt hk hl)) (fun B o n c j o' n' hi hk hl=>?_) (fun B o n hi=>?_) (fun _ _ _=>rfl)
     ⟨w.heap.size,#[],0,updK_same _ _ _,heap_alloc_new,.nil,rfl,fun o=>by rw [hs.toCore.qnew o]; simp⟩ (.inl (smallL_one hlt))
   · exact (hs.val B o v h).congr (heap_alloc_lt (hs.toCore.qlt h))
   · injection hi with hi; injection hi with e _
     have:=hs.toCore.lt hk hl
     omega
   · injection hi with hi; injection hi with e _
     exact .inr (by have:=hs.kept.size; omega)
 refine ⟨_,Q,_,_,.inl ?_,hsim,he.mono hkk (fun _ _ _ h=>h),.mp (updK_same _ _ _),fun _ _ _ h=>h⟩
 cases r with
 | none=>
   simp only [execOp,ho,Option.map_none]
   rfl
 | some x=>
   cases r' with
   | none=>cases hr
   | some x'=>
     simp only [okO] at hr
     simp only [optInt] at hi
     split at hi<;>try (cases hi; done)
     rename_i k' z hz
     have rx:=okX_rel he hr
     rw [hz] at rx
     simp only [execOp,ho,Option.map_some,rx.int_inv,Instr.makeMap,Sem.run_bind,run_underlying ht,Result.andThen_ok,asInt,Sem.run_pure]
     rfl
theorem op_lku {t el:TypeId}{x k:Operand}{x' k':Opd}{ok:Bool}{kd:Nat}{z:D}{zv:Value}{cs:List D}{res:Option D}(ho:o.op = .lookup t x k ok)(ht:mapT P t kd=some el)(hz:zeroT P el=some zv)(hzc:okC z zv=true)(h1:okX n x x'=true)(h2:okX n k k'=true)
   (hx:mapOf H (rho e x')=some cs) (hk:kindOk kd (rho e k')=true) (hf:mfind (rho e k') cs=some res) (hs:Sim w0 K0 K Q H w) (he:RelE K Q n e a.tmps) :
   OpOk P w0 K0 K Q w n o a (match res with | some v=>(bif ok then .tup [v,.bool true] else v) | none=>(bif ok then .tup [z,.bool false] else z)) e H:=by
 obtain ⟨kt,d,g1,g2,g3⟩:=mapT_eq ht
 have rx:=okX_rel he h1
 have rk:=okX_rel he h2
 obtain ⟨es,hl,hv⟩:=map_es hs.toCore hx rx
 have hlook:∀ (v:Value) (b:Bool),Instr.findNow d (a.eval k) es.toList 0=(if b then some (some (0,v)) else some none)→True:=fun _ _ _=>trivial
 have hrun:∀ (r:Option (Nat×Value)),Instr.findNow d (a.eval k) es.toList 0=some r→(Instr.lookup t (a.eval x) (a.eval k) ok).run P w = .ok (match r with | some (_,v)=>(if ok then .tuple #[v,.bool true] else v) | none=>(if ok then .tuple #[zv,.bool false] else zv)) w:=by
   intro r hfn
   have hfk:(Instr.findKey kt (a.eval k) es.toList).run P w = .ok r w:=by
     simp only [Instr.findKey,Sem.run_bind,run_underlying g2,Result.andThen_ok,hfn,Sem.run_pure]
   have hz':=run_zeroT (w:=w) hz
   rcases hv with ⟨hv,rfl⟩ | ⟨B,clock,hv,hB⟩
   · rw [hv]
     simp only [Instr.lookup,Sem.run_bind,run_underlying g1,Result.andThen_ok,Sem.run_pure,checkKey_ok g2 g3,hfk]
     cases r with
     | none=>simp only [Sem.run_bind,hz',Result.andThen_ok,Sem.run_pure]
     | some p=>simp only [Sem.run_bind,Sem.run_pure,Result.andThen_ok]
   · rw [hv]
     have hget:(getObj B).run P w = .ok (.map es clock) w:=by simp [getObj,Sem.run,hB]
     simp only [Instr.lookup,Sem.run_bind,run_underlying g1,Result.andThen_ok,hget,Sem.run_pure,checkKey_ok g2 g3,hfk]
     cases r with
     | none=>simp only [Sem.run_bind,hz',Result.andThen_ok,Sem.run_pure]
     | some p=>simp only [Sem.run_bind,Sem.run_pure,Result.andThen_ok]
 rcases find_spec g3 hk rk es.toList 0 cs res hl hf with ⟨rfl,hn⟩ | ⟨c,j,v,rfl,hn,hc⟩
 · refine .val hs he (v:=if ok then .tuple #[zv,.bool false] else zv) ?_ ?_
   · simp only [execOp,ho,Sem.run_bind,hrun _ hn,Result.andThen_ok,Sem.run_pure]
   · have hzr:=okC_rel (K:=K) (Q:=Q) z zv hzc
     cases ok with
     | true=>exact .tup (.cons hzr (.cons (.bool _) .nil))
     | false=>exact hzr
 · refine .val hs he (v:=if ok then .tuple #[v,.bool true] else v) ?_ ?_
   · simp only [execOp,ho,Sem.run_bind,hrun _ hn,Result.andThen_ok,Sem.run_pure]
   · cases ok with
     | true=>exact .tup (.cons hc (.cons (.bool _) .nil))
     | false=>exact hc
theorem mput_closed {k v:D}(hk:closed k=true)(hv:closed v=true):∀ (cs cs':List D),closedL cs=true→mput k v cs=some cs'→closedL cs'=true
 | [],cs',_,h=>by simp only [mput,Option.some.injEq] at h; subst h; simp only [closedL,hk,hv]; rfl
 | [_],cs',_,h=>by simp [mput] at h
 | k0 :: u :: r,cs',hc,h=>by
   simp only [closedL,Bool.cond_false_right,Bool.and_eq_true] at hc
   simp only [mput] at h
   split at h<;>try (cases h; done)
   · injection h with h; subst h
     simp only [closedL,hk,hv,hc.2.2]; rfl
   · split at h<;>try (cases h; done)
     rename_i l hl
     injection h with h; subst h
     simp only [closedL,hc.1,hc.2.1,mput_closed hk hv r l hc.2.2 hl]; rfl
theorem op_mup {t el:TypeId}{x k y:Operand}{x' k' y':Opd}{kd:Nat}{b:Nat}{cs cs':List D}(ho:o.op = .mapUpdate t x k y∨o.op = .insert t x k y)(ht:mapT P t kd=some el)(h1:okX n x x'=true)(h2:okX n k k'=true)(h3:okX n y y'=true)
   (hx:rho e x' = .mp b) (hk:kindOk kd (rho e k')=true) (hcl:closed (rho e y')=true) (hb:hget H b=some (.mapB cs false)) (hp:mput (rho e k') (rho e y') cs=some cs') (hs:Sim w0 K0 K Q H w) (he:RelE K Q n e a.tmps) :
   OpOk P w0 K0 K Q w n o a .dead e (hset H b (.mapB cs' false)):=by
 obtain ⟨kt,d,g1,g2,g3⟩:=mapT_eq ht
 have rx:=okX_rel he h1
 have rk:=okX_rel he h2
 have ry:=okX_rel he h3
 rw [hx] at rx
 obtain ⟨B,es,cl,k1,k2,k3,k4,k5⟩:=hs.blk b _ hb
 have hxv:a.eval x = .map (some B):=by
   generalize a.eval x=v at rx
   cases rx with
   | mp hk'=>
     rw [k1] at hk'; injection hk' with hk'; injection hk' with hk' _; injection hk' with hk'; injection hk' with hk' _; subst hk'; rfl
 have hlt:B < w.heap.size:=(Array.getElem?_eq_some_iff.1 k2).1
 have hQ:∀ o,Q B o=none:=fun o=>by rw [k5]; simp
 have hkc:closed (rho e k')=true:=by
   generalize rho e k'=kk at hk
   unfold kindOk at hk
   split at hk<;>first | rfl | (cases hk; done)
 have hcl':closedL cs'=true:=mput_closed hkc hcl _ _ k4 hp
 have fin:∀ (es':Array MapEntry) (cl':Nat),RelL K Q cs' (flatL es'.toList)→(Instr.mapUpdate t (a.eval x) (a.eval k) (a.eval y)).run P w = .ok () { w with heap:=w.heap.setIfInBounds B (.map es' cl') }→OpOk P w0 K0 K Q w n o a .dead e (hset H b (.mapB cs' false)):=by
   intro es' cl' hl hrun
   refine ⟨K,Q,{ w with heap:=w.heap.setIfInBounds B (.map es' cl') },undef,.inr ⟨?_,rfl⟩,hs.write hb k1 (fun k hk=>by simp [Array.getElem?_setIfInBounds,Ne.symm hk]) (by simp) rfl rfl rfl (fun o v h=>by rw [hQ] at h; cases h) ⟨B,es',cl',k1,by simp [hlt],hl,hcl',fun o=>by rw [hQ]; simp⟩ (fun _=>rfl),he,.dead _,fun _ _ _ h=>h⟩
   rcases ho with ho | ho<;>simp only [execOp,ho,Sem.run_bind,hrun,Result.andThen_ok,Sem.run_pure]
 have hget:(getObj B).run P w = .ok (.map es cl) w:=by simp [getObj,Sem.run,k2]
 have hset:∀ o,(setObj B o).run P w = .ok () { w with heap:=w.heap.setIfInBounds B o }:=fun o=>by simp [setObj,Sem.run,k2]
 have hfk:∀ r,Instr.findNow d (a.eval k) es.toList 0=some r→(Instr.findKey kt (a.eval k) es.toList).run P w = .ok r w:=fun r h=>by
   simp only [Instr.findKey,Sem.run_bind,run_underlying g2,Result.andThen_ok,h,Sem.run_pure]
 rcases put_spec g3 hk rk ry es.toList 0 cs cs' k3 hp with ⟨f1,f2⟩ | ⟨j,u,e0,f1,f2,f3,f4⟩
 · refine fin (es.push { key:=a.eval k,val:=a.eval y,born:=cl }) (cl + 1) (by simpa using f2 cl) ?_
   rw [hxv]
   simp only [Instr.mapUpdate,Sem.run_bind,run_underlying g1,Result.andThen_ok,hget,checkKey_ok g2 g3,hfk _ f1,hset]
 · rw [Nat.zero_add] at f1
   have hj:es[j]?=some e0:=by simpa using f2
   refine fin (es.modify j fun e=>{ e with key:=a.eval k,val:=a.eval y }) cl (by simpa using f4) ?_
   rw [hxv]
   have hks:(Instr.keyThatStays e0.key (a.eval k)).run P w = .ok (a.eval k) w:=by simp [Instr.keyThatStays,f3]
   simp only [Instr.mapUpdate,Sem.run_bind,run_underlying g1,Result.andThen_ok,hget,checkKey_ok g2 g3,hfk _ f1,hj,Option.map_some,Option.getD_some,hks,hset]
theorem del_spec {kd:Nat}{d:TypeDesc}{k:D}{u:Value}(hd:keyKind kd d=true)(hk:kindOk kd k=true)(hu:Rel K Q k u):∀ (es:List MapEntry) (i:Nat) (cs cs':List D),RelL K Q cs (flatL es)→mdel k cs=some cs'→
   (Instr.findNow d u es i=some none∧RelL K Q cs' (flatL es))∨
   ∃ j y,Instr.findNow d u es i=some (some (i + j,y))∧j < es.length∧RelL K Q cs' (flatL (es.eraseIdx j))
 | [],i,cs,cs',hr,h=>by
   cases hr
   simp only [mdel,Option.some.injEq] at h; subst h
   exact .inl ⟨rfl,.nil⟩
 | y :: es,i,cs,cs',hr,h=>by
   have hr':RelL K Q cs (y.key :: y.val :: flatL es):=by simpa [flatL] using hr
   cases hr' with
   | cons h1 hr'=>cases hr' with
     | cons h2 hr'=>
       simp only [mdel] at h
       split at h<;>try (cases h; done)
       · rename_i heq
         injection h with h; subst h
         obtain ⟨g,gb⟩:=same_now hd hk hu h1 heq
         refine .inr ⟨0,y.val,by simp only [Instr.findNow,g,Nat.add_zero],by simp,?_⟩
         simpa using hr'
       · rename_i heq
         obtain ⟨g,_⟩:=same_now hd hk hu h1 heq
         split at h<;>try (cases h; done)
         rename_i l hl
         injection h with h; subst h
         rcases del_spec hd hk hu es (i + 1) _ l hr' hl with ⟨g1,g2⟩ | ⟨j,z,g1,g2,g3⟩
         · refine .inl ⟨by simp only [Instr.findNow,g]; exact g1,?_⟩
           exact .cons h1 (.cons h2 g2)
         · refine .inr ⟨j + 1,z,by simp only [Instr.findNow,g]; rw [g1]; congr 3; omega,by simp only [List.length_cons]; omega,?_⟩
           exact .cons h1 (.cons h2 g3)
theorem mdel_closed {k:D} : ∀ (cs cs':List D),closedL cs=true→mdel k cs=some cs'→closedL cs'=true
 | [],cs',_,h=>by simp only [mdel,Option.some.injEq] at h; subst h; rfl
 | [_],cs',_,h=>by simp [mdel] at h
 | k0 :: u :: r,cs',hc,h=>by
   simp only [closedL,Bool.cond_false_right,Bool.and_eq_true] at hc
   simp only [mdel] at h
   split at h<;>try (cases h; done)
   · injection h with h; subst h; exact hc.2.2
   · split at h<;>try (cases h; done)
     rename_i l hl
     injection h with h; subst h
     simp only [closedL,hc.1,hc.2.1,mdel_closed r l hc.2.2 hl]; rfl
theorem op_mdl {t el:TypeId}{tk:TypeId}{x k:Operand}{x' k':Opd}{kd:Nat}{b:Nat}{cs cs':List D}(ho:o.op = .call ⟨.builtin .delete,#[x,k],#[t,tk]⟩)(ht:mapT P t kd=some el)(h1:okX n x x'=true)(h2:okX n k k'=true)
   (hx:rho e x' = .mp b) (hk:kindOk kd (rho e k')=true) (hb:hget H b=some (.mapB cs false)) (hp:mdel (rho e k') cs=some cs') (hs:Sim w0 K0 K Q H w) (he:RelE K Q n e a.tmps) :
   OpOk P w0 K0 K Q w n o a (.tup []) e (hset H b (.mapB cs' false)):=by
 obtain ⟨kt,d,g1,g2,g3⟩:=mapT_eq ht
 have rx:=okX_rel he h1
 have rk:=okX_rel he h2
 rw [hx] at rx
 obtain ⟨B,es,cl,k1,k2,k3,k4,k5⟩:=hs.blk b _ hb
 have hxv:a.eval x = .map (some B):=by
   generalize a.eval x=v at rx
   cases rx with
   | mp hk'=>
     rw [k1] at hk'; injection hk' with hk'; injection hk' with hk' _; injection hk' with hk'; injection hk' with hk' _; subst hk'; rfl
 have hlt:B < w.heap.size:=(Array.getElem?_eq_some_iff.1 k2).1
 have hQ:∀ o,Q B o=none:=fun o=>by rw [k5]; simp
 have hcl':closedL cs'=true:=mdel_closed _ _ k4 hp
 have fin:∀ (es':Array MapEntry),RelL K Q cs' (flatL es'.toList)→(execOp a.eval o).run P w = .ok (.value (.tuple #[])) { w with heap:=w.heap.setIfInBounds B (.map es' cl) }→OpOk P w0 K0 K Q w n o a (.tup []) e (hset H b (.mapB cs' false)):=by
   intro es' hl hrun
   exact ⟨K,Q,{ w with heap:=w.heap.setIfInBounds B (.map es' cl) },.tuple #[],.inl hrun,hs.write hb k1 (fun k hk=>by simp [Array.getElem?_setIfInBounds,Ne.symm hk]) (by simp) rfl rfl rfl (fun o v h=>by rw [hQ] at h; cases h) ⟨B,es',cl,k1,by simp [hlt],hl,hcl',fun o=>by rw [hQ]; simp⟩ (fun _=>rfl),he,.tup .nil,fun _ _ _ h=>h⟩
 have hget:(getObj B).run P w = .ok (.map es cl) w:=by simp [getObj,Sem.run,k2]
 have hset:∀ o,(setObj B o).run P w = .ok () { w with heap:=w.heap.setIfInBounds B o }:=fun o=>by simp [setObj,Sem.run,k2]
 have hfk:∀ r,Instr.findNow d (a.eval k) es.toList 0=some r→(Instr.findKey kt (a.eval k) es.toList).run P w = .ok r w:=fun r h=>by
   simp only [Instr.findKey,Sem.run_bind,run_underlying g2,Result.andThen_ok,h,Sem.run_pure]
 have hbt:∀ (es':Array MapEntry) (r:Option (Nat×Value)),Instr.findNow d (a.eval k) es.toList 0=some r→(match r with | some (i,_)=>es.eraseIdxIfInBounds i | none=>es)=es'→(execOp a.eval o).run P w = .ok (.value (.tuple #[])) { w with heap:=w.heap.setIfInBounds B (.map es' cl) }:=by
   intro es' r hf he'
   rw [execOp_builtin ho]
   simp only [builtin,List.map_toArray,List.map_cons,List.map_nil]
   rw [hxv]
   cases r with
   | none=>subst he'; simp [Builtin.delete_,run_underlying g1,hget,checkKey_ok g2 g3,hfk _ hf,hset]
   | some p=>subst he'; simp [Builtin.delete_,run_underlying g1,hget,checkKey_ok g2 g3,hfk _ hf,hset]
 rcases del_spec g3 hk rk es.toList 0 cs cs' k3 hp with ⟨f1,f2⟩ | ⟨j,y,f1,f2,f3⟩
 · exact fin es f2 (hbt es none f1 rfl)
 · rw [Nat.zero_add] at f1
   have hj:j < es.size:=by simpa using f2
   have he':(es.eraseIdxIfInBounds j).toList=es.toList.eraseIdx j:=by simp [Array.eraseIdxIfInBounds,hj]
   exact fin (es.eraseIdxIfInBounds j) (by rw [he']; exact f3) (hbt _ (some (j,y)) f1 rfl)
end
end Gs
