/- part X33; part X34; part X5i; part XBx; no conditions. -/
import Derived.Test.YtogfagkjndoefaaGreatX32
import Derived.Test.YtogfagkjndoefaaGreatX3toX31
import Derived.Test.YtogfagkjndoefaaGreatGsF
import Derived.Sort.AssemblyPlain
set_option linter.all false
namespace Go.Proofs
open Go.RowKit
attribute [local go_sem] Oper.semAt_some
theorem gat_mem {q:Pts}{k:Nat}(h:k < q.length):Gs.gat q k∈q:=by
 simp [Gs.gat,h]
theorem gdiv_false {a b:Int×Int}{q:Pts}{k:Nat}(h:k < q.length)(hp:0 < Gs.gdet a b (Gs.gat q k)):Gs.gdiv a b q=false:=by
 unfold Gs.gdiv
 rw [List.any_eq_true.2 ⟨_,gat_mem h,decide_eq_true hp⟩]; rfl
theorem gdiv_true {a b:Int×Int}{q:Pts}(h:∀ j,j < q.length→Gs.gdet a b (Gs.gat q j)≤0):Gs.gdiv a b q=true:=by
 unfold Gs.gdiv
 rw [Bool.not_eq_true',List.any_eq_false]
 intro x hx
 obtain ⟨j,hj,rfl⟩:=List.mem_iff_getElem.1 hx
 have:=h j hj
 rw [show Gs.gat q j=q[j] by simp [Gs.gat,hj]] at this
 simp; omega
set_option maxRecDepth 100000 in
set_option maxHeartbeats 4000000 in
theorem divides_in (n:Nat)(a b:Int×Int)(ha:Gs.gok a=true)(hb:Gs.gok b=true)(bq off cap:Nat)(q:Pts)(hreach:q.length < 1000000)(hg:∀ k,k < q.length→Gs.gok (Gs.gat q k)=true)(w:World)(hbq:bq < w.heap.size)(hc:PtsAt w bq off q) :
   CallsIn Fence.wide n Tryz.prog 225 #[.agg #[.int .i64 a.1,.int .i64 a.2,.int .i64 b.1,.int .i64 b.2],.slice (some ⟨bq,off,none⟩) q.length cap] w fun e W'=>e = .returned (.bool (Gs.gdiv a b q))∧Below w.heap.size w W':=by
 refine callsIn_of_wp Tryz.func225 rfl trivial ?_ rfl
 simp only [Tryz.ntmps225,List.size_toArray,List.length_cons,List.length_nil,Nat.reduceAdd,Nat.reduceSub,Array.replicate_succ,Array.replicate_zero,List.push_toArray,List.append_toArray,List.nil_append,List.cons_append]
 gi_wp2
 gi_loopw [9] (fun i wr=>∃ k:Nat,k≤q.length∧i = .int .i64 k∧(∀ j,j < k→Gs.gdet a b (Gs.gat q j)≤0)∧wr.heap[w.heap.size]?=some (.cells #[.int .i64 a.1,.int .i64 a.2,.int .i64 b.1,.int .i64 b.2] 233 (0,0))∧Below w.heap.size w wr)
   (fun i _=>q.length - (intOf i).toNat)
 case atStart=>exact ⟨0,Nat.zero_le _,rfl,fun j h=>by omega,World.alloc_heap_new w _,below_alloc _ _⟩
 case round=>
   obtain ⟨k,hk,rfl,hgd,hE,hnx⟩:=hrel
   have hP:=hc.below hnx hbq
   obtain ⟨e0,e1,e2,e3⟩:=cells4 hE
   by_cases hlt:k < q.length
   · have c1:=hP.x k hlt
     have c2:=hP.y k hlt
     have hE':=(Array.getElem?_eq_some_iff.1 hE).1
     have hbq':bq < wr.heap.size:=by have:=hnx.size; omega
     gi_wp2_with (refine ⟨trivial,fun h=>(by cases h),(cross_b _ _ _ _ _ (gokB ha) (gokB hb) (gokB (hg _ hlt))).mono ?_⟩; rintro e W2 ⟨rfl,hW2⟩)
     · have h2:Below wr.heap.size wr W2:=(below_alloc _ _).trans (hW2.mono (by simp))
       have hp:0 < Gs.gdet a b (Gs.gat q k):=by first | assumption | exact Int.not_le.1 (by assumption)
       go_ret
       refine ⟨?_,hnx.trans (h2.mono hnx.size)⟩
       rw [gdiv_false hlt hp]; rfl
     · have h2:Below wr.heap.size wr W2:=(below_alloc _ _).trans (hW2.mono (by simp))
       have hp:Gs.gdet a b (Gs.gat q k)≤0:=by first | assumption | exact Int.not_lt.1 (by assumption)
       go_roundw
       case rel=>exact ⟨k + 1,by omega,by simp,fun j hj=>by
         rcases Nat.lt_succ_iff_lt_or_eq.1 hj with h | rfl
         · exact hgd j h
         · exact hp,later_obj h2 hE,hnx.trans (h2.mono hnx.size)⟩
       case measure=>simp [intOf]; omega
   · obtain rfl:k=q.length:=by omega
     gi_wp2
     go_ret
     exact ⟨by rw [gdiv_true hgd]; rfl,hnx⟩
abbrev dvE (p q:Pts)(k:Nat):Bool:=Gs.gdiv (Gs.gat p k) (Gs.gat p (Gs.gnx p k)) q
structure InE (n₀:Nat) (sl:Value) (p q:Pts) (w:World) (pre:List Nat) (W:World):Prop where
 sl:Boxed W n₀ 78 sl
 res:Boxed W (n₀ + 1) 3 (.int .i64 0)
 good:∀ x∈pre,dvE p q (x % p.length)=false
 size:n₀ + 3≤W.heap.size
 below:Below n₀ w W
structure IxE (n₀:Nat) (p q:Pts) (w:World) (c:Code) (pre:List Nat) (W:World):Prop where
 ret:c = .ret
 bad:∃ ini last,pre=ini ++ [last]∧(∀ x∈ini,dvE p q (x % p.length)=false)∧dvE p q (last % p.length)=true∧Boxed W (n₀ + 1) 3 (.int .i64 ((last % p.length:Nat):Int))
 below:Below n₀ w W
structure AxE (n₀:Nat) (slp slq:Value) (p:Pts) (g:Value) (x:Nat) (a:Act) (W:World):Prop where
 box:∃ B,n₀ + 3≤B∧W.heap[B]?=some (sideO p (x % p.length))∧a = { tmps:=#[slp,slq,undef,.pointer (some ⟨n₀,0,none⟩),.pointer (some ⟨n₀ + 1,0,none⟩),.int .i64 ((x % p.length:Nat):Int),.pointer (some ⟨B,0,none⟩),slp,g,.int .i64 ((x % p.length:Nat):Int),sideV p (x % p.length),undef,undef,undef,undef],defers:=[] }
theorem inE_own {n₀ B:Nat}{sl:Value}{p q:Pts}{w:World}(hw:n₀≤w.heap.size)(hB:n₀≤B):OwnFrom B (InE n₀ sl p q w):=fun pre A C row hs hg hr=>
 ⟨(boxed_own (β:=Unit) n₀ 78 (fun _=>sl)).from B () A C row hs.sl hg hr,(boxed_own (β:=Unit) (n₀ + 1) 3 (fun _=>.int .i64 0)).from B () A C row hs.res hg hr,
  hs.good,Nat.le_trans hs.size hg.size,ownFrom_below (β:=Unit) hw hB () A C row hs.below hg hr⟩
theorem ixE_own {n₀ B:Nat}{p q:Pts}{w:World}(hw:n₀≤w.heap.size)(hB:n₀≤B)(c:Code):OwnFrom B (IxE n₀ p q w c):=fun pre A C row hs hg hr=>by
 obtain ⟨ini,last,h1,h2,h3,h4⟩:=hs.bad
 exact ⟨hs.ret,⟨ini,last,h1,h2,h3,(boxed_own (β:=Unit) (n₀ + 1) 3 (fun _=>.int .i64 ((last % p.length:Nat):Int))).from B () A C row h4 hg hr⟩,ownFrom_below (β:=Unit) hw hB () A C row hs.below hg hr⟩
theorem axE_own {n₀ B:Nat}{slp slq g:Value}{p:Pts}(x:Nat)(a:Act):OwnFrom B (fun (_:Unit) W=>AxE n₀ slp slq p g x a W):=fun s A C row hs hg hr=>by
 obtain ⟨B',h1,h2,h3⟩:=hs.box
 exact ⟨B',h1,(own_obj (β:=Unit) B' _ rfl).from B () A C row h2 hg hr,h3⟩
theorem inE_next {n₀:Nat}{sl:Value}{p q:Pts}{w W W':World}{pre:List Nat}{x:Nat}(hi:InE n₀ sl p q w pre W)(hL:Below W.heap.size W W')(hg:dvE p q (x % p.length)=false):InE n₀ sl p q w (pre ++ [x]) W':=
 ⟨later_obj hL hi.sl,later_obj hL hi.res,fun y hy=>by
   rcases List.mem_append.1 hy with h | h
   · exact hi.good y h
   · rw [List.mem_singleton.1 h]; exact hg,Nat.le_trans hi.size hL.size,hi.below.trans (hL.mono (by have:=hi.size; omega))⟩
theorem gedge_done {p q:Pts}(h:∀ x∈List.range p.length,dvE p q (x % p.length)=false):Gs.gedge p q = -1:=by
 have h1:(List.range p.length).find? (fun i=>Gs.gdiv (Gs.gat p i) (Gs.gat p (Gs.gnx p i)) q)=none:=by
   rw [List.find?_eq_none]
   intro x hx
   have:=h x hx
   rw [Nat.mod_eq_of_lt (List.mem_range.1 hx)] at this
   simpa [dvE] using this
 unfold Gs.gedge
 rw [h1]
theorem find_first {f:Nat→Bool} : ∀ {n k:Nat},k < n→(∀ j,j < k→f j=false)→f k=true→(List.range n).find? f=some k
 | n,k,hk,hj,hf=>by
   rw [List.find?_eq_some_iff_append]
   refine ⟨hf,List.range k,(List.range (n - k - 1)).map (fun j=>k + 1 + j),?_,fun a ha=>by rw [hj a (List.mem_range.1 ha)]; rfl⟩
   apply List.ext_getElem
   · simp; omega
   · intro i h1 h2
     simp only [List.getElem_range,List.getElem_append,List.length_range,List.getElem_cons,List.getElem_map]
     split
     · rfl
     · split<;>omega
theorem gedge_stop {p q:Pts}{k:Nat}(hk:k≤p.length){ini:List Nat}{last:Nat}(h1:List.range k=ini ++ [last])(h2:∀ x∈ini,dvE p q (x % p.length)=false)(h3:dvE p q (last % p.length)=true) :
   Gs.gedge p q=(last:Int)∧last % p.length=last:=by
 obtain ⟨k',rfl⟩:∃ k',k=k' + 1:=by
   cases k with
   | zero=>simp at h1
   | succ k'=>exact ⟨k',rfl⟩
 rw [List.range_succ] at h1
 obtain ⟨rfl,e5⟩:=List.append_inj' h1 rfl
 obtain rfl:k'=last:=by simpa using e5
 rw [Nat.mod_eq_of_lt (by omega)] at h3
 refine ⟨?_,Nat.mod_eq_of_lt (by omega)⟩
 unfold Gs.gedge
 rw [find_first (f:=fun i=>Gs.gdiv (Gs.gat p i) (Gs.gat p (Gs.gnx p i)) q) (k:=k') (by omega) (fun j hj=>by
   have:=h2 j (List.mem_range.2 hj)
   rwa [Nat.mod_eq_of_lt (by omega)] at this) h3]
set_option maxRecDepth 100000 in
set_option maxHeartbeats 4000000 in
theorem edge_in (n:Nat)(hn:3≤n)(b off cap:Nat)(p:Pts)(hp:0 < p.length)(hreach:p.length < 1000000)(hg:∀ k,k < p.length→Gs.gok (Gs.gat p k)=true)
   (b2 off2 cap2:Nat) (q:Pts) (hreach2:q.length < 1000000) (hg2:∀ k,k < q.length→Gs.gok (Gs.gat q k)=true) (w:World) (hb:b < w.heap.size) (hc:PtsAt w b off p) (hb2:b2 < w.heap.size) (hc2:PtsAt w b2 off2 q) :
   CallsIn Fence.wide n Tryz.prog 193 #[.slice (some ⟨b,off,none⟩) p.length cap,.slice (some ⟨b2,off2,none⟩) q.length cap2] w fun e W'=>e = .returned (.int .i64 (Gs.gedge p q))∧Below w.heap.size w W':=by
 have h1:1≤n:=by omega
 refine callsIn_of_wp_marks Tryz.func193 rfl trivial ?_ rfl
 simp only [Tryz.ntmps193,List.size_toArray,List.length_cons,List.length_nil,Nat.reduceAdd,Nat.reduceSub,Array.replicate_succ,Array.replicate_zero,List.push_toArray,List.append_toArray,List.nil_append,List.cons_append]
 gi_wp2_with (refine ⟨trivial,(edges_in Fence.wide (n - 1) trivial rfl _ _ _ _).mono ?_⟩; rintro e w' ⟨rfl,rfl⟩)
 have bS:=Boxed.new w 78 (.slice (some ⟨b2,off2,none⟩) q.length cap2)
 have bR:=Boxed.new (w.alloc (.cells #[.slice (some ⟨b2,off2,none⟩) q.length cap2] 78)) 3 (.int .i64 0)
 have bN:=Boxed.new ((w.alloc (.cells #[.slice (some ⟨b2,off2,none⟩) q.length cap2] 78)).alloc (.cells #[.int .i64 0] 3)) 78 (.slice (some ⟨b,off,none⟩) p.length cap)
 simp only [World.size_alloc] at bR bN
 have hB0:Below w.heap.size w (((w.alloc (.cells #[.slice (some ⟨b2,off2,none⟩) q.length cap2] 78)).alloc (.cells #[.int .i64 0] 3)).alloc (.cells #[.slice (some ⟨b,off,none⟩) p.length cap] 78)):=
   (((Below.refl _ w).alloc (Nat.le_refl _) _).alloc (by simp) _).alloc (by simp; omega) _
 refine wpIn_rangeFunc_ownH rfl h1 (gf:=240) (lb:=#[.pointer (some ⟨w.heap.size + 1 + 1,0,none⟩)]) rfl trivial (enters_of Tryz.func240 (by kernel_rfl) rfl)
   (edges_stops (n - 1) (by omega) (w.heap.size + 1 + 1) w.heap.size b off cap p hp hreach hb _ (by simp; omega) (by simp) bN.cell (hc.below hB0 hb))
   Kp2.trans (Kp2.put (by simp; omega) (by simp)) (Below.refl _ _) (fun _=>rfl)
   (InE w.heap.size (.slice (some ⟨b2,off2,none⟩) q.length cap2) p q w) (IxE w.heap.size p q w)
   (inE_own (Nat.le_refl _) (by simp; omega)) (ixE_own (Nat.le_refl _) (by simp; omega))
   ⟨(bS.alloc _).alloc _,bR.alloc _,fun _ h=>(by cases h),(by simp),hB0⟩
   (AxE w.heap.size (.slice (some ⟨b,off,none⟩) p.length cap) (.slice (some ⟨b2,off2,none⟩) q.length cap2) p (.func (.func 240) #[] #[.pointer (some ⟨w.heap.size + 1 + 1,0,none⟩)])) axE_own ?assign ?body ?done ?stop
 case assign=>
   intro l pre x W K hi hK
   simp only [rdV]
   generalize hk:x % p.length=k
   gi_wp2
   have hb:=below_alloc W (sideO p k)
   exact hK _ _ (later_keeps hb _) (later_kp hb (by have:=hi.size; omega) (by have:=hi.size; omega))
     ⟨hi.sl.alloc _,hi.res.alloc _,hi.good,by rw [World.size_alloc]; have:=hi.size; omega,hi.below.trans (hb.mono (by have:=hi.size; omega))⟩
     ⟨⟨W.heap.size,hi.size,by rw [hk]; exact World.alloc_heap_new W _,by rw [hk]⟩⟩
 case body=>
   rintro l pre x a' W hl hrec hi ⟨B,hB4,hBo,rfl⟩ hpl
   have hx:x % p.length < p.length:=Nat.mod_lt _ hp
   generalize hk:x % p.length=k at *
   obtain ⟨e0,e1,e2,e3⟩:=cells4 hBo
   have hx1:Gs.gnx p k < p.length:=Nat.mod_lt _ hp
   have s0:=hi.sl.cell
   have hsz:=hi.size
   have hc2':=hc2.below hi.below hb2
   gi_wp2_with (refine ⟨trivial,fun h=>(by cases h),(CallsIn.inRound l (divides_in _ _ _ (hg _ hx) (hg _ hx1) _ _ _ _ hreach2 hg2 _ (by omega) hc2')).mono ?_⟩; rintro e W2 ⟨rfl,hL2⟩; have r0:=Boxed.cell (later_obj hL2 hi.res); have r1:=Boxed.frozen (later_obj hL2 hi.res))
   · refine ⟨(later_keeps hL2 _).trans ((KeepsOthers.setCell _ _ _).from _),rfl,⟨pre,x,rfl,hi.good,?_,?_⟩,(hi.below.trans (hL2.mono (by omega))).setCell (p:=⟨w.heap.size + 1,0,none⟩) (Nat.le_succ _) _⟩
     · rw [hk]; assumption
     · rw [hk]; exact Boxed.set _ (later_obj hL2 hi.res)
   · refine ⟨later_keeps hL2 _,later_kp hL2 (by omega) (by omega),inE_next hi hL2 (by rw [hk]; first | assumption | exact Bool.eq_false_iff.2 (by assumption))⟩
 case done=>
   rintro D ys W hD rfl hi hK
   have r0:=hi.res.cell
   have r1:=hi.res.frozen
   gi_wp2
   have hK':=(KeepsOthers.setCell W ⟨w.heap.size + 1,0,none⟩ (.int .i64 (-1))).same D _ hK rfl
   refine ⟨by simp,.inl ⟨_,_,rfl,run_takeDeferred hK',?_⟩⟩
   have hc5:=cell_kept (World.cell?_setCell_same' W ⟨w.heap.size + 1,0,none⟩ (.int .i64 (-1)) (by rw [r0]; rfl)) (grownBy_putObj' _ D (.deferred none)) (fun r e=>by cases e; exact ⟨_,hK',rfl⟩)
   refine ⟨.int .i64 (-1),?_,by rw [gedge_done hi.good],(hi.below.setCell (p:=⟨w.heap.size + 1,0,none⟩) (by show w.heap.size≤w.heap.size + 1; omega) _).trans ⟨rfl,rfl,rfl,by simp [World.putObj],fun j hj=>World.putObj_heap_other (by simp at hD; omega)⟩⟩
   simp [results,Tryz.f193,go_sem,hc5]
 case stop=>
   rintro D c pre W hD ⟨k,hk,rfl⟩ hi hK
   obtain rfl:=hi.ret
   obtain ⟨ini,last,h1,h2,h3,h4⟩:=hi.bad
   obtain ⟨g1,g2⟩:=gedge_stop hk h1 h2 h3
   rw [g2] at h4
   have r0:=h4.cell
   gi_wp2
   refine ⟨by simp,.inl ⟨_,_,rfl,run_takeDeferred hK,?_⟩⟩
   have hc5:=cell_kept r0 (grownBy_putObj' _ D (.deferred none)) (fun r e=>by cases e; exact ⟨_,hK,rfl⟩)
   refine ⟨.int .i64 (last:Int),?_,by rw [g1],hi.below.trans ⟨rfl,rfl,rfl,by simp [World.putObj],fun j hj=>World.putObj_heap_other (by simp at hD; omega)⟩⟩
   simp [results,Tryz.f193,go_sem,hc5]
end Go.Proofs
namespace Gs
open Go Go.Proofs
theorem gat_get {l:List (Int×Int)}{j:Nat}(hj:j < l.length):gat l j=l[j]:=by simp [gat,hj]
theorem ptsAt_of {K:Km}{Q:Pm}{H:Heap}{w:World}(hc:Core K Q H w){B o:Nat}{l:List (Int×Int)}(h:RelRow K Q B o 2 (l.map fun q=>.agg [.int .i64 q.1,.int .i64 q.2])):PtsAt w B o l:=by
 have key:∀ j,j < l.length→Q B (o + j * 2)=some (.int .i64 (gat l j).1)∧Q B (o + j * 2 + 1)=some (.int .i64 (gat l j).2):=by
   intro j hj
   have h1:=(h.get (i:=j) (d:=.agg [.int .i64 (gat l j).1,.int .i64 (gat l j).2]) (by rw [List.getElem?_map,List.getElem?_eq_getElem hj,gat_get hj]; rfl)).2
   cases h1 with
   | cons hv _ hr ht=>
     cases hr
     cases ht with
     | cons hv2 _ hr2 ht2=>
       cases hr2
       exact ⟨hv,hv2⟩
 exact ⟨fun j hj=>(hc.val _ _ _ (key j hj).1).one rfl,fun j hj=>(hc.val _ _ _ (key j hj).2).one rfl⟩
theorem gfit_spec {l:List (Int×Int)}(h:gfit l=true):0 < l.length∧l.length < 1000000∧∀ k,k < l.length→gok (gat l k)=true:=by
 simp only [gfit,Bool.and_eq_true,decide_eq_true_eq] at h
 exact ⟨h.1.1,h.1.2,fun k hk=>List.all_eq_true.1 h.2 _ (by rw [gat_get hk]; exact List.getElem_mem hk)⟩
theorem row_blk {K:Km}{Q:Pm}{H:Heap}{w:World}(hc:Core K Q H w){B o:Nat}{l:List (Int×Int)}(h0:0 < l.length)(h:RelRow K Q B o 2 (l.map fun q=>.agg [.int .i64 q.1,.int .i64 q.2])):B < w.heap.size:=by
 exact lt_of_cell ((ptsAt_of hc h).x 0 h0)
theorem gives_convex (args:List D)(H:Heap)(r:D)(H':Heap)(h:convexX args H=some (r,H')):Gives Tryz.prog 223 args H r H':=by
 refine ⟨⟨Tryz.f223,Tryz.func223,by kernel_rfl,by kernel_rfl⟩,fun K Q w avs hids hgl hc ha=>?_⟩
 unfold convexX at h
 split at h
 · split at h<;>try (cases h; done)
   rename_i l hl
   split at h<;>try (cases h; done)
   rename_i hf
   injection h with h; injection h with h1 h2; subst h1; subst h2
   obtain ⟨f1,f2,f3⟩:=gfit_spec hf
   have hxs:=ptsD_eq hl
   subst hxs
   cases ha with
   | cons hv ht=>
   cases ht
   generalize hm:l.map (fun q=>D.agg [.int .i64 q.1,.int .i64 q.2])=xs at hv
   cases hv with
   | fzNil=>rw [List.map_eq_nil_iff] at hm; subst hm; simp at f1
   | fzE=>rw [List.map_eq_nil_iff] at hm; subst hm; simp at f1
   | fz hn hr hcp hx=>
     subst hm
     rw [List.length_map]
     refine (callsIn_wide.1 (convex_in 3 (Nat.le_refl _) _ _ _ l f1 f2 f3 w (row_blk hc f1 hr) (ptsAt_of hc hr))).mono ?_
     rintro e w' ⟨rfl,hb⟩
     exact ⟨_,rfl,K,Q,sim_below hc hb rfl,fun _ _ _ h=>h,.bool _⟩
 · cases h
theorem gives_edge (args:List D)(H:Heap)(r:D)(H':Heap)(h:edgeX args H=some (r,H')):Gives Tryz.prog 193 args H r H':=by
 refine ⟨⟨Tryz.f193,Tryz.func193,by kernel_rfl,by kernel_rfl⟩,fun K Q w avs hids hgl hc ha=>?_⟩
 unfold edgeX at h
 split at h
 · split at h<;>try (cases h; done)
   rename_i l q hl hq
   split at h<;>try (cases h; done)
   rename_i hf
   injection h with h; injection h with h1 h2; subst h1; subst h2
   rw [Bool.and_eq_true] at hf
   obtain ⟨f1,f2,f3⟩:=gfit_spec hf.1
   obtain ⟨q1,q2,q3⟩:=gfit_spec hf.2
   have hxs:=ptsD_eq hl
   have hys:=ptsD_eq hq
   subst hxs; subst hys
   cases ha with
   | cons hv ht=>
   cases ht with
   | cons hv2 ht=>
   cases ht
   generalize hm:l.map (fun q=>D.agg [.int .i64 q.1,.int .i64 q.2])=xs at hv
   generalize hm2:q.map (fun q=>D.agg [.int .i64 q.1,.int .i64 q.2])=ys at hv2
   cases hv with
   | fzNil=>rw [List.map_eq_nil_iff] at hm; subst hm; simp at f1
   | fzE=>rw [List.map_eq_nil_iff] at hm; subst hm; simp at f1
   | fz hn hr hcp hx=>
   cases hv2 with
   | fzNil=>rw [List.map_eq_nil_iff] at hm2; subst hm2; simp at q1
   | fzE=>rw [List.map_eq_nil_iff] at hm2; subst hm2; simp at q1
   | fz hn2 hr2 hcp2 hx2=>
     subst hm; subst hm2
     rw [List.length_map,List.length_map]
     refine (callsIn_wide.1 (edge_in 3 (Nat.le_refl _) _ _ _ l f1 f2 f3 _ _ _ q q2 q3 w (row_blk hc f1 hr) (ptsAt_of hc hr) (row_blk hc q1 hr2) (ptsAt_of hc hr2))).mono ?_
     rintro e w' ⟨rfl,hb⟩
     exact ⟨_,rfl,K,Q,sim_below hc hb rfl,fun _ _ _ h=>h,.int _ _⟩
 · cases h
end Gs
namespace Gs
open Go Go.Sort Go.Proofs
theorem insN_perm' (x:Int):∀ l,(insN x l).Perm (x :: l)
 | []=>.refl _
 | y :: r=>by
   unfold insN
   cases decide (y < x) with
   | true=>exact ((insN_perm' x r).cons y).trans (.swap x y r)
   | false=>exact .refl _
theorem sortN_perm':∀ l,(sortN l).Perm l
 | []=>.refl _
 | x :: r=>(insN_perm' x _).trans ((sortN_perm' r).cons x)
theorem insN_sorted' {x:Int} : ∀ {l:List Int},l.Pairwise (·≤·)→(insN x l).Pairwise (·≤·)
 | [],_=>by simp [insN]
 | y :: r,h=>by
   have h':=List.pairwise_cons.1 h
   unfold insN
   cases hd:decide (y < x) with
   | true=>
     have hlt:=of_decide_eq_true hd
     refine List.pairwise_cons.2 ⟨fun z hz=>?_,insN_sorted' h'.2⟩
     rcases List.mem_cons.1 ((insN_perm' x r).mem_iff.1 hz) with rfl | hz
     · omega
     · exact h'.1 z hz
   | false=>
     have hlt:=of_decide_eq_false hd
     refine List.pairwise_cons.2 ⟨fun z hz=>?_,h⟩
     rcases List.mem_cons.1 hz with rfl | hz
     · omega
     · have:=h'.1 z hz; omega
theorem sortN_sorted':∀ l,(sortN l).Pairwise (·≤·)
 | []=>.nil
 | x :: r=>insN_sorted' (sortN_sorted' r)
theorem nums_sorted (l:List Int):l.mergeSort (fun x y=>decide (x≤y))=sortN l:=by
 have hp:(l.mergeSort (fun x y=>decide (x≤y))).Perm l:=List.mergeSort_perm _ _
 have hs:(l.mergeSort (fun x y=>decide (x≤y))).Pairwise (fun a b=>decide (a≤b)=true):=by
   apply List.pairwise_mergeSort
   · intro a b c h1 h2
     simp only [decide_eq_true_eq] at *
     omega
   · intro a b
     simp only [Bool.or_eq_true,decide_eq_true_eq]
     omega
 refine (hp.trans (sortN_perm' l).symm).eq_of_pairwise (le:=(·≤·)) (fun a b _ _ h1 h2=>by omega) (hs.imp fun h=>of_decide_eq_true h) (sortN_sorted' l)
theorem closedL_num:∀ l:List Int,closedL (l.map (.int .i64))=true
 | []=>rfl
 | x :: r=>by simp only [List.map_cons,closedL,closed,cond_true,closedL_num r]
theorem shaped_num (l:List Int):Shaped 1 (l.map (.int .i64)):=by
 intro d hd
 obtain ⟨s,_,rfl⟩:=List.mem_map.1 hd
 rfl
theorem gives_sortInt (args:List D)(H:Heap)(r:D)(H':Heap)(h:sortIntX args H=some (r,H')):Gives Tryz.prog 153 args H r H':=by
 refine ⟨⟨Tryz.f153,Tryz.func153,by kernel_rfl,by kernel_rfl⟩,fun K Q w avs hids hgl hc ha=>?_⟩
 have none_:∀ (p:Option Addr) (cap:Nat),Calls Tryz.prog 153 #[.slice p 0 cap] w fun e w'=>e = .returned (.tuple #[])∧w'=w:=fun p cap=>AnyM.slices_Sort_int_none Tryz.mInt p cap w
 unfold sortIntX at h
 split at h
 · rename_i _ b
   split at h<;>try (cases h; done)
   rename_i nz xs hrow
   split at h<;>try (cases h; done)
   rename_i l hl
   split at h<;>try (cases h; done)
   rename_i hlen
   have hlen:=of_decide_eq_true hlen
   injection h with h; injection h with h1 h2; subst h1; subst h2
   have hxs:=nums_eq hl
   subst hxs
   cases ha with
   | cons hv ht=>
   cases ht
   have hbo:=hc.blk b _ hrow
   have hsame:∀ c,hget (hset H b (.row nz 1 ([].map (D.int .i64)) 0 false)) c=hget H c→True:=fun _ _=>trivial
   have done_nil:l=[]→∀ e w',e=Ending.returned (.tuple #[])∧w'=w→∃ v,e = .returned v∧∃ K' Q',Sim ⟨w,Q⟩ K K' Q' (hset H b (.row nz 1 ((sortN l).map (.int .i64)) 0 false)) w'∧Le Q Q'∧Rel K' Q' (.tup []) v:=by
     rintro rfl e w' ⟨rfl,rfl⟩
     refine ⟨_,rfl,K,Q,(sim_of hc).congr (fun c=>?_),fun _ _ _ h=>h,ret_tup⟩
     rw [hget_hset]
     by_cases e:b=c
     · subst e; rw [if_pos rfl,hrow]; rfl
     · rw [if_neg e]
   cases hv with
   | owNil hk=>
     have hl0:l=[]:=by
       obtain ⟨_,_,_,h⟩:=hbo
       rcases h with ⟨_,h⟩ | ⟨B,base,vs,t,g1,_⟩
       · simpa using h
       · rw [hk] at g1; injection g1 with g1; injection g1 with g1 _; cases g1
     exact (none_ none 0).mono (done_nil hl0)
   | ow hk hle htot haa=>
     rename_i B base tot nz' esz' len cap a
     obtain ⟨hcl,hsh,_,h⟩:=hbo
     rcases h with ⟨g1,_⟩ | ⟨B',base',vs,t,g1,g2,g3,g4,g5,g6,g7⟩
     · rw [hk] at g1; injection g1 with g1; injection g1 with g1 _; cases g1
     have hk':=hk
     rw [g1] at hk'
     injection hk' with hk'; injection hk' with e1 e2; injection e1 with e1; injection e1 with e1 e3; injection e3 with e3 e4; injection e2 with e2; injection e2 with e2 e5; injection e5 with e5 e6
     subst e1; subst e3; subst e4; subst e5; subst e6
     rw [List.length_map] at *
     by_cases hz:l.length=0
     · have hl0:l=[]:=List.eq_nil_of_length_eq_zero hz
       rw [hz]
       exact (none_ (some a) cap).mono (done_nil hl0)
     · have hcap:cap≠0:=by omega
       have haB:=haa hcap
       subst haB
       have hBl:B' < w.heap.size:=(Array.getElem?_eq_some_iff.1 g3).1
       have hH:Holds (Value.int .i64) w B' base' l.toArray:=by
         intro j hj
         refine ⟨?_,frozen_no g3 _⟩
         have hj':j < l.length:=by simpa using hj
         obtain ⟨v,h1,h2,_⟩:=g5 j (.int .i64 l[j]) (by simp [List.getElem?_eq_getElem hj']) 0 (.int .i64 l[j]) rfl
         cases h2
         rw [cell_of_heap g3]
         rw [getElem!_pos _ j (by simpa using hj')]
         simp only [Nat.mul_one,Nat.add_zero] at h1
         rw [h1]; simp
       have hcon:=AnyM.slices_Sort_int Tryz.mInt B' base' cap l w hH hBl (by simpa using hlen)
       refine Calls.mono hcon ?_
       rintro e w' ⟨rfl,n,os,rfl⟩
       rw [nums_sorted,putRow_map]
       have hlen':(sortN l).length=l.length:=(sortN_perm' l).length_eq
       refine ⟨_,rfl,K,Q,row_turn hc hrow (by rw [List.length_map]; exact g1) g2 g3 (by rw [List.length_map]; exact g4) (by intro o ho; exact g6 o (by omega)) (fun _ _=>trivial) (by simp [hlen']) (closedL_num _) (shaped_num _) (by simp [hlen']) ?_ n os,fun _ _ _ h=>h,ret_tup⟩
       intro i d hd j c hcj
       rw [List.getElem?_map] at hd
       cases hsi:(sortN l)[i]? with
       | none=>rw [hsi] at hd; cases hd
       | some s0=>
         rw [hsi] at hd; injection hd with hd; subst hd
         have hj0:j=0∧c = .int .i64 s0:=by
           cases j with
           | zero=>injection hcj with hcj; exact ⟨rfl,hcj.symm⟩
           | succ j=>cases hcj
         obtain ⟨rfl,rfl⟩:=hj0
         refine ⟨.int .i64 s0,?_,.int _ _,rfl⟩
         simp [hsi]
 · rename_i nz' esz'
   injection h with h; injection h with h1 h2; subst h1; subst h2
   cases ha with
   | cons hv ht=>
   cases ht
   have fin:∀ e w',e=Ending.returned (.tuple #[])∧w'=w→∃ v,e = .returned v∧∃ K' Q',Sim ⟨w,Q⟩ K K' Q' H w'∧Le Q Q'∧Rel K' Q' (.tup []) v:=by
     rintro e w' ⟨rfl,rfl⟩
     exact ⟨_,rfl,K,Q,sim_of hc,fun _ _ _ h=>h,ret_tup⟩
   cases hv with
   | fzNil=>exact (none_ none 0).mono fin
   | fz hn _ _ _=>exact absurd rfl hn
 · cases h
end Gs
open Gs Go
namespace Tz
theorem ltBx_iff (x y:Six):ltBx x y=true↔x.2.2.1 < y.2.2.1∨x.2.2.1=y.2.2.1∧(x.2.1 < y.2.1∨x.2.1=y.2.1∧x.1 < y.1):=by
 unfold ltBx
 by_cases h1:x.2.2.1=y.2.2.1
 · rw [if_pos h1]
   by_cases h2:x.2.1=y.2.1
   · rw [if_pos h2,decide_eq_true_eq]; omega
   · rw [if_neg h2,decide_eq_true_eq]; omega
 · rw [if_neg h1,decide_eq_true_eq]; omega
theorem ltBx_swo:Sort.SWO ltBx where
 irrefl x:=by
   cases h:ltBx x x with
   | false=>rfl
   | true=>rw [ltBx_iff] at h; omega
 trans x y z h1 h2:=by rw [ltBx_iff] at *; omega
 ntrans x y z h1 h2:=by
   have e:∀ a b:Six,ltBx a b=false↔¬ (ltBx a b=true):=fun a b=>by cases ltBx a b<;>simp
   rw [e] at *
   rw [ltBx_iff] at *
   omega
theorem sortBx_all (l:List Six):(sortBx l).Perm l∧(sortBx l).Pairwise fun a b=>ltBx b a=false:=by
 have h:=Sort.pdq_sorts ltBx ltBx_swo l.toArray 0 l.length (Lib.bitLen l.length) true true (Nat.zero_le _) (by simp) (Or.inl rfl)
 obtain ⟨⟨hsz,_,hp⟩,hs⟩:=h
 have hsz':(Sort.pdq ltBx l.toArray 0 l.length (Lib.bitLen l.length) true true).size=l.length:=by simpa using hsz
 refine ⟨?_,?_⟩
 · have e1:∀ a:Array Six,a.size=l.length→a.extract 0 l.length=a:=fun a ha=>by rw [←ha]; exact Array.extract_size
   rw [e1 _ hsz',e1 _ (by simp)] at hp
   simpa [sortBx] using hp
 · unfold sortBx
   rw [List.pairwise_iff_getElem]
   intro i j hi hj hij
   simp only [Array.length_toList] at hi hj
   have h:=hs i j (Nat.zero_le _) hij (by omega)
   rw [getElem!_pos _ j hj,getElem!_pos _ i hi] at h
   simpa only [Array.getElem_toList] using h
end Tz
