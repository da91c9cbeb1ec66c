/- part X33; part X34; The comparison handed to slices.SortFunc; no conditions. -/
import Derived.Test.YtbdcbppmgbekoaaGreatX32
import Derived.Test.YtbdcbppmgbekoaaGreatX3toX31
set_option linter.all false
namespace Go.Proofs
open Go.RowKit
attribute [local go_sem] Oper.semAt_some
theorem gat_mem {q:Pts}{k:Nat}(h:k < q.length):Gs.gat q k∈q:=by
 simp [Gs.gat,h]
theorem gdiv_false {a b:Int×Int}{q:Pts}{k:Nat}(h:k < q.length)(hp:0 < Gs.gdet a b (Gs.gat q k)):Gs.gdiv a b q=false:=by
 unfold Gs.gdiv
 rw [List.any_eq_true.2 ⟨_,gat_mem h,decide_eq_true hp⟩]; rfl
theorem gdiv_true {a b:Int×Int}{q:Pts}(h:∀ j,j < q.length→Gs.gdet a b (Gs.gat q j)≤0):Gs.gdiv a b q=true:=by
 unfold Gs.gdiv
 rw [Bool.not_eq_true',List.any_eq_false]
 intro x hx
 obtain ⟨j,hj,rfl⟩:=List.mem_iff_getElem.1 hx
 have:=h j hj
 rw [show Gs.gat q j=q[j] by simp [Gs.gat,hj]] at this
 simp; omega
set_option maxRecDepth 100000 in
set_option maxHeartbeats 4000000 in
theorem divides_in (n:Nat)(a b:Int×Int)(ha:Gs.gok a=true)(hb:Gs.gok b=true)(bq off cap:Nat)(q:Pts)(hreach:q.length < 1000000)(hg:∀ k,k < q.length→Gs.gok (Gs.gat q k)=true)(w:World)(hbq:bq < w.heap.size)(hc:PtsAt w bq off q) :
   CallsIn Fence.wide n Tryz.prog 145 #[.agg #[.int .i64 a.1,.int .i64 a.2,.int .i64 b.1,.int .i64 b.2],.slice (some ⟨bq,off,none⟩) q.length cap] w fun e W'=>e = .returned (.bool (Gs.gdiv a b q))∧Below w.heap.size w W':=by
 refine callsIn_of_wp Tryz.func145 rfl trivial ?_ rfl
 simp only [Tryz.ntmps145,List.size_toArray,List.length_cons,List.length_nil,Nat.reduceAdd,Nat.reduceSub,Array.replicate_succ,Array.replicate_zero,List.push_toArray,List.append_toArray,List.nil_append,List.cons_append]
 gi_wp2
 gi_loopw [9] (fun i wr=>∃ k:Nat,k≤q.length∧i = .int .i64 k∧(∀ j,j < k→Gs.gdet a b (Gs.gat q j)≤0)∧wr.heap[w.heap.size]?=some (.cells #[.int .i64 a.1,.int .i64 a.2,.int .i64 b.1,.int .i64 b.2] 168 (0,0))∧Below w.heap.size w wr)
   (fun i _=>q.length - (intOf i).toNat)
 case atStart=>exact ⟨0,Nat.zero_le _,rfl,fun j h=>by omega,World.alloc_heap_new w _,below_alloc _ _⟩
 case round=>
   obtain ⟨k,hk,rfl,hgd,hE,hnx⟩:=hrel
   have hP:=hc.below hnx hbq
   obtain ⟨e0,e1,e2,e3⟩:=cells4 hE
   by_cases hlt:k < q.length
   · have c1:=hP.x k hlt
     have c2:=hP.y k hlt
     have hE':=(Array.getElem?_eq_some_iff.1 hE).1
     have hbq':bq < wr.heap.size:=by have:=hnx.size; omega
     gi_wp2_with (refine ⟨trivial,fun h=>(by cases h),(cross_b _ _ _ _ _ (gokB ha) (gokB hb) (gokB (hg _ hlt))).mono ?_⟩; rintro e W2 ⟨rfl,hW2⟩)
     · have h2:Below wr.heap.size wr W2:=(below_alloc _ _).trans (hW2.mono (by simp))
       have hp:0 < Gs.gdet a b (Gs.gat q k):=by first | assumption | exact Int.not_le.1 (by assumption)
       go_ret
       refine ⟨?_,hnx.trans (h2.mono hnx.size)⟩
       rw [gdiv_false hlt hp]; rfl
     · have h2:Below wr.heap.size wr W2:=(below_alloc _ _).trans (hW2.mono (by simp))
       have hp:Gs.gdet a b (Gs.gat q k)≤0:=by first | assumption | exact Int.not_lt.1 (by assumption)
       go_roundw
       case rel=>exact ⟨k + 1,by omega,by simp,fun j hj=>by
         rcases Nat.lt_succ_iff_lt_or_eq.1 hj with h | rfl
         · exact hgd j h
         · exact hp,later_obj h2 hE,hnx.trans (h2.mono hnx.size)⟩
       case measure=>simp [intOf]; omega
   · obtain rfl:k=q.length:=by omega
     gi_wp2
     go_ret
     exact ⟨by rw [gdiv_true hgd]; rfl,hnx⟩
abbrev dvE (p q:Pts)(k:Nat):Bool:=Gs.gdiv (Gs.gat p k) (Gs.gat p (Gs.gnx p k)) q
structure InE (n₀:Nat) (sl:Value) (p q:Pts) (w:World) (pre:List Nat) (W:World):Prop where
 sl:Boxed W n₀ 61 sl
 res:Boxed W (n₀ + 1) 3 (.int .i64 0)
 good:∀ x∈pre,dvE p q (x % p.length)=false
 size:n₀ + 3≤W.heap.size
 below:Below n₀ w W
structure IxE (n₀:Nat) (p q:Pts) (w:World) (c:Code) (pre:List Nat) (W:World):Prop where
 ret:c = .ret
 bad:∃ ini last,pre=ini ++ [last]∧(∀ x∈ini,dvE p q (x % p.length)=false)∧dvE p q (last % p.length)=true∧Boxed W (n₀ + 1) 3 (.int .i64 ((last % p.length:Nat):Int))
 below:Below n₀ w W
structure AxE (n₀:Nat) (slp slq:Value) (p:Pts) (g:Value) (x:Nat) (a:Act) (W:World):Prop where
 box:∃ B,n₀ + 3≤B∧W.heap[B]?=some (sideO p (x % p.length))∧a = { tmps:=#[slp,slq,undef,.pointer (some ⟨n₀,0,none⟩),.pointer (some ⟨n₀ + 1,0,none⟩),.int .i64 ((x % p.length:Nat):Int),.pointer (some ⟨B,0,none⟩),slp,g,.int .i64 ((x % p.length:Nat):Int),sideV p (x % p.length),undef,undef,undef,undef],defers:=[] }
theorem inE_own {n₀ B:Nat}{sl:Value}{p q:Pts}{w:World}(hw:n₀≤w.heap.size)(hB:n₀≤B):OwnFrom B (InE n₀ sl p q w):=fun pre A C row hs hg hr=>
 ⟨(boxed_own (β:=Unit) n₀ 61 (fun _=>sl)).from B () A C row hs.sl hg hr,(boxed_own (β:=Unit) (n₀ + 1) 3 (fun _=>.int .i64 0)).from B () A C row hs.res hg hr,
  hs.good,Nat.le_trans hs.size hg.size,ownFrom_below (β:=Unit) hw hB () A C row hs.below hg hr⟩
theorem ixE_own {n₀ B:Nat}{p q:Pts}{w:World}(hw:n₀≤w.heap.size)(hB:n₀≤B)(c:Code):OwnFrom B (IxE n₀ p q w c):=fun pre A C row hs hg hr=>by
 obtain ⟨ini,last,h1,h2,h3,h4⟩:=hs.bad
 exact ⟨hs.ret,⟨ini,last,h1,h2,h3,(boxed_own (β:=Unit) (n₀ + 1) 3 (fun _=>.int .i64 ((last % p.length:Nat):Int))).from B () A C row h4 hg hr⟩,ownFrom_below (β:=Unit) hw hB () A C row hs.below hg hr⟩
theorem axE_own {n₀ B:Nat}{slp slq g:Value}{p:Pts}(x:Nat)(a:Act):OwnFrom B (fun (_:Unit) W=>AxE n₀ slp slq p g x a W):=fun s A C row hs hg hr=>by
 obtain ⟨B',h1,h2,h3⟩:=hs.box
 exact ⟨B',h1,(own_obj (β:=Unit) B' _ rfl).from B () A C row h2 hg hr,h3⟩
theorem inE_next {n₀:Nat}{sl:Value}{p q:Pts}{w W W':World}{pre:List Nat}{x:Nat}(hi:InE n₀ sl p q w pre W)(hL:Below W.heap.size W W')(hg:dvE p q (x % p.length)=false):InE n₀ sl p q w (pre ++ [x]) W':=
 ⟨later_obj hL hi.sl,later_obj hL hi.res,fun y hy=>by
   rcases List.mem_append.1 hy with h | h
   · exact hi.good y h
   · rw [List.mem_singleton.1 h]; exact hg,Nat.le_trans hi.size hL.size,hi.below.trans (hL.mono (by have:=hi.size; omega))⟩
theorem gedge_done {p q:Pts}(h:∀ x∈List.range p.length,dvE p q (x % p.length)=false):Gs.gedge p q = -1:=by
 have h1:(List.range p.length).find? (fun i=>Gs.gdiv (Gs.gat p i) (Gs.gat p (Gs.gnx p i)) q)=none:=by
   rw [List.find?_eq_none]
   intro x hx
   have:=h x hx
   rw [Nat.mod_eq_of_lt (List.mem_range.1 hx)] at this
   simpa [dvE] using this
 unfold Gs.gedge
 rw [h1]
theorem find_first {f:Nat→Bool} : ∀ {n k:Nat},k < n→(∀ j,j < k→f j=false)→f k=true→(List.range n).find? f=some k
 | n,k,hk,hj,hf=>by
   rw [List.find?_eq_some_iff_append]
   refine ⟨hf,List.range k,(List.range (n - k - 1)).map (fun j=>k + 1 + j),?_,fun a ha=>by rw [hj a (List.mem_range.1 ha)]; rfl⟩
   apply List.ext_getElem
   · simp; omega
   · intro i h1 h2
     simp only [List.getElem_range,List.getElem_append,List.length_range,List.getElem_cons,List.getElem_map]
     split
     · rfl
     · split<;>omega
theorem gedge_stop {p q:Pts}{k:Nat}(hk:k≤p.length){ini:List Nat}{last:Nat}(h1:List.range k=ini ++ [last])(h2:∀ x∈ini,dvE p q (x % p.length)=false)(h3:dvE p q (last % p.length)=true) :
   Gs.gedge p q=(last:Int)∧last % p.length=last:=by
 obtain ⟨k',rfl⟩:∃ k',k=k' + 1:=by
   cases k with
   | zero=>simp at h1
   | succ k'=>exact ⟨k',rfl⟩
 rw [List.range_succ] at h1
 obtain ⟨rfl,e5⟩:=List.append_inj' h1 rfl
 obtain rfl:k'=last:=by simpa using e5
 rw [Nat.mod_eq_of_lt (by omega)] at h3
 refine ⟨?_,Nat.mod_eq_of_lt (by omega)⟩
 unfold Gs.gedge
 rw [find_first (f:=fun i=>Gs.gdiv (Gs.gat p i) (Gs.gat p (Gs.gnx p i)) q) (k:=k') (by omega) (fun j hj=>by
   have:=h2 j (List.mem_range.2 hj)
   rwa [Nat.mod_eq_of_lt (by omega)] at this) h3]
set_option maxRecDepth 100000 in
set_option maxHeartbeats 4000000 in
theorem edge_in (n:Nat)(hn:3≤n)(b off cap:Nat)(p:Pts)(hp:0 < p.length)(hreach:p.length < 1000000)(hg:∀ k,k < p.length→Gs.gok (Gs.gat p k)=true)
   (b2 off2 cap2:Nat) (q:Pts) (hreach2:q.length < 1000000) (hg2:∀ k,k < q.length→Gs.gok (Gs.gat q k)=true) (w:World) (hb:b < w.heap.size) (hc:PtsAt w b off p) (hb2:b2 < w.heap.size) (hc2:PtsAt w b2 off2 q) :
   CallsIn Fence.wide n Tryz.prog 118 #[.slice (some ⟨b,off,none⟩) p.length cap,.slice (some ⟨b2,off2,none⟩) q.length cap2] w fun e W'=>e = .returned (.int .i64 (Gs.gedge p q))∧Below w.heap.size w W':=by
 have h1:1≤n:=by omega
 refine callsIn_of_wp_marks Tryz.func118 rfl trivial ?_ rfl
 simp only [Tryz.ntmps118,List.size_toArray,List.length_cons,List.length_nil,Nat.reduceAdd,Nat.reduceSub,Array.replicate_succ,Array.replicate_zero,List.push_toArray,List.append_toArray,List.nil_append,List.cons_append]
 gi_wp2_with (refine ⟨trivial,(edges_in Fence.wide (n - 1) trivial rfl _ _ _ _).mono ?_⟩; rintro e w' ⟨rfl,rfl⟩)
 have bS:=Boxed.new w 61 (.slice (some ⟨b2,off2,none⟩) q.length cap2)
 have bR:=Boxed.new (w.alloc (.cells #[.slice (some ⟨b2,off2,none⟩) q.length cap2] 61)) 3 (.int .i64 0)
 have bN:=Boxed.new ((w.alloc (.cells #[.slice (some ⟨b2,off2,none⟩) q.length cap2] 61)).alloc (.cells #[.int .i64 0] 3)) 61 (.slice (some ⟨b,off,none⟩) p.length cap)
 simp only [World.size_alloc] at bR bN
 have hB0:Below w.heap.size w (((w.alloc (.cells #[.slice (some ⟨b2,off2,none⟩) q.length cap2] 61)).alloc (.cells #[.int .i64 0] 3)).alloc (.cells #[.slice (some ⟨b,off,none⟩) p.length cap] 61)):=
   (((Below.refl _ w).alloc (Nat.le_refl _) _).alloc (by simp) _).alloc (by simp; omega) _
 refine wpIn_rangeFunc_ownH rfl h1 (gf:=162) (lb:=#[.pointer (some ⟨w.heap.size + 1 + 1,0,none⟩)]) rfl trivial (enters_of Tryz.func162 (by kernel_rfl) rfl)
   (edges_stops (n - 1) (by omega) (w.heap.size + 1 + 1) w.heap.size b off cap p hp hreach hb _ (by simp; omega) (by simp) bN.cell (hc.below hB0 hb))
   Kp2.trans (Kp2.put (by simp; omega) (by simp)) (Below.refl _ _) (fun _=>rfl)
   (InE w.heap.size (.slice (some ⟨b2,off2,none⟩) q.length cap2) p q w) (IxE w.heap.size p q w)
   (inE_own (Nat.le_refl _) (by simp; omega)) (ixE_own (Nat.le_refl _) (by simp; omega))
   ⟨(bS.alloc _).alloc _,bR.alloc _,fun _ h=>(by cases h),(by simp),hB0⟩
   (AxE w.heap.size (.slice (some ⟨b,off,none⟩) p.length cap) (.slice (some ⟨b2,off2,none⟩) q.length cap2) p (.func (.func 162) #[] #[.pointer (some ⟨w.heap.size + 1 + 1,0,none⟩)])) axE_own ?assign ?body ?done ?stop
 case assign=>
   intro l pre x W K hi hK
   simp only [rdV]
   generalize hk:x % p.length=k
   gi_wp2
   have hb:=below_alloc W (sideO p k)
   exact hK _ _ (later_keeps hb _) (later_kp hb (by have:=hi.size; omega) (by have:=hi.size; omega))
     ⟨hi.sl.alloc _,hi.res.alloc _,hi.good,by rw [World.size_alloc]; have:=hi.size; omega,hi.below.trans (hb.mono (by have:=hi.size; omega))⟩
     ⟨⟨W.heap.size,hi.size,by rw [hk]; exact World.alloc_heap_new W _,by rw [hk]⟩⟩
 case body=>
   rintro l pre x a' W hl hrec hi ⟨B,hB4,hBo,rfl⟩ hpl
   have hx:x % p.length < p.length:=Nat.mod_lt _ hp
   generalize hk:x % p.length=k at *
   obtain ⟨e0,e1,e2,e3⟩:=cells4 hBo
   have hx1:Gs.gnx p k < p.length:=Nat.mod_lt _ hp
   have s0:=hi.sl.cell
   have hsz:=hi.size
   have hc2':=hc2.below hi.below hb2
   gi_wp2_with (refine ⟨trivial,fun h=>(by cases h),(CallsIn.inRound l (divides_in _ _ _ (hg _ hx) (hg _ hx1) _ _ _ _ hreach2 hg2 _ (by omega) hc2')).mono ?_⟩; rintro e W2 ⟨rfl,hL2⟩; have r0:=Boxed.cell (later_obj hL2 hi.res); have r1:=Boxed.frozen (later_obj hL2 hi.res))
   · refine ⟨(later_keeps hL2 _).trans ((KeepsOthers.setCell _ _ _).from _),rfl,⟨pre,x,rfl,hi.good,?_,?_⟩,(hi.below.trans (hL2.mono (by omega))).setCell (p:=⟨w.heap.size + 1,0,none⟩) (Nat.le_succ _) _⟩
     · rw [hk]; assumption
     · rw [hk]; exact Boxed.set _ (later_obj hL2 hi.res)
   · refine ⟨later_keeps hL2 _,later_kp hL2 (by omega) (by omega),inE_next hi hL2 (by rw [hk]; first | assumption | exact Bool.eq_false_iff.2 (by assumption))⟩
 case done=>
   rintro D ys W hD rfl hi hK
   have r0:=hi.res.cell
   have r1:=hi.res.frozen
   gi_wp2
   have hK':=(KeepsOthers.setCell W ⟨w.heap.size + 1,0,none⟩ (.int .i64 (-1))).same D _ hK rfl
   refine ⟨by simp,.inl ⟨_,_,rfl,run_takeDeferred hK',?_⟩⟩
   have hc5:=cell_kept (World.cell?_setCell_same' W ⟨w.heap.size + 1,0,none⟩ (.int .i64 (-1)) (by rw [r0]; rfl)) (grownBy_putObj' _ D (.deferred none)) (fun r e=>by cases e; exact ⟨_,hK',rfl⟩)
   refine ⟨.int .i64 (-1),?_,by rw [gedge_done hi.good],(hi.below.setCell (p:=⟨w.heap.size + 1,0,none⟩) (by show w.heap.size≤w.heap.size + 1; omega) _).trans ⟨rfl,rfl,rfl,by simp [World.putObj],fun j hj=>World.putObj_heap_other (by simp at hD; omega)⟩⟩
   simp [results,Tryz.f118,go_sem,hc5]
 case stop=>
   rintro D c pre W hD ⟨k,hk,rfl⟩ hi hK
   obtain rfl:=hi.ret
   obtain ⟨ini,last,h1,h2,h3,h4⟩:=hi.bad
   obtain ⟨g1,g2⟩:=gedge_stop hk h1 h2 h3
   rw [g2] at h4
   have r0:=h4.cell
   gi_wp2
   refine ⟨by simp,.inl ⟨_,_,rfl,run_takeDeferred hK,?_⟩⟩
   have hc5:=cell_kept r0 (grownBy_putObj' _ D (.deferred none)) (fun r e=>by cases e; exact ⟨_,hK,rfl⟩)
   refine ⟨.int .i64 (last:Int),?_,by rw [g1],hi.below.trans ⟨rfl,rfl,rfl,by simp [World.putObj],fun j hj=>World.putObj_heap_other (by simp at hD; omega)⟩⟩
   simp [results,Tryz.f118,go_sem,hc5]
end Go.Proofs
namespace Gs
open Go Go.Proofs
variable [GlobTab]
theorem gat_get {l:List (Int×Int)}{j:Nat}(hj:j < l.length):gat l j=l[j]:=by simp [gat,hj]
theorem ptsAt_of {K:Km}{Q:Pm}{H:Heap}{w:World}(hc:Core K Q H w){B o:Nat}{l:List (Int×Int)}(h:RelRow K Q B o 2 (l.map fun q=>.agg [.int .i64 q.1,.int .i64 q.2])):PtsAt w B o l:=by
 have key:∀ j,j < l.length→Q B (o + j * 2)=some (.int .i64 (gat l j).1)∧Q B (o + j * 2 + 1)=some (.int .i64 (gat l j).2):=by
   intro j hj
   have h1:=(h.get (i:=j) (d:=.agg [.int .i64 (gat l j).1,.int .i64 (gat l j).2]) (by rw [List.getElem?_map,List.getElem?_eq_getElem hj,gat_get hj]; rfl)).2
   cases h1 with
   | cons hv _ hr ht=>
     cases hr
     cases ht with
     | cons hv2 _ hr2 ht2=>
       cases hr2
       exact ⟨hv,hv2⟩
 exact ⟨fun j hj=>(hc.val _ _ _ (key j hj).1).one rfl,fun j hj=>(hc.val _ _ _ (key j hj).2).one rfl⟩
theorem gfit_spec {l:List (Int×Int)}(h:gfit l=true):0 < l.length∧l.length < 1000000∧∀ k,k < l.length→gok (gat l k)=true:=by
 simp only [gfit,Bool.and_eq_true,decide_eq_true_eq] at h
 exact ⟨h.1.1,h.1.2,fun k hk=>List.all_eq_true.1 h.2 _ (by rw [gat_get hk]; exact List.getElem_mem hk)⟩
theorem row_blk {K:Km}{Q:Pm}{H:Heap}{w:World}(hc:Core K Q H w){B o:Nat}{l:List (Int×Int)}(h0:0 < l.length)(h:RelRow K Q B o 2 (l.map fun q=>.agg [.int .i64 q.1,.int .i64 q.2])):B < w.heap.size:=by
 exact lt_of_cell ((ptsAt_of hc h).x 0 h0)
theorem gives_convex (args:List D)(H:Heap)(r:D)(H':Heap)(h:convexX args H=some (r,H')):Gives Tryz.prog 143 args H r H':=by
 refine ⟨⟨Tryz.f143,Tryz.func143,by kernel_rfl,by kernel_rfl⟩,fun K Q w avs hids hgl hc ha=>?_⟩
 unfold convexX at h
 split at h
 · split at h<;>try (cases h; done)
   rename_i l hl
   split at h<;>try (cases h; done)
   rename_i hf
   injection h with h; injection h with h1 h2; subst h1; subst h2
   obtain ⟨f1,f2,f3⟩:=gfit_spec hf
   have hxs:=ptsD_eq hl
   subst hxs
   cases ha with
   | cons hv ht=>
   cases ht
   generalize hm:l.map (fun q=>D.agg [.int .i64 q.1,.int .i64 q.2])=xs at hv
   cases hv with
   | fzNil=>rw [List.map_eq_nil_iff] at hm; subst hm; simp at f1
   | fzE=>rw [List.map_eq_nil_iff] at hm; subst hm; simp at f1
   | fz hn hr hcp hx=>
     subst hm
     rw [List.length_map]
     refine (callsIn_wide.1 (convex_in 3 (Nat.le_refl _) _ _ _ l f1 f2 f3 w (row_blk hc f1 hr) (ptsAt_of hc hr))).mono ?_
     rintro e w' ⟨rfl,hb⟩
     exact ⟨_,rfl,K,Q,sim_below hc hb,fun _ _ _ h=>h,.bool _⟩
 · cases h
theorem gives_edge (args:List D)(H:Heap)(r:D)(H':Heap)(h:edgeX args H=some (r,H')):Gives Tryz.prog 118 args H r H':=by
 refine ⟨⟨Tryz.f118,Tryz.func118,by kernel_rfl,by kernel_rfl⟩,fun K Q w avs hids hgl hc ha=>?_⟩
 unfold edgeX at h
 split at h
 · split at h<;>try (cases h; done)
   rename_i l q hl hq
   split at h<;>try (cases h; done)
   rename_i hf
   injection h with h; injection h with h1 h2; subst h1; subst h2
   rw [Bool.and_eq_true] at hf
   obtain ⟨f1,f2,f3⟩:=gfit_spec hf.1
   obtain ⟨q1,q2,q3⟩:=gfit_spec hf.2
   have hxs:=ptsD_eq hl
   have hys:=ptsD_eq hq
   subst hxs; subst hys
   cases ha with
   | cons hv ht=>
   cases ht with
   | cons hv2 ht=>
   cases ht
   generalize hm:l.map (fun q=>D.agg [.int .i64 q.1,.int .i64 q.2])=xs at hv
   generalize hm2:q.map (fun q=>D.agg [.int .i64 q.1,.int .i64 q.2])=ys at hv2
   cases hv with
   | fzNil=>rw [List.map_eq_nil_iff] at hm; subst hm; simp at f1
   | fzE=>rw [List.map_eq_nil_iff] at hm; subst hm; simp at f1
   | fz hn hr hcp hx=>
   cases hv2 with
   | fzNil=>rw [List.map_eq_nil_iff] at hm2; subst hm2; simp at q1
   | fzE=>rw [List.map_eq_nil_iff] at hm2; subst hm2; simp at q1
   | fz hn2 hr2 hcp2 hx2=>
     subst hm; subst hm2
     rw [List.length_map,List.length_map]
     refine (callsIn_wide.1 (edge_in 3 (Nat.le_refl _) _ _ _ l f1 f2 f3 _ _ _ q q2 q3 w (row_blk hc f1 hr) (ptsAt_of hc hr) (row_blk hc q1 hr2) (ptsAt_of hc hr2))).mono ?_
     rintro e w' ⟨rfl,hb⟩
     exact ⟨_,rfl,K,Q,sim_below hc hb,fun _ _ _ h=>h,.int _ _⟩
 · cases h
end Gs
namespace Go.Proofs
open Go.Shelf Go.RowKit Go.Lib Go.Sort
def Tryz.encIv (x:Int×Int):List Value:=[.int .i64 x.1,.int .i64 x.2]
theorem Tryz.ltLo (x y:Int×Int):ltOf (fun x y:Int×Int=>Lib.compareInt x.1 y.1) x y=decide (x.1 < y.1):=by
 unfold ltOf Lib.compareInt
 by_cases h1:x.1 < y.1
 · simp [h1]
 · by_cases h2:y.1 < x.1<;>simp [h1,h2]
theorem Tryz.swoLo:SWO (ltOf fun x y:Int×Int=>Lib.compareInt x.1 y.1) where
 irrefl x:=by rw [Tryz.ltLo]; simp
 trans x y z h1 h2:=by rw [Tryz.ltLo] at *; simp at *; omega
 ntrans x y z h1 h2:=by rw [Tryz.ltLo] at *; simp at *; omega
set_option maxHeartbeats 1000000 in
theorem Tryz.closure95 (x y:Int×Int)(W:World):Calls Tryz.prog 95 #[.agg #[.int .i64 x.1,.int .i64 x.2],.agg #[.int .i64 y.1,.int .i64 y.2]] W fun e w'=>e = .returned (.int .i64 (Lib.compareInt x.1 y.1))∧∃ q os',w'=grow (W.drewN q) os':=by
 have hcon:=fun W'=>AnyG.cmp_Compare_int Tryz.cmpInt x.1 y.1 W'
 change ∀ W',Calls Tryz.prog 96 _ _ _ at hcon
 generalize Lib.compareInt x.1 y.1=r at hcon ⊢
 go_enter Tryz.func95,Tryz.ntmps95
 go_wp2_with (go_at_call 96; refine (hcon _).mono ?_; rintro e w' ⟨rfl,rfl⟩)
 go_ret
 exact ⟨rfl,0,_,by rw [alloc_eq_grow,alloc_eq_grow,grow_grow]; rfl⟩
theorem Tryz.cmpLays95 (blk off size:Nat)(w:World):CmpLays Tryz.prog 95 #[] Tryz.encIv 2 (fun x y=>Lib.compareInt x.1 y.1) blk off size w:=
 fun _ _ _ _ x y=>Tryz.closure95 x y _
end Go.Proofs
