/- part X32; no conditions. -/
import Derived.Test.YtogfagkjndoefaaGreatX3toX31
import Derived.Test.YtogfagkjndoefaaGreatX29b
import Derived.RangeFuncNested
set_option linter.all false
namespace Go.Proofs
open Go.RowKit
attribute [local go_sem] Oper.semAt_some
theorem gokB {a:Int×Int}(h:Gs.gok a=true) : -1000000≤a.1∧a.1≤1000000∧-1000000≤a.2∧a.2≤1000000:=by
 simp only [Gs.gok,Bool.and_eq_true,decide_eq_true_eq] at h
 exact ⟨h.1.1.1,h.1.1.2,h.1.2,h.2⟩
theorem cross_b (n:Nat)(a b c:Int×Int)(w:World)
   (ha : -1000000≤a.1∧a.1≤1000000∧-1000000≤a.2∧a.2≤1000000) (hb : -1000000≤b.1∧b.1≤1000000∧-1000000≤b.2∧b.2≤1000000) (hc : -1000000≤c.1∧c.1≤1000000∧-1000000≤c.2∧c.2≤1000000) :
   CallsIn Fence.wide n Tryz.prog 238 #[ptV a.1 a.2,ptV b.1 b.2,ptV c.1 c.2] w fun e w'=>e = .returned (.int .i64 (Gs.gdet a b c))∧Below w.heap.size w w':=
 (cross_in Fence.wide n trivial rfl _ _ _ _ _ _ w ha hb hc).mono fun e w' h=>⟨h.1,by
   rw [h.2]; exact (((Below.refl _ w).alloc (Nat.le_refl _) _).alloc (by simp) _).alloc (by simp; omega) _⟩
theorem upper_b (n:Nat)(a b:Int×Int)(w:World) :
   CallsIn Fence.wide n Tryz.prog 239 #[.agg #[.int .i64 a.1,.int .i64 a.2,.int .i64 b.1,.int .i64 b.2]] w fun e w'=>e = .returned (.bool (Gs.gup a b))∧Below w.heap.size w w':=
 (upper_in Fence.wide n trivial rfl a b w).mono fun e w' h=>⟨h.1,by rw [h.2]; exact (Below.refl _ w).alloc (Nat.le_refl _) _⟩
theorem later_obj {W W':World}(h:Below W.heap.size W W'){B:Nat}{o:Obj}(hB:W.heap[B]?=some o):W'.heap[B]?=some o:=
 (h.block B (Array.getElem?_eq_some_iff.1 hB).1).trans hB
theorem later_keeps {W W':World}(h:Below W.heap.size W W')(B:Nat):KeepsFrom B W W':=⟨h.size,fun k o _ hk _=>later_obj h hk⟩
theorem later_kp {W W':World}(h:Below W.heap.size W W'){n₀ Bs:Nat}(h1:n₀≤W.heap.size)(h2:Bs < W.heap.size):Kp2 n₀ Bs W W':=⟨h.mono h1,h.block Bs h2⟩
theorem cells4 {W:World}{B:Nat}{a b c d:Value}{t:TypeId}(h:W.heap[B]?=some (.cells #[a,b,c,d] t (0,0))) :
   W.cell? ⟨B,0,none⟩=some a∧W.cell? ⟨B,1,none⟩=some b∧W.cell? ⟨B,2,none⟩=some c∧W.cell? ⟨B,3,none⟩=some d:=by
 simp [World.cell?,h]
theorem below_alloc (W:World)(o:Obj):Below W.heap.size W (W.alloc o):=(Below.refl _ _).alloc (Nat.le_refl _) o
theorem own_obj {β:Type}(B:Nat)(o:Obj)(hc:o.isCells=true):Own (fun (_:β) W=>W.heap[B]?=some o):=fun s X Y row hs hg hr=>
 (hg.block B (Array.getElem?_eq_some_iff.1 hs).1 (fun e=>by obtain ⟨o',ho,hc'⟩:=hr B e.symm; rw [hs] at ho; cases ho; rw [hc] at hc'; cases hc')).trans hs
abbrev sideO (p:Pts)(k:Nat):Obj:=.cells #[.int .i64 (Gs.gat p k).1,.int .i64 (Gs.gat p k).2,.int .i64 (Gs.gat p (Gs.gnx p k)).1,.int .i64 (Gs.gat p (Gs.gnx p k)).2] 233
def cntS (p:Pts)(pre:List Nat):Nat:=(pre.filter fun x=>Gs.gsw p (x % p.length)).length
theorem cntS_le (p:Pts)(pre:List Nat):cntS p pre≤pre.length:=List.length_filter_le _ _
theorem cntS_snoc (p:Pts)(pre:List Nat)(x:Nat):cntS p (pre ++ [x])=cntS p pre + (if Gs.gsw p (x % p.length)=true then 1 else 0):=by
 unfold cntS
 rw [List.filter_append,List.length_append]
 by_cases h:Gs.gsw p (x % p.length)=true<;>simp [h]
theorem gconv_done {p:Pts}(h:∀ x∈List.range p.length,Gs.gbad p (x % p.length)=false):Gs.gconv p=((cntS p (List.range p.length):Int) == 1):=by
 have h1:(List.range p.length).any (Gs.gbad p)=false:=by
   rw [List.any_eq_false]
   intro x hx
   have:=h x hx
   rw [Nat.mod_eq_of_lt (List.mem_range.1 hx)] at this
   simp [this]
 have h2:(List.range p.length).filter (Gs.gsw p)=(List.range p.length).filter (fun x=>Gs.gsw p (x % p.length)):=
   List.filter_congr fun x hx=>by rw [Nat.mod_eq_of_lt (List.mem_range.1 hx)]
 unfold Gs.gconv cntS
 rw [h1,h2,Bool.eq_iff_iff]
 simp only [Bool.not_false,Bool.true_and,decide_eq_true_eq,beq_iff_eq]
 omega
theorem gconv_stop {p:Pts}{k:Nat}(hk:k≤p.length)(h:∃ ini last,List.range k=ini ++ [last]∧Gs.gbad p (last % p.length)=true):Gs.gconv p=false:=by
 obtain ⟨ini,last,h1,h2⟩:=h
 have hl:last∈List.range k:=by rw [h1]; simp
 have hlt:=List.mem_range.1 hl
 rw [Nat.mod_eq_of_lt (by omega)] at h2
 unfold Gs.gconv
 rw [List.any_eq_true.2 ⟨last,List.mem_range.2 (by omega),h2⟩]
 rfl
structure InC (n₀:Nat) (sl:Value) (p:Pts) (w:World) (pre:List Nat) (W:World):Prop where
 sl:Boxed W n₀ 78 sl
 res:Boxed W (n₀ + 1) 4 (.bool false)
 tur:Boxed W (n₀ + 1 + 1) 3 (.int .i64 (cntS p pre:Int))
 good:∀ x∈pre,Gs.gbad p (x % p.length)=false
 size:n₀ + 4≤W.heap.size
 below:Below n₀ w W
structure IxC (n₀:Nat) (p:Pts) (w:World) (c:Code) (pre:List Nat) (W:World):Prop where
 ret:c = .ret
 bad:∃ ini last,pre=ini ++ [last]∧Gs.gbad p (last % p.length)=true
 res:Boxed W (n₀ + 1) 4 (.bool false)
 below:Below n₀ w W
structure AxC (n₀:Nat) (sl:Value) (p:Pts) (g:Value) (x:Nat) (a:Act) (W:World):Prop where
 box:∃ B,n₀ + 4≤B∧W.heap[B]?=some (sideO p (x % p.length))∧a = { tmps:=#[sl,.pointer (some ⟨n₀,0,none⟩),.pointer (some ⟨n₀ + 1,0,none⟩),.pointer (some ⟨n₀ + 1 + 1,0,none⟩),.int .i64 ((x % p.length:Nat):Int),.pointer (some ⟨B,0,none⟩),undef,sl,g,.int .i64 ((x % p.length:Nat):Int),sideV p (x % p.length),undef,undef,undef,undef,undef,undef,undef,undef,undef,undef,undef,undef,undef,undef,undef,undef,undef,undef,undef,undef,undef,undef,undef,undef,undef,undef,undef,undef,undef,undef],defers:=[] }
theorem inC_own {n₀ B:Nat}{sl:Value}{p:Pts}{w:World}(hw:n₀≤w.heap.size)(hB:n₀≤B):OwnFrom B (InC n₀ sl p w):=fun pre A C row hs hg hr=>
 ⟨(boxed_own (β:=Unit) n₀ 78 (fun _=>sl)).from B () A C row hs.sl hg hr,(boxed_own (β:=Unit) (n₀ + 1) 4 (fun _=>.bool false)).from B () A C row hs.res hg hr,
  (boxed_own (β:=Unit) (n₀ + 1 + 1) 3 (fun _=>.int .i64 (cntS p pre:Int))).from B () A C row hs.tur hg hr,hs.good,Nat.le_trans hs.size hg.size,ownFrom_below (β:=Unit) hw hB () A C row hs.below hg hr⟩
theorem ixC_own {n₀ B:Nat}{p:Pts}{w:World}(hw:n₀≤w.heap.size)(hB:n₀≤B)(c:Code):OwnFrom B (IxC n₀ p w c):=fun pre A C row hs hg hr=>
 ⟨hs.ret,hs.bad,(boxed_own (β:=Unit) (n₀ + 1) 4 (fun _=>.bool false)).from B () A C row hs.res hg hr,ownFrom_below (β:=Unit) hw hB () A C row hs.below hg hr⟩
theorem axC_own {n₀ B:Nat}{sl g:Value}{p:Pts}(x:Nat)(a:Act):OwnFrom B (fun (_:Unit) W=>AxC n₀ sl p g x a W):=fun s A C row hs hg hr=>by
 obtain ⟨B',h1,h2,h3⟩:=hs.box
 exact ⟨B',h1,(own_obj (β:=Unit) B' _ rfl).from B () A C row h2 hg hr,h3⟩
theorem inC_next {n₀:Nat}{sl:Value}{p:Pts}{w W W':World}{pre:List Nat}{x:Nat}(hi:InC n₀ sl p w pre W)(hL:Below W.heap.size W W')(hg:Gs.gbad p (x % p.length)=false)(hs:Gs.gsw p (x % p.length)=false):InC n₀ sl p w (pre ++ [x]) W':=
 ⟨later_obj hL hi.sl,later_obj hL hi.res,by have h:=later_obj hL hi.tur; rw [cntS_snoc,hs]; exact h,fun y hy=>by
   rcases List.mem_append.1 hy with h | h
   · exact hi.good y h
   · rw [List.mem_singleton.1 h]; exact hg,Nat.le_trans hi.size hL.size,hi.below.trans (hL.mono (by have:=hi.size; omega))⟩
theorem inC_sw {n₀:Nat}{sl v:Value}{p:Pts}{w W W':World}{pre:List Nat}{x:Nat}(hi:InC n₀ sl p w pre W)(hL:Below W.heap.size W W')(hg:Gs.gbad p (x % p.length)=false)(hs:Gs.gsw p (x % p.length)=true)
   (hv:v = .int .i64 ((cntS p pre:Int) + 1)):InC n₀ sl p w (pre ++ [x]) (W'.setCell ⟨n₀ + 1 + 1,0,none⟩ v):=
 ⟨Boxed.other (later_obj hL hi.sl) (by omega) _,Boxed.other (later_obj hL hi.res) (by omega) _,by
   have h:=Boxed.set v (later_obj hL hi.tur)
   rw [cntS_snoc,hs]; rw [hv] at h ⊢; exact h,fun y hy=>by
   rcases List.mem_append.1 hy with h | h
   · exact hi.good y h
   · rw [List.mem_singleton.1 h]; exact hg,by
   have h1:=hi.size; have h2:=hL.size
   have h3:=(Below.refl 0 W').setCell (p:=⟨n₀ + 1 + 1,0,none⟩) (Nat.zero_le _) v
   have:=h3.size; omega,(hi.below.trans (hL.mono (by have:=hi.size; omega))).setCell (p:=⟨n₀ + 1 + 1,0,none⟩) (by show n₀≤n₀ + 1 + 1; omega) v⟩
set_option maxRecDepth 100000 in
set_option maxHeartbeats 4000000 in
theorem convex_in (n:Nat)(hn:3≤n)(b off cap:Nat)(p:Pts)(hp:0 < p.length)(hreach:p.length < 1000000)(hg:∀ k,k < p.length→Gs.gok (Gs.gat p k)=true)(w:World)(hb:b < w.heap.size)(hc:PtsAt w b off p) :
    CallsIn Fence.wide n Tryz.prog 223 #[.slice (some ⟨b,off,none⟩) p.length cap] w fun e W'=>e = .returned (.bool (Gs.gconv p))∧Below w.heap.size w W':=by
  have h1:1≤n:=by omega
  refine callsIn_of_wp_marks Tryz.func223 rfl trivial ?_ rfl
  simp only [Tryz.ntmps223,List.size_toArray,List.length_cons,List.length_nil,Nat.reduceAdd,Nat.reduceSub,Array.replicate_succ,Array.replicate_zero,List.push_toArray,List.append_toArray,List.nil_append,List.cons_append]
  gi_wp2_with (refine ⟨trivial,(edges_in Fence.wide (n - 1) trivial rfl _ _ _ _).mono ?_⟩; rintro e w' ⟨rfl,rfl⟩)
  have bS:=Boxed.new w 78 (.slice (some ⟨b,off,none⟩) p.length cap)
  have bR:=Boxed.new (w.alloc (.cells #[.slice (some ⟨b,off,none⟩) p.length cap] 78)) 4 (.bool false)
  have bT:=Boxed.new ((w.alloc (.cells #[.slice (some ⟨b,off,none⟩) p.length cap] 78)).alloc (.cells #[.bool false] 4)) 3 (.int .i64 0)
  have bN:=Boxed.new (((w.alloc (.cells #[.slice (some ⟨b,off,none⟩) p.length cap] 78)).alloc (.cells #[.bool false] 4)).alloc (.cells #[.int .i64 0] 3)) 78 (.slice (some ⟨b,off,none⟩) p.length cap)
  simp only [World.size_alloc] at bR bT bN
  have hB0:Below w.heap.size w ((((w.alloc (.cells #[.slice (some ⟨b,off,none⟩) p.length cap] 78)).alloc (.cells #[.bool false] 4)).alloc (.cells #[.int .i64 0] 3)).alloc (.cells #[.slice (some ⟨b,off,none⟩) p.length cap] 78)):=
    ((((Below.refl _ w).alloc (Nat.le_refl _) _).alloc (by simp) _).alloc (by simp; omega) _).alloc (by simp; omega) _
  refine wpIn_rangeFunc_ownH rfl h1 (gf:=240) (lb:=#[.pointer (some ⟨w.heap.size + 1 + 1 + 1,0,none⟩)]) rfl trivial (enters_of Tryz.func240 (by kernel_rfl) rfl)
    (edges_stops (n - 1) (by omega) (w.heap.size + 1 + 1 + 1) w.heap.size b off cap p hp hreach hb _ (by simp; omega) (by simp) bN.cell (hc.below hB0 hb))
    Kp2.trans (Kp2.put (by simp; omega) (by simp)) (Below.refl _ _) (fun _=>rfl)
    (InC w.heap.size (.slice (some ⟨b,off,none⟩) p.length cap) p w) (IxC w.heap.size p w)
    (inC_own (Nat.le_refl _) (by simp; omega)) (ixC_own (Nat.le_refl _) (by simp; omega))
    ⟨((bS.alloc _).alloc _).alloc _,(bR.alloc _).alloc _,bT.alloc _,fun _ h=>(by cases h),(by simp),hB0⟩
    (AxC w.heap.size (.slice (some ⟨b,off,none⟩) p.length cap) p (.func (.func 240) #[] #[.pointer (some ⟨w.heap.size + 1 + 1 + 1,0,none⟩)])) axC_own ?assign ?body ?done ?stop
  case assign=>
    intro l pre x W K hi hK
    simp only [rdV]
    generalize hk:x % p.length=k
    gi_wp2
    have hb:=below_alloc W (sideO p k)
    exact hK _ _ (later_keeps hb _) (later_kp hb (by have:=hi.size; omega) (by have:=hi.size; omega))
      ⟨hi.sl.alloc _,hi.res.alloc _,hi.tur.alloc _,hi.good,by rw [World.size_alloc]; have:=hi.size; omega,hi.below.trans (hb.mono (by have:=hi.size; omega))⟩
      ⟨⟨W.heap.size,hi.size,by rw [hk]; exact World.alloc_heap_new W _,by rw [hk]⟩⟩
  case body =>
    rintro l pre x a' W hl hrec hi ⟨B,hB4,hBo,rfl⟩ hpl
    have hx:x % p.length < p.length:=Nat.mod_lt _ hp
    generalize hk:x % p.length=k at *
    obtain ⟨e0,e1,e2,e3⟩:=cells4 hBo
    have s0:=hi.sl.cell
    have r0:=hi.res.cell
    have r1:=hi.res.frozen
    have t0:=hi.tur.cell
    have t1:=hi.tur.frozen
    have hP:=hc.below hi.below hb
    have hsz:=hi.size
    have z1:b < W.heap.size:=by omega
    have z2:B < W.heap.size:=(Array.getElem?_eq_some_iff.1 hBo).1
    have z3:w.heap.size < W.heap.size:=by omega
    have z4:w.heap.size + 1 < W.heap.size:=by omega
    have z5:w.heap.size + 1 + 1 < W.heap.size:=by omega
    have mixed:Tryz.prog.follows .mixedOrders=true:=by kernel_rfl
    have hq:Gs.gnx p (Gs.gnx p k) < p.length:=Nat.mod_lt _ hp
    have c3:=hP.x _ hq
    have c4:=hP.y _ hq
    have hne:¬ (p.length:Int)=0:=by omega
    have hne2:((p.length:Int)=0)=False:=eq_false hne
    have hne3:¬ p.length=0:=by omega
    have hwr:IntKind.i64.wrap ((k:Int) + 2)=(k:Int) + 2:=IntWalk.i64_in _ (by omega)
    have ht:((k:Int) + 2).tmod (p.length:Int)=(Gs.gnx p (Gs.gnx p k):Int):=by
      rw [show (k:Int) + 2=((k + 2:Nat):Int) by omega,show Gs.gnx p (Gs.gnx p k)=(k + 2) % p.length by simp [Gs.gnx,Nat.add_assoc]]
      exact (Int.ofNat_tmod _ _).symm
    have ht0:(0:Int)≤((k:Int) + 2).tmod (p.length:Int):=by rw [ht]; omega
    have ht1:((k:Int) + 2).tmod (p.length:Int) < (p.length:Int):=by rw [ht]; omega
    have ht2:(((k:Int) + 2).tmod (p.length:Int)).toNat=Gs.gnx p (Gs.gnx p k):=by rw [ht]; rfl
    gi_wp2
    refine wpIn_mono (Q:=fun e a' w'=>match e with | .normal=>(a' = { tmps:=#[.slice (some ⟨b,off,none⟩) p.length cap,.pointer (some ⟨w.heap.size,0,none⟩),.pointer (some ⟨w.heap.size + 1,0,none⟩),.pointer (some ⟨w.heap.size + 1 + 1,0,none⟩),.int .i64 (k:Int),.pointer (some ⟨B,0,none⟩),.pointer (some ⟨W.heap.size,0,none⟩),.slice (some ⟨b,off,none⟩) p.length cap,.func (.func 240) #[] #[.pointer (some ⟨w.heap.size + 1 + 1 + 1,0,none⟩)],.int .i64 (k:Int),sideV p k,
        .pointer (some ⟨B,2,none⟩),ptV (Gs.gat p (Gs.gnx p k)).1 (Gs.gat p (Gs.gnx p k)).2,.slice (some ⟨b,off,none⟩) p.length cap,.int .i64 (k:Int),.int .i64 ((k:Int) + 2),.slice (some ⟨b,off,none⟩) p.length cap,.int .i64 (p.length:Int),.int .i64 (Gs.gnx p (Gs.gnx p k):Int),.pointer (some ⟨b,off + Gs.gnx p (Gs.gnx p k) * 2,none⟩),ptV (Gs.gat p (Gs.gnx p (Gs.gnx p k))).1 (Gs.gat p (Gs.gnx p (Gs.gnx p k))).2,sideV p (Gs.gnx p k),
        undef,undef,undef,undef,undef,undef,undef,undef,undef,undef,undef,undef,undef,undef,undef,undef,undef,undef,undef],defers:=[] }∧w'=W.drew.alloc (sideO p (Gs.gnx p k))) | _=>False) (region_round mixed (by kernel_rfl) ?_) ?_
    · skip
      refine wpAnyIn_take (i:=0) (v:=?v1) rfl rfl (by kernel_rfl) (by kernel_rfl) (by kernel_rfl) (fun _ _ _ h=>h) ⟨Or.inl ⟨by rfl,?hy1⟩,fun _=>rfl⟩ ?rest1
      case hy1=>(intro w; go_simp; try with_reducible rfl)
      case rest1 =>
       refine wpAnyIn_take (i:=3) (v:=?v2) rfl rfl (by kernel_rfl) (by kernel_rfl) (by kernel_rfl) (fun _ _ _ h=>h) ⟨Or.inl ⟨by rfl,?hy2⟩,fun _=>rfl⟩ ?rest2
       case hy2=>(intro w; go_simp; try with_reducible rfl)
       case rest2 =>
        refine wpAnyIn_take (i:=4) (v:=?v3) rfl rfl (by kernel_rfl) (by kernel_rfl) (by kernel_rfl) (fun _ _ _ h=>h) ⟨Or.inl ⟨by rfl,?hy3⟩,fun _=>rfl⟩ ?rest3
        case hy3=>(intro w; go_simp; try with_reducible rfl)
        case rest3 =>
         refine wpAnyIn_ready (rs:=[1,2,5,11]) (by kernel_rfl) (by simp) ?_
         refine AllReadyIn.cons rfl (fun K hK=>?k4_1) (AllReadyIn.cons rfl (fun K hK=>?k4_2) (AllReadyIn.cons rfl (fun K hK=>?k4_5) (AllReadyIn.cons rfl (fun K hK=>?k4_11) (AllReadyIn.nil))))
         case k4_1 =>
          go_simp
          refine hK _ _ ?_
          clear hK K
          refine wpAnyIn_ready (rs:=[2,5,11]) (by kernel_rfl) (by simp) ?_
          refine AllReadyIn.cons rfl (fun K hK=>?k5_2) (AllReadyIn.cons rfl (fun K hK=>?k5_5) (AllReadyIn.cons rfl (fun K hK=>?k5_11) (AllReadyIn.nil)))
          case k5_2=>
           go_simp
           refine hK _ _ ?_
           clear hK K
           refine wpAnyIn_ready (rs:=[5,11]) (by kernel_rfl) (by simp) ?_
           refine AllReadyIn.cons rfl (fun K hK=>?k6_5) (AllReadyIn.cons rfl (fun K hK=>?k6_11) (AllReadyIn.nil))
           case k6_5=>
            go_simp
            refine hK _ _ ?_
            clear hK K
            refine wpAnyIn_take (i:=6) (v:=?v7) rfl rfl (by kernel_rfl) (by kernel_rfl) (by kernel_rfl) (fun _ _ _ h=>h) ⟨Or.inl ⟨by rfl,?hy7⟩,fun _=>rfl⟩ ?rest7
            case hy7=>(intro w; go_simp; try with_reducible rfl)
            case rest7=>
             refine wpAnyIn_take (i:=7) (v:=?v8) rfl rfl (by kernel_rfl) (by kernel_rfl) (by kernel_rfl) (fun _ _ _ h=>h) ⟨Or.inl ⟨by rfl,?hy8⟩,fun _=>rfl⟩ ?rest8
             case hy8=>(intro w; go_simp; try with_reducible rfl)
             case rest8=>
              refine wpAnyIn_take (i:=8) (v:=?v9) rfl rfl (by kernel_rfl) (by kernel_rfl) (by kernel_rfl) (fun _ _ _ h=>h) ⟨Or.inl ⟨by rfl,?hy9⟩,fun _=>rfl⟩ ?rest9
              case hy9=>(intro w; go_simp; try with_reducible rfl)
              case rest9=>
               refine wpAnyIn_ready (rs:=[9,11]) (by kernel_rfl) (by simp) ?_
               refine AllReadyIn.cons rfl (fun K hK=>?k10_9) (AllReadyIn.cons rfl (fun K hK=>?k10_11) (AllReadyIn.nil))
               case k10_9=>
                go_simp
                refine hK _ _ ?_
                clear hK K
                refine wpAnyIn_take (i:=10) (v:=?v11) rfl rfl (by kernel_rfl) (by kernel_rfl) (by kernel_rfl) (fun _ _ _ h=>h) ⟨Or.inl ⟨by rfl,?hy11⟩,fun _=>rfl⟩ ?rest11
                case hy11=>(intro w; go_simp; try with_reducible rfl)
                case rest11=>
                 refine wpAnyIn_ready (rs:=[11]) (by kernel_rfl) (by simp) ?_
                 refine AllReadyIn.cons rfl (fun K hK=>?k12_11) (AllReadyIn.nil)
                 case k12_11=>
                  go_simp
                  refine hK _ _ ?_
                  clear hK K
                  refine wpAnyIn_ready (rs:=[12]) (by kernel_rfl) (by simp) ?_
                  refine AllReadyIn.cons rfl (fun K hK=>?k13_12) (AllReadyIn.nil)
                  case k13_12=>
                   go_simp
                   refine hK _ _ ?_
                   clear hK K
                   refine wpAnyIn_done (by kernel_rfl) ?_ _
                   exact ⟨rfl,rfl⟩
               case k10_11=>
                go_simp
                refine hK _ _ ?_
                clear hK K
                refine wpAnyIn_ready (rs:=[9]) (by kernel_rfl) (by simp) ?_
                refine AllReadyIn.cons rfl (fun K hK=>?k14_9) (AllReadyIn.nil)
                case k14_9=>
                 go_simp
                 refine hK _ _ ?_
                 clear hK K
                 refine wpAnyIn_take (i:=10) (v:=?v15) rfl rfl (by kernel_rfl) (by kernel_rfl) (by kernel_rfl) (fun _ _ _ h=>h) ⟨Or.inl ⟨by rfl,?hy15⟩,fun _=>rfl⟩ ?rest15
                 case hy15=>(intro w; go_simp; try with_reducible rfl)
                 case rest15=>
                  refine wpAnyIn_ready (rs:=[12]) (by kernel_rfl) (by simp) ?_
                  refine AllReadyIn.cons rfl (fun K hK=>?k16_12) (AllReadyIn.nil)
                  case k16_12=>
                   go_simp
                   refine hK _ _ ?_
                   clear hK K
                   refine wpAnyIn_done (by kernel_rfl) ?_ _
                   exact ⟨rfl,rfl⟩
           case k6_11=>
            go_simp
            refine hK _ _ ?_
            clear hK K
            refine wpAnyIn_ready (rs:=[5]) (by kernel_rfl) (by simp) ?_
            refine AllReadyIn.cons rfl (fun K hK=>?k17_5) (AllReadyIn.nil)
            case k17_5=>
             go_simp
             refine hK _ _ ?_
             clear hK K
             refine wpAnyIn_take (i:=6) (v:=?v18) rfl rfl (by kernel_rfl) (by kernel_rfl) (by kernel_rfl) (fun _ _ _ h=>h) ⟨Or.inl ⟨by rfl,?hy18⟩,fun _=>rfl⟩ ?rest18
             case hy18=>(intro w; go_simp; try with_reducible rfl)
             case rest18=>
              refine wpAnyIn_take (i:=7) (v:=?v19) rfl rfl (by kernel_rfl) (by kernel_rfl) (by kernel_rfl) (fun _ _ _ h=>h) ⟨Or.inl ⟨by rfl,?hy19⟩,fun _=>rfl⟩ ?rest19
              case hy19=>(intro w; go_simp; try with_reducible rfl)
              case rest19=>
               refine wpAnyIn_take (i:=8) (v:=?v20) rfl rfl (by kernel_rfl) (by kernel_rfl) (by kernel_rfl) (fun _ _ _ h=>h) ⟨Or.inl ⟨by rfl,?hy20⟩,fun _=>rfl⟩ ?rest20
               case hy20=>(intro w; go_simp; try with_reducible rfl)
               case rest20=>
                refine wpAnyIn_ready (rs:=[9]) (by kernel_rfl) (by simp) ?_
                refine AllReadyIn.cons rfl (fun K hK=>?k21_9) (AllReadyIn.nil)
                case k21_9=>
                 go_simp
                 refine hK _ _ ?_
                 clear hK K
                 refine wpAnyIn_take (i:=10) (v:=?v22) rfl rfl (by kernel_rfl) (by kernel_rfl) (by kernel_rfl) (fun _ _ _ h=>h) ⟨Or.inl ⟨by rfl,?hy22⟩,fun _=>rfl⟩ ?rest22
                 case hy22=>(intro w; go_simp; try with_reducible rfl)
                 case rest22=>
                  refine wpAnyIn_ready (rs:=[12]) (by kernel_rfl) (by simp) ?_
                  refine AllReadyIn.cons rfl (fun K hK=>?k23_12) (AllReadyIn.nil)
                  case k23_12=>
                   go_simp
                   refine hK _ _ ?_
                   clear hK K
                   refine wpAnyIn_done (by kernel_rfl) ?_ _
                   exact ⟨rfl,rfl⟩
          case k5_5=>
           go_simp
           refine hK _ _ ?_
           clear hK K
           refine wpAnyIn_take (i:=6) (v:=?v24) rfl rfl (by kernel_rfl) (by kernel_rfl) (by kernel_rfl) (fun _ _ _ h=>h) ⟨Or.inl ⟨by rfl,?hy24⟩,fun _=>rfl⟩ ?rest24
           case hy24=>(intro w; go_simp; try with_reducible rfl)
           case rest24=>
            refine wpAnyIn_take (i:=7) (v:=?v25) rfl rfl (by kernel_rfl) (by kernel_rfl) (by kernel_rfl) (fun _ _ _ h=>h) ⟨Or.inl ⟨by rfl,?hy25⟩,fun _=>rfl⟩ ?rest25
            case hy25=>(intro w; go_simp; try with_reducible rfl)
            case rest25=>
             refine wpAnyIn_ready (rs:=[2,11]) (by kernel_rfl) (by simp) ?_
             refine AllReadyIn.cons rfl (fun K hK=>?k26_2) (AllReadyIn.cons rfl (fun K hK=>?k26_11) (AllReadyIn.nil))
             case k26_2=>
              go_simp
              refine hK _ _ ?_
              clear hK K
              refine wpAnyIn_take (i:=8) (v:=?v27) rfl rfl (by kernel_rfl) (by kernel_rfl) (by kernel_rfl) (fun _ _ _ h=>h) ⟨Or.inl ⟨by rfl,?hy27⟩,fun _=>rfl⟩ ?rest27
              case hy27=>(intro w; go_simp; try with_reducible rfl)
              case rest27=>
               refine wpAnyIn_ready (rs:=[9,11]) (by kernel_rfl) (by simp) ?_
               refine AllReadyIn.cons rfl (fun K hK=>?k28_9) (AllReadyIn.cons rfl (fun K hK=>?k28_11) (AllReadyIn.nil))
               case k28_9=>
                go_simp
                refine hK _ _ ?_
                clear hK K
                refine wpAnyIn_take (i:=10) (v:=?v29) rfl rfl (by kernel_rfl) (by kernel_rfl) (by kernel_rfl) (fun _ _ _ h=>h) ⟨Or.inl ⟨by rfl,?hy29⟩,fun _=>rfl⟩ ?rest29
                case hy29=>(intro w; go_simp; try with_reducible rfl)
                case rest29=>
                 refine wpAnyIn_ready (rs:=[11]) (by kernel_rfl) (by simp) ?_
                 refine AllReadyIn.cons rfl (fun K hK=>?k30_11) (AllReadyIn.nil)
                 case k30_11=>
                  go_simp
                  refine hK _ _ ?_
                  clear hK K
                  refine wpAnyIn_ready (rs:=[12]) (by kernel_rfl) (by simp) ?_
                  refine AllReadyIn.cons rfl (fun K hK=>?k31_12) (AllReadyIn.nil)
                  case k31_12=>
                   go_simp
                   refine hK _ _ ?_
                   clear hK K
                   refine wpAnyIn_done (by kernel_rfl) ?_ _
                   exact ⟨rfl,rfl⟩
               case k28_11=>
                go_simp
                refine hK _ _ ?_
                clear hK K
                refine wpAnyIn_ready (rs:=[9]) (by kernel_rfl) (by simp) ?_
                refine AllReadyIn.cons rfl (fun K hK=>?k32_9) (AllReadyIn.nil)
                case k32_9=>
                 go_simp
                 refine hK _ _ ?_
                 clear hK K
                 refine wpAnyIn_take (i:=10) (v:=?v33) rfl rfl (by kernel_rfl) (by kernel_rfl) (by kernel_rfl) (fun _ _ _ h=>h) ⟨Or.inl ⟨by rfl,?hy33⟩,fun _=>rfl⟩ ?rest33
                 case hy33=>(intro w; go_simp; try with_reducible rfl)
                 case rest33=>
                  refine wpAnyIn_ready (rs:=[12]) (by kernel_rfl) (by simp) ?_
                  refine AllReadyIn.cons rfl (fun K hK=>?k34_12) (AllReadyIn.nil)
                  case k34_12=>
                   go_simp
                   refine hK _ _ ?_
                   clear hK K
                   refine wpAnyIn_done (by kernel_rfl) ?_ _
                   exact ⟨rfl,rfl⟩
             case k26_11=>
              go_simp
              refine hK _ _ ?_
              clear hK K
              refine wpAnyIn_ready (rs:=[2]) (by kernel_rfl) (by simp) ?_
              refine AllReadyIn.cons rfl (fun K hK=>?k35_2) (AllReadyIn.nil)
              case k35_2=>
               go_simp
               refine hK _ _ ?_
               clear hK K
               refine wpAnyIn_take (i:=8) (v:=?v36) rfl rfl (by kernel_rfl) (by kernel_rfl) (by kernel_rfl) (fun _ _ _ h=>h) ⟨Or.inl ⟨by rfl,?hy36⟩,fun _=>rfl⟩ ?rest36
               case hy36=>(intro w; go_simp; try with_reducible rfl)
               case rest36=>
                refine wpAnyIn_ready (rs:=[9]) (by kernel_rfl) (by simp) ?_
                refine AllReadyIn.cons rfl (fun K hK=>?k37_9) (AllReadyIn.nil)
                case k37_9=>
                 go_simp
                 refine hK _ _ ?_
                 clear hK K
                 refine wpAnyIn_take (i:=10) (v:=?v38) rfl rfl (by kernel_rfl) (by kernel_rfl) (by kernel_rfl) (fun _ _ _ h=>h) ⟨Or.inl ⟨by rfl,?hy38⟩,fun _=>rfl⟩ ?rest38
                 case hy38=>(intro w; go_simp; try with_reducible rfl)
                 case rest38=>
                  refine wpAnyIn_ready (rs:=[12]) (by kernel_rfl) (by simp) ?_
                  refine AllReadyIn.cons rfl (fun K hK=>?k39_12) (AllReadyIn.nil)
                  case k39_12=>
                   go_simp
                   refine hK _ _ ?_
                   clear hK K
                   refine wpAnyIn_done (by kernel_rfl) ?_ _
                   exact ⟨rfl,rfl⟩
          case k5_11=>
           go_simp
           refine hK _ _ ?_
           clear hK K
           refine wpAnyIn_ready (rs:=[2,5]) (by kernel_rfl) (by simp) ?_
           refine AllReadyIn.cons rfl (fun K hK=>?k40_2) (AllReadyIn.cons rfl (fun K hK=>?k40_5) (AllReadyIn.nil))
           case k40_2=>
            go_simp
            refine hK _ _ ?_
            clear hK K
            refine wpAnyIn_ready (rs:=[5]) (by kernel_rfl) (by simp) ?_
            refine AllReadyIn.cons rfl (fun K hK=>?k41_5) (AllReadyIn.nil)
            case k41_5=>
             go_simp
             refine hK _ _ ?_
             clear hK K
             refine wpAnyIn_take (i:=6) (v:=?v42) rfl rfl (by kernel_rfl) (by kernel_rfl) (by kernel_rfl) (fun _ _ _ h=>h) ⟨Or.inl ⟨by rfl,?hy42⟩,fun _=>rfl⟩ ?rest42
             case hy42=>(intro w; go_simp; try with_reducible rfl)
             case rest42=>
              refine wpAnyIn_take (i:=7) (v:=?v43) rfl rfl (by kernel_rfl) (by kernel_rfl) (by kernel_rfl) (fun _ _ _ h=>h) ⟨Or.inl ⟨by rfl,?hy43⟩,fun _=>rfl⟩ ?rest43
              case hy43=>(intro w; go_simp; try with_reducible rfl)
              case rest43=>
               refine wpAnyIn_take (i:=8) (v:=?v44) rfl rfl (by kernel_rfl) (by kernel_rfl) (by kernel_rfl) (fun _ _ _ h=>h) ⟨Or.inl ⟨by rfl,?hy44⟩,fun _=>rfl⟩ ?rest44
               case hy44=>(intro w; go_simp; try with_reducible rfl)
               case rest44=>
                refine wpAnyIn_ready (rs:=[9]) (by kernel_rfl) (by simp) ?_
                refine AllReadyIn.cons rfl (fun K hK=>?k45_9) (AllReadyIn.nil)
                case k45_9=>
                 go_simp
                 refine hK _ _ ?_
                 clear hK K
                 refine wpAnyIn_take (i:=10) (v:=?v46) rfl rfl (by kernel_rfl) (by kernel_rfl) (by kernel_rfl) (fun _ _ _ h=>h) ⟨Or.inl ⟨by rfl,?hy46⟩,fun _=>rfl⟩ ?rest46
                 case hy46=>(intro w; go_simp; try with_reducible rfl)
                 case rest46=>
                  refine wpAnyIn_ready (rs:=[12]) (by kernel_rfl) (by simp) ?_
                  refine AllReadyIn.cons rfl (fun K hK=>?k47_12) (AllReadyIn.nil)
                  case k47_12=>
                   go_simp
                   refine hK _ _ ?_
                   clear hK K
                   refine wpAnyIn_done (by kernel_rfl) ?_ _
                   exact ⟨rfl,rfl⟩
           case k40_5=>
            go_simp
            refine hK _ _ ?_
            clear hK K
            refine wpAnyIn_take (i:=6) (v:=?v48) rfl rfl (by kernel_rfl) (by kernel_rfl) (by kernel_rfl) (fun _ _ _ h=>h) ⟨Or.inl ⟨by rfl,?hy48⟩,fun _=>rfl⟩ ?rest48
            case hy48=>(intro w; go_simp; try with_reducible rfl)
            case rest48=>
             refine wpAnyIn_take (i:=7) (v:=?v49) rfl rfl (by kernel_rfl) (by kernel_rfl) (by kernel_rfl) (fun _ _ _ h=>h) ⟨Or.inl ⟨by rfl,?hy49⟩,fun _=>rfl⟩ ?rest49
             case hy49=>(intro w; go_simp; try with_reducible rfl)
             case rest49=>
              refine wpAnyIn_ready (rs:=[2]) (by kernel_rfl) (by simp) ?_
              refine AllReadyIn.cons rfl (fun K hK=>?k50_2) (AllReadyIn.nil)
              case k50_2=>
               go_simp
               refine hK _ _ ?_
               clear hK K
               refine wpAnyIn_take (i:=8) (v:=?v51) rfl rfl (by kernel_rfl) (by kernel_rfl) (by kernel_rfl) (fun _ _ _ h=>h) ⟨Or.inl ⟨by rfl,?hy51⟩,fun _=>rfl⟩ ?rest51
               case hy51=>(intro w; go_simp; try with_reducible rfl)
               case rest51=>
                refine wpAnyIn_ready (rs:=[9]) (by kernel_rfl) (by simp) ?_
                refine AllReadyIn.cons rfl (fun K hK=>?k52_9) (AllReadyIn.nil)
                case k52_9=>
                 go_simp
                 refine hK _ _ ?_
                 clear hK K
                 refine wpAnyIn_take (i:=10) (v:=?v53) rfl rfl (by kernel_rfl) (by kernel_rfl) (by kernel_rfl) (fun _ _ _ h=>h) ⟨Or.inl ⟨by rfl,?hy53⟩,fun _=>rfl⟩ ?rest53
                 case hy53=>(intro w; go_simp; try with_reducible rfl)
                 case rest53=>
                  refine wpAnyIn_ready (rs:=[12]) (by kernel_rfl) (by simp) ?_
                  refine AllReadyIn.cons rfl (fun K hK=>?k54_12) (AllReadyIn.nil)
                  case k54_12=>
                   go_simp
                   refine hK _ _ ?_
                   clear hK K
                   refine wpAnyIn_done (by kernel_rfl) ?_ _
                   exact ⟨rfl,rfl⟩
         case k4_2 =>
          go_simp
          refine hK _ _ ?_
          clear hK K
          refine wpAnyIn_ready (rs:=[1,5,11]) (by kernel_rfl) (by simp) ?_
          refine AllReadyIn.cons rfl (fun K hK=>?k55_1) (AllReadyIn.cons rfl (fun K hK=>?k55_5) (AllReadyIn.cons rfl (fun K hK=>?k55_11) (AllReadyIn.nil)))
          case k55_1=>
           go_simp
           refine hK _ _ ?_
           clear hK K
           refine wpAnyIn_ready (rs:=[5,11]) (by kernel_rfl) (by simp) ?_
           refine AllReadyIn.cons rfl (fun K hK=>?k56_5) (AllReadyIn.cons rfl (fun K hK=>?k56_11) (AllReadyIn.nil))
           case k56_5=>
            go_simp
            refine hK _ _ ?_
            clear hK K
            refine wpAnyIn_take (i:=6) (v:=?v57) rfl rfl (by kernel_rfl) (by kernel_rfl) (by kernel_rfl) (fun _ _ _ h=>h) ⟨Or.inl ⟨by rfl,?hy57⟩,fun _=>rfl⟩ ?rest57
            case hy57=>(intro w; go_simp; try with_reducible rfl)
            case rest57=>
             refine wpAnyIn_take (i:=7) (v:=?v58) rfl rfl (by kernel_rfl) (by kernel_rfl) (by kernel_rfl) (fun _ _ _ h=>h) ⟨Or.inl ⟨by rfl,?hy58⟩,fun _=>rfl⟩ ?rest58
             case hy58=>(intro w; go_simp; try with_reducible rfl)
             case rest58=>
              refine wpAnyIn_take (i:=8) (v:=?v59) rfl rfl (by kernel_rfl) (by kernel_rfl) (by kernel_rfl) (fun _ _ _ h=>h) ⟨Or.inl ⟨by rfl,?hy59⟩,fun _=>rfl⟩ ?rest59
              case hy59=>(intro w; go_simp; try with_reducible rfl)
              case rest59=>
               refine wpAnyIn_ready (rs:=[9,11]) (by kernel_rfl) (by simp) ?_
               refine AllReadyIn.cons rfl (fun K hK=>?k60_9) (AllReadyIn.cons rfl (fun K hK=>?k60_11) (AllReadyIn.nil))
               case k60_9=>
                go_simp
                refine hK _ _ ?_
                clear hK K
                refine wpAnyIn_take (i:=10) (v:=?v61) rfl rfl (by kernel_rfl) (by kernel_rfl) (by kernel_rfl) (fun _ _ _ h=>h) ⟨Or.inl ⟨by rfl,?hy61⟩,fun _=>rfl⟩ ?rest61
                case hy61=>(intro w; go_simp; try with_reducible rfl)
                case rest61=>
                 refine wpAnyIn_ready (rs:=[11]) (by kernel_rfl) (by simp) ?_
                 refine AllReadyIn.cons rfl (fun K hK=>?k62_11) (AllReadyIn.nil)
                 case k62_11=>
                  go_simp
                  refine hK _ _ ?_
                  clear hK K
                  refine wpAnyIn_ready (rs:=[12]) (by kernel_rfl) (by simp) ?_
                  refine AllReadyIn.cons rfl (fun K hK=>?k63_12) (AllReadyIn.nil)
                  case k63_12=>
                   go_simp
                   refine hK _ _ ?_
                   clear hK K
                   refine wpAnyIn_done (by kernel_rfl) ?_ _
                   exact ⟨rfl,rfl⟩
               case k60_11=>
                go_simp
                refine hK _ _ ?_
                clear hK K
                refine wpAnyIn_ready (rs:=[9]) (by kernel_rfl) (by simp) ?_
                refine AllReadyIn.cons rfl (fun K hK=>?k64_9) (AllReadyIn.nil)
                case k64_9=>
                 go_simp
                 refine hK _ _ ?_
                 clear hK K
                 refine wpAnyIn_take (i:=10) (v:=?v65) rfl rfl (by kernel_rfl) (by kernel_rfl) (by kernel_rfl) (fun _ _ _ h=>h) ⟨Or.inl ⟨by rfl,?hy65⟩,fun _=>rfl⟩ ?rest65
                 case hy65=>(intro w; go_simp; try with_reducible rfl)
                 case rest65=>
                  refine wpAnyIn_ready (rs:=[12]) (by kernel_rfl) (by simp) ?_
                  refine AllReadyIn.cons rfl (fun K hK=>?k66_12) (AllReadyIn.nil)
                  case k66_12=>
                   go_simp
                   refine hK _ _ ?_
                   clear hK K
                   refine wpAnyIn_done (by kernel_rfl) ?_ _
                   exact ⟨rfl,rfl⟩
           case k56_11=>
            go_simp
            refine hK _ _ ?_
            clear hK K
            refine wpAnyIn_ready (rs:=[5]) (by kernel_rfl) (by simp) ?_
            refine AllReadyIn.cons rfl (fun K hK=>?k67_5) (AllReadyIn.nil)
            case k67_5=>
             go_simp
             refine hK _ _ ?_
             clear hK K
             refine wpAnyIn_take (i:=6) (v:=?v68) rfl rfl (by kernel_rfl) (by kernel_rfl) (by kernel_rfl) (fun _ _ _ h=>h) ⟨Or.inl ⟨by rfl,?hy68⟩,fun _=>rfl⟩ ?rest68
             case hy68=>(intro w; go_simp; try with_reducible rfl)
             case rest68=>
              refine wpAnyIn_take (i:=7) (v:=?v69) rfl rfl (by kernel_rfl) (by kernel_rfl) (by kernel_rfl) (fun _ _ _ h=>h) ⟨Or.inl ⟨by rfl,?hy69⟩,fun _=>rfl⟩ ?rest69
              case hy69=>(intro w; go_simp; try with_reducible rfl)
              case rest69=>
               refine wpAnyIn_take (i:=8) (v:=?v70) rfl rfl (by kernel_rfl) (by kernel_rfl) (by kernel_rfl) (fun _ _ _ h=>h) ⟨Or.inl ⟨by rfl,?hy70⟩,fun _=>rfl⟩ ?rest70
               case hy70=>(intro w; go_simp; try with_reducible rfl)
               case rest70=>
                refine wpAnyIn_ready (rs:=[9]) (by kernel_rfl) (by simp) ?_
                refine AllReadyIn.cons rfl (fun K hK=>?k71_9) (AllReadyIn.nil)
                case k71_9=>
                 go_simp
                 refine hK _ _ ?_
                 clear hK K
                 refine wpAnyIn_take (i:=10) (v:=?v72) rfl rfl (by kernel_rfl) (by kernel_rfl) (by kernel_rfl) (fun _ _ _ h=>h) ⟨Or.inl ⟨by rfl,?hy72⟩,fun _=>rfl⟩ ?rest72
                 case hy72=>(intro w; go_simp; try with_reducible rfl)
                 case rest72=>
                  refine wpAnyIn_ready (rs:=[12]) (by kernel_rfl) (by simp) ?_
                  refine AllReadyIn.cons rfl (fun K hK=>?k73_12) (AllReadyIn.nil)
                  case k73_12=>
                   go_simp
                   refine hK _ _ ?_
                   clear hK K
                   refine wpAnyIn_done (by kernel_rfl) ?_ _
                   exact ⟨rfl,rfl⟩
          case k55_5=>
           go_simp
           refine hK _ _ ?_
           clear hK K
           refine wpAnyIn_take (i:=6) (v:=?v74) rfl rfl (by kernel_rfl) (by kernel_rfl) (by kernel_rfl) (fun _ _ _ h=>h) ⟨Or.inl ⟨by rfl,?hy74⟩,fun _=>rfl⟩ ?rest74
           case hy74=>(intro w; go_simp; try with_reducible rfl)
           case rest74=>
            refine wpAnyIn_take (i:=7) (v:=?v75) rfl rfl (by kernel_rfl) (by kernel_rfl) (by kernel_rfl) (fun _ _ _ h=>h) ⟨Or.inl ⟨by rfl,?hy75⟩,fun _=>rfl⟩ ?rest75
            case hy75=>(intro w; go_simp; try with_reducible rfl)
            case rest75=>
             refine wpAnyIn_take (i:=8) (v:=?v76) rfl rfl (by kernel_rfl) (by kernel_rfl) (by kernel_rfl) (fun _ _ _ h=>h) ⟨Or.inl ⟨by rfl,?hy76⟩,fun _=>rfl⟩ ?rest76
             case hy76=>(intro w; go_simp; try with_reducible rfl)
             case rest76=>
              refine wpAnyIn_ready (rs:=[1,9,11]) (by kernel_rfl) (by simp) ?_
              refine AllReadyIn.cons rfl (fun K hK=>?k77_1) (AllReadyIn.cons rfl (fun K hK=>?k77_9) (AllReadyIn.cons rfl (fun K hK=>?k77_11) (AllReadyIn.nil)))
              case k77_1=>
               go_simp
               refine hK _ _ ?_
               clear hK K
               refine wpAnyIn_ready (rs:=[9,11]) (by kernel_rfl) (by simp) ?_
               refine AllReadyIn.cons rfl (fun K hK=>?k78_9) (AllReadyIn.cons rfl (fun K hK=>?k78_11) (AllReadyIn.nil))
               case k78_9=>
                go_simp
                refine hK _ _ ?_
                clear hK K
                refine wpAnyIn_take (i:=10) (v:=?v79) rfl rfl (by kernel_rfl) (by kernel_rfl) (by kernel_rfl) (fun _ _ _ h=>h) ⟨Or.inl ⟨by rfl,?hy79⟩,fun _=>rfl⟩ ?rest79
                case hy79=>(intro w; go_simp; try with_reducible rfl)
                case rest79=>
                 refine wpAnyIn_ready (rs:=[11]) (by kernel_rfl) (by simp) ?_
                 refine AllReadyIn.cons rfl (fun K hK=>?k80_11) (AllReadyIn.nil)
                 case k80_11=>
                  go_simp
                  refine hK _ _ ?_
                  clear hK K
                  refine wpAnyIn_ready (rs:=[12]) (by kernel_rfl) (by simp) ?_
                  refine AllReadyIn.cons rfl (fun K hK=>?k81_12) (AllReadyIn.nil)
                  case k81_12=>
                   go_simp
                   refine hK _ _ ?_
                   clear hK K
                   refine wpAnyIn_done (by kernel_rfl) ?_ _
                   exact ⟨rfl,rfl⟩
               case k78_11=>
                go_simp
                refine hK _ _ ?_
                clear hK K
                refine wpAnyIn_ready (rs:=[9]) (by kernel_rfl) (by simp) ?_
                refine AllReadyIn.cons rfl (fun K hK=>?k82_9) (AllReadyIn.nil)
                case k82_9=>
                 go_simp
                 refine hK _ _ ?_
                 clear hK K
                 refine wpAnyIn_take (i:=10) (v:=?v83) rfl rfl (by kernel_rfl) (by kernel_rfl) (by kernel_rfl) (fun _ _ _ h=>h) ⟨Or.inl ⟨by rfl,?hy83⟩,fun _=>rfl⟩ ?rest83
                 case hy83=>(intro w; go_simp; try with_reducible rfl)
                 case rest83=>
                  refine wpAnyIn_ready (rs:=[12]) (by kernel_rfl) (by simp) ?_
                  refine AllReadyIn.cons rfl (fun K hK=>?k84_12) (AllReadyIn.nil)
                  case k84_12=>
                   go_simp
                   refine hK _ _ ?_
                   clear hK K
                   refine wpAnyIn_done (by kernel_rfl) ?_ _
                   exact ⟨rfl,rfl⟩
              case k77_9=>
               go_simp
               refine hK _ _ ?_
               clear hK K
               refine wpAnyIn_ready (rs:=[1,11]) (by kernel_rfl) (by simp) ?_
               refine AllReadyIn.cons rfl (fun K hK=>?k85_1) (AllReadyIn.cons rfl (fun K hK=>?k85_11) (AllReadyIn.nil))
               case k85_1=>
                go_simp
                refine hK _ _ ?_
                clear hK K
                refine wpAnyIn_take (i:=10) (v:=?v86) rfl rfl (by kernel_rfl) (by kernel_rfl) (by kernel_rfl) (fun _ _ _ h=>h) ⟨Or.inl ⟨by rfl,?hy86⟩,fun _=>rfl⟩ ?rest86
                case hy86=>(intro w; go_simp; try with_reducible rfl)
                case rest86=>
                 refine wpAnyIn_ready (rs:=[11]) (by kernel_rfl) (by simp) ?_
                 refine AllReadyIn.cons rfl (fun K hK=>?k87_11) (AllReadyIn.nil)
                 case k87_11=>
                  go_simp
                  refine hK _ _ ?_
                  clear hK K
                  refine wpAnyIn_ready (rs:=[12]) (by kernel_rfl) (by simp) ?_
                  refine AllReadyIn.cons rfl (fun K hK=>?k88_12) (AllReadyIn.nil)
                  case k88_12=>
                   go_simp
                   refine hK _ _ ?_
                   clear hK K
                   refine wpAnyIn_done (by kernel_rfl) ?_ _
                   exact ⟨rfl,rfl⟩
               case k85_11=>
                go_simp
                refine hK _ _ ?_
                clear hK K
                refine wpAnyIn_ready (rs:=[1]) (by kernel_rfl) (by simp) ?_
                refine AllReadyIn.cons rfl (fun K hK=>?k89_1) (AllReadyIn.nil)
                case k89_1=>
                 go_simp
                 refine hK _ _ ?_
                 clear hK K
                 refine wpAnyIn_take (i:=10) (v:=?v90) rfl rfl (by kernel_rfl) (by kernel_rfl) (by kernel_rfl) (fun _ _ _ h=>h) ⟨Or.inl ⟨by rfl,?hy90⟩,fun _=>rfl⟩ ?rest90
                 case hy90=>(intro w; go_simp; try with_reducible rfl)
                 case rest90=>
                  refine wpAnyIn_ready (rs:=[12]) (by kernel_rfl) (by simp) ?_
                  refine AllReadyIn.cons rfl (fun K hK=>?k91_12) (AllReadyIn.nil)
                  case k91_12=>
                   go_simp
                   refine hK _ _ ?_
                   clear hK K
                   refine wpAnyIn_done (by kernel_rfl) ?_ _
                   exact ⟨rfl,rfl⟩
              case k77_11=>
               go_simp
               refine hK _ _ ?_
               clear hK K
               refine wpAnyIn_ready (rs:=[1,9]) (by kernel_rfl) (by simp) ?_
               refine AllReadyIn.cons rfl (fun K hK=>?k92_1) (AllReadyIn.cons rfl (fun K hK=>?k92_9) (AllReadyIn.nil))
               case k92_1=>
                go_simp
                refine hK _ _ ?_
                clear hK K
                refine wpAnyIn_ready (rs:=[9]) (by kernel_rfl) (by simp) ?_
                refine AllReadyIn.cons rfl (fun K hK=>?k93_9) (AllReadyIn.nil)
                case k93_9=>
                 go_simp
                 refine hK _ _ ?_
                 clear hK K
                 refine wpAnyIn_take (i:=10) (v:=?v94) rfl rfl (by kernel_rfl) (by kernel_rfl) (by kernel_rfl) (fun _ _ _ h=>h) ⟨Or.inl ⟨by rfl,?hy94⟩,fun _=>rfl⟩ ?rest94
                 case hy94=>(intro w; go_simp; try with_reducible rfl)
                 case rest94=>
                  refine wpAnyIn_ready (rs:=[12]) (by kernel_rfl) (by simp) ?_
                  refine AllReadyIn.cons rfl (fun K hK=>?k95_12) (AllReadyIn.nil)
                  case k95_12=>
                   go_simp
                   refine hK _ _ ?_
                   clear hK K
                   refine wpAnyIn_done (by kernel_rfl) ?_ _
                   exact ⟨rfl,rfl⟩
               case k92_9=>
                go_simp
                refine hK _ _ ?_
                clear hK K
                refine wpAnyIn_ready (rs:=[1]) (by kernel_rfl) (by simp) ?_
                refine AllReadyIn.cons rfl (fun K hK=>?k96_1) (AllReadyIn.nil)
                case k96_1=>
                 go_simp
                 refine hK _ _ ?_
                 clear hK K
                 refine wpAnyIn_take (i:=10) (v:=?v97) rfl rfl (by kernel_rfl) (by kernel_rfl) (by kernel_rfl) (fun _ _ _ h=>h) ⟨Or.inl ⟨by rfl,?hy97⟩,fun _=>rfl⟩ ?rest97
                 case hy97=>(intro w; go_simp; try with_reducible rfl)
                 case rest97=>
                  refine wpAnyIn_ready (rs:=[12]) (by kernel_rfl) (by simp) ?_
                  refine AllReadyIn.cons rfl (fun K hK=>?k98_12) (AllReadyIn.nil)
                  case k98_12=>
                   go_simp
                   refine hK _ _ ?_
                   clear hK K
                   refine wpAnyIn_done (by kernel_rfl) ?_ _
                   exact ⟨rfl,rfl⟩
          case k55_11=>
           go_simp
           refine hK _ _ ?_
           clear hK K
           refine wpAnyIn_ready (rs:=[1,5]) (by kernel_rfl) (by simp) ?_
           refine AllReadyIn.cons rfl (fun K hK=>?k99_1) (AllReadyIn.cons rfl (fun K hK=>?k99_5) (AllReadyIn.nil))
           case k99_1=>
            go_simp
            refine hK _ _ ?_
            clear hK K
            refine wpAnyIn_ready (rs:=[5]) (by kernel_rfl) (by simp) ?_
            refine AllReadyIn.cons rfl (fun K hK=>?k100_5) (AllReadyIn.nil)
            case k100_5=>
             go_simp
             refine hK _ _ ?_
             clear hK K
             refine wpAnyIn_take (i:=6) (v:=?v101) rfl rfl (by kernel_rfl) (by kernel_rfl) (by kernel_rfl) (fun _ _ _ h=>h) ⟨Or.inl ⟨by rfl,?hy101⟩,fun _=>rfl⟩ ?rest101
             case hy101=>(intro w; go_simp; try with_reducible rfl)
             case rest101=>
              refine wpAnyIn_take (i:=7) (v:=?v102) rfl rfl (by kernel_rfl) (by kernel_rfl) (by kernel_rfl) (fun _ _ _ h=>h) ⟨Or.inl ⟨by rfl,?hy102⟩,fun _=>rfl⟩ ?rest102
              case hy102=>(intro w; go_simp; try with_reducible rfl)
              case rest102=>
               refine wpAnyIn_take (i:=8) (v:=?v103) rfl rfl (by kernel_rfl) (by kernel_rfl) (by kernel_rfl) (fun _ _ _ h=>h) ⟨Or.inl ⟨by rfl,?hy103⟩,fun _=>rfl⟩ ?rest103
               case hy103=>(intro w; go_simp; try with_reducible rfl)
               case rest103=>
                refine wpAnyIn_ready (rs:=[9]) (by kernel_rfl) (by simp) ?_
                refine AllReadyIn.cons rfl (fun K hK=>?k104_9) (AllReadyIn.nil)
                case k104_9=>
                 go_simp
                 refine hK _ _ ?_
                 clear hK K
                 refine wpAnyIn_take (i:=10) (v:=?v105) rfl rfl (by kernel_rfl) (by kernel_rfl) (by kernel_rfl) (fun _ _ _ h=>h) ⟨Or.inl ⟨by rfl,?hy105⟩,fun _=>rfl⟩ ?rest105
                 case hy105=>(intro w; go_simp; try with_reducible rfl)
                 case rest105=>
                  refine wpAnyIn_ready (rs:=[12]) (by kernel_rfl) (by simp) ?_
                  refine AllReadyIn.cons rfl (fun K hK=>?k106_12) (AllReadyIn.nil)
                  case k106_12=>
                   go_simp
                   refine hK _ _ ?_
                   clear hK K
                   refine wpAnyIn_done (by kernel_rfl) ?_ _
                   exact ⟨rfl,rfl⟩
           case k99_5=>
            go_simp
            refine hK _ _ ?_
            clear hK K
            refine wpAnyIn_take (i:=6) (v:=?v107) rfl rfl (by kernel_rfl) (by kernel_rfl) (by kernel_rfl) (fun _ _ _ h=>h) ⟨Or.inl ⟨by rfl,?hy107⟩,fun _=>rfl⟩ ?rest107
            case hy107=>(intro w; go_simp; try with_reducible rfl)
            case rest107=>
             refine wpAnyIn_take (i:=7) (v:=?v108) rfl rfl (by kernel_rfl) (by kernel_rfl) (by kernel_rfl) (fun _ _ _ h=>h) ⟨Or.inl ⟨by rfl,?hy108⟩,fun _=>rfl⟩ ?rest108
             case hy108=>(intro w; go_simp; try with_reducible rfl)
             case rest108=>
              refine wpAnyIn_take (i:=8) (v:=?v109) rfl rfl (by kernel_rfl) (by kernel_rfl) (by kernel_rfl) (fun _ _ _ h=>h) ⟨Or.inl ⟨by rfl,?hy109⟩,fun _=>rfl⟩ ?rest109
              case hy109=>(intro w; go_simp; try with_reducible rfl)
              case rest109=>
               refine wpAnyIn_ready (rs:=[1,9]) (by kernel_rfl) (by simp) ?_
               refine AllReadyIn.cons rfl (fun K hK=>?k110_1) (AllReadyIn.cons rfl (fun K hK=>?k110_9) (AllReadyIn.nil))
               case k110_1=>
                go_simp
                refine hK _ _ ?_
                clear hK K
                refine wpAnyIn_ready (rs:=[9]) (by kernel_rfl) (by simp) ?_
                refine AllReadyIn.cons rfl (fun K hK=>?k111_9) (AllReadyIn.nil)
                case k111_9=>
                 go_simp
                 refine hK _ _ ?_
                 clear hK K
                 refine wpAnyIn_take (i:=10) (v:=?v112) rfl rfl (by kernel_rfl) (by kernel_rfl) (by kernel_rfl) (fun _ _ _ h=>h) ⟨Or.inl ⟨by rfl,?hy112⟩,fun _=>rfl⟩ ?rest112
                 case hy112=>(intro w; go_simp; try with_reducible rfl)
                 case rest112=>
                  refine wpAnyIn_ready (rs:=[12]) (by kernel_rfl) (by simp) ?_
                  refine AllReadyIn.cons rfl (fun K hK=>?k113_12) (AllReadyIn.nil)
                  case k113_12=>
                   go_simp
                   refine hK _ _ ?_
                   clear hK K
                   refine wpAnyIn_done (by kernel_rfl) ?_ _
                   exact ⟨rfl,rfl⟩
               case k110_9=>
                go_simp
                refine hK _ _ ?_
                clear hK K
                refine wpAnyIn_ready (rs:=[1]) (by kernel_rfl) (by simp) ?_
                refine AllReadyIn.cons rfl (fun K hK=>?k114_1) (AllReadyIn.nil)
                case k114_1=>
                 go_simp
                 refine hK _ _ ?_
                 clear hK K
                 refine wpAnyIn_take (i:=10) (v:=?v115) rfl rfl (by kernel_rfl) (by kernel_rfl) (by kernel_rfl) (fun _ _ _ h=>h) ⟨Or.inl ⟨by rfl,?hy115⟩,fun _=>rfl⟩ ?rest115
                 case hy115=>(intro w; go_simp; try with_reducible rfl)
                 case rest115=>
                  refine wpAnyIn_ready (rs:=[12]) (by kernel_rfl) (by simp) ?_
                  refine AllReadyIn.cons rfl (fun K hK=>?k116_12) (AllReadyIn.nil)
                  case k116_12=>
                   go_simp
                   refine hK _ _ ?_
                   clear hK K
                   refine wpAnyIn_done (by kernel_rfl) ?_ _
                   exact ⟨rfl,rfl⟩
         case k4_5 =>
          go_simp
          refine hK _ _ ?_
          clear hK K
          refine wpAnyIn_take (i:=6) (v:=?v117) rfl rfl (by kernel_rfl) (by kernel_rfl) (by kernel_rfl) (fun _ _ _ h=>h) ⟨Or.inl ⟨by rfl,?hy117⟩,fun _=>rfl⟩ ?rest117
          case hy117=>(intro w; go_simp; try with_reducible rfl)
          case rest117=>
           refine wpAnyIn_take (i:=7) (v:=?v118) rfl rfl (by kernel_rfl) (by kernel_rfl) (by kernel_rfl) (fun _ _ _ h=>h) ⟨Or.inl ⟨by rfl,?hy118⟩,fun _=>rfl⟩ ?rest118
           case hy118=>(intro w; go_simp; try with_reducible rfl)
           case rest118=>
            refine wpAnyIn_ready (rs:=[1,2,11]) (by kernel_rfl) (by simp) ?_
            refine AllReadyIn.cons rfl (fun K hK=>?k119_1) (AllReadyIn.cons rfl (fun K hK=>?k119_2) (AllReadyIn.cons rfl (fun K hK=>?k119_11) (AllReadyIn.nil)))
            case k119_1=>
             go_simp
             refine hK _ _ ?_
             clear hK K
             refine wpAnyIn_ready (rs:=[2,11]) (by kernel_rfl) (by simp) ?_
             refine AllReadyIn.cons rfl (fun K hK=>?k120_2) (AllReadyIn.cons rfl (fun K hK=>?k120_11) (AllReadyIn.nil))
             case k120_2=>
              go_simp
              refine hK _ _ ?_
              clear hK K
              refine wpAnyIn_take (i:=8) (v:=?v121) rfl rfl (by kernel_rfl) (by kernel_rfl) (by kernel_rfl) (fun _ _ _ h=>h) ⟨Or.inl ⟨by rfl,?hy121⟩,fun _=>rfl⟩ ?rest121
              case hy121=>(intro w; go_simp; try with_reducible rfl)
              case rest121=>
               refine wpAnyIn_ready (rs:=[9,11]) (by kernel_rfl) (by simp) ?_
               refine AllReadyIn.cons rfl (fun K hK=>?k122_9) (AllReadyIn.cons rfl (fun K hK=>?k122_11) (AllReadyIn.nil))
               case k122_9=>
                go_simp
                refine hK _ _ ?_
                clear hK K
                refine wpAnyIn_take (i:=10) (v:=?v123) rfl rfl (by kernel_rfl) (by kernel_rfl) (by kernel_rfl) (fun _ _ _ h=>h) ⟨Or.inl ⟨by rfl,?hy123⟩,fun _=>rfl⟩ ?rest123
                case hy123=>(intro w; go_simp; try with_reducible rfl)
                case rest123=>
                 refine wpAnyIn_ready (rs:=[11]) (by kernel_rfl) (by simp) ?_
                 refine AllReadyIn.cons rfl (fun K hK=>?k124_11) (AllReadyIn.nil)
                 case k124_11=>
                  go_simp
                  refine hK _ _ ?_
                  clear hK K
                  refine wpAnyIn_ready (rs:=[12]) (by kernel_rfl) (by simp) ?_
                  refine AllReadyIn.cons rfl (fun K hK=>?k125_12) (AllReadyIn.nil)
                  case k125_12=>
                   go_simp
                   refine hK _ _ ?_
                   clear hK K
                   refine wpAnyIn_done (by kernel_rfl) ?_ _
                   exact ⟨rfl,rfl⟩
               case k122_11=>
                go_simp
                refine hK _ _ ?_
                clear hK K
                refine wpAnyIn_ready (rs:=[9]) (by kernel_rfl) (by simp) ?_
                refine AllReadyIn.cons rfl (fun K hK=>?k126_9) (AllReadyIn.nil)
                case k126_9=>
                 go_simp
                 refine hK _ _ ?_
                 clear hK K
                 refine wpAnyIn_take (i:=10) (v:=?v127) rfl rfl (by kernel_rfl) (by kernel_rfl) (by kernel_rfl) (fun _ _ _ h=>h) ⟨Or.inl ⟨by rfl,?hy127⟩,fun _=>rfl⟩ ?rest127
                 case hy127=>(intro w; go_simp; try with_reducible rfl)
                 case rest127=>
                  refine wpAnyIn_ready (rs:=[12]) (by kernel_rfl) (by simp) ?_
                  refine AllReadyIn.cons rfl (fun K hK=>?k128_12) (AllReadyIn.nil)
                  case k128_12=>
                   go_simp
                   refine hK _ _ ?_
                   clear hK K
                   refine wpAnyIn_done (by kernel_rfl) ?_ _
                   exact ⟨rfl,rfl⟩
             case k120_11=>
              go_simp
              refine hK _ _ ?_
              clear hK K
              refine wpAnyIn_ready (rs:=[2]) (by kernel_rfl) (by simp) ?_
              refine AllReadyIn.cons rfl (fun K hK=>?k129_2) (AllReadyIn.nil)
              case k129_2=>
               go_simp
               refine hK _ _ ?_
               clear hK K
               refine wpAnyIn_take (i:=8) (v:=?v130) rfl rfl (by kernel_rfl) (by kernel_rfl) (by kernel_rfl) (fun _ _ _ h=>h) ⟨Or.inl ⟨by rfl,?hy130⟩,fun _=>rfl⟩ ?rest130
               case hy130=>(intro w; go_simp; try with_reducible rfl)
               case rest130=>
                refine wpAnyIn_ready (rs:=[9]) (by kernel_rfl) (by simp) ?_
                refine AllReadyIn.cons rfl (fun K hK=>?k131_9) (AllReadyIn.nil)
                case k131_9=>
                 go_simp
                 refine hK _ _ ?_
                 clear hK K
                 refine wpAnyIn_take (i:=10) (v:=?v132) rfl rfl (by kernel_rfl) (by kernel_rfl) (by kernel_rfl) (fun _ _ _ h=>h) ⟨Or.inl ⟨by rfl,?hy132⟩,fun _=>rfl⟩ ?rest132
                 case hy132=>(intro w; go_simp; try with_reducible rfl)
                 case rest132=>
                  refine wpAnyIn_ready (rs:=[12]) (by kernel_rfl) (by simp) ?_
                  refine AllReadyIn.cons rfl (fun K hK=>?k133_12) (AllReadyIn.nil)
                  case k133_12=>
                   go_simp
                   refine hK _ _ ?_
                   clear hK K
                   refine wpAnyIn_done (by kernel_rfl) ?_ _
                   exact ⟨rfl,rfl⟩
            case k119_2=>
             go_simp
             refine hK _ _ ?_
             clear hK K
             refine wpAnyIn_take (i:=8) (v:=?v134) rfl rfl (by kernel_rfl) (by kernel_rfl) (by kernel_rfl) (fun _ _ _ h=>h) ⟨Or.inl ⟨by rfl,?hy134⟩,fun _=>rfl⟩ ?rest134
             case hy134=>(intro w; go_simp; try with_reducible rfl)
             case rest134=>
              refine wpAnyIn_ready (rs:=[1,9,11]) (by kernel_rfl) (by simp) ?_
              refine AllReadyIn.cons rfl (fun K hK=>?k135_1) (AllReadyIn.cons rfl (fun K hK=>?k135_9) (AllReadyIn.cons rfl (fun K hK=>?k135_11) (AllReadyIn.nil)))
              case k135_1=>
               go_simp
               refine hK _ _ ?_
               clear hK K
               refine wpAnyIn_ready (rs:=[9,11]) (by kernel_rfl) (by simp) ?_
               refine AllReadyIn.cons rfl (fun K hK=>?k136_9) (AllReadyIn.cons rfl (fun K hK=>?k136_11) (AllReadyIn.nil))
               case k136_9=>
                go_simp
                refine hK _ _ ?_
                clear hK K
                refine wpAnyIn_take (i:=10) (v:=?v137) rfl rfl (by kernel_rfl) (by kernel_rfl) (by kernel_rfl) (fun _ _ _ h=>h) ⟨Or.inl ⟨by rfl,?hy137⟩,fun _=>rfl⟩ ?rest137
                case hy137=>(intro w; go_simp; try with_reducible rfl)
                case rest137=>
                 refine wpAnyIn_ready (rs:=[11]) (by kernel_rfl) (by simp) ?_
                 refine AllReadyIn.cons rfl (fun K hK=>?k138_11) (AllReadyIn.nil)
                 case k138_11=>
                  go_simp
                  refine hK _ _ ?_
                  clear hK K
                  refine wpAnyIn_ready (rs:=[12]) (by kernel_rfl) (by simp) ?_
                  refine AllReadyIn.cons rfl (fun K hK=>?k139_12) (AllReadyIn.nil)
                  case k139_12=>
                   go_simp
                   refine hK _ _ ?_
                   clear hK K
                   refine wpAnyIn_done (by kernel_rfl) ?_ _
                   exact ⟨rfl,rfl⟩
               case k136_11=>
                go_simp
                refine hK _ _ ?_
                clear hK K
                refine wpAnyIn_ready (rs:=[9]) (by kernel_rfl) (by simp) ?_
                refine AllReadyIn.cons rfl (fun K hK=>?k140_9) (AllReadyIn.nil)
                case k140_9=>
                 go_simp
                 refine hK _ _ ?_
                 clear hK K
                 refine wpAnyIn_take (i:=10) (v:=?v141) rfl rfl (by kernel_rfl) (by kernel_rfl) (by kernel_rfl) (fun _ _ _ h=>h) ⟨Or.inl ⟨by rfl,?hy141⟩,fun _=>rfl⟩ ?rest141
                 case hy141=>(intro w; go_simp; try with_reducible rfl)
                 case rest141=>
                  refine wpAnyIn_ready (rs:=[12]) (by kernel_rfl) (by simp) ?_
                  refine AllReadyIn.cons rfl (fun K hK=>?k142_12) (AllReadyIn.nil)
                  case k142_12=>
                   go_simp
                   refine hK _ _ ?_
                   clear hK K
                   refine wpAnyIn_done (by kernel_rfl) ?_ _
                   exact ⟨rfl,rfl⟩
              case k135_9=>
               go_simp
               refine hK _ _ ?_
               clear hK K
               refine wpAnyIn_ready (rs:=[1,11]) (by kernel_rfl) (by simp) ?_
               refine AllReadyIn.cons rfl (fun K hK=>?k143_1) (AllReadyIn.cons rfl (fun K hK=>?k143_11) (AllReadyIn.nil))
               case k143_1=>
                go_simp
                refine hK _ _ ?_
                clear hK K
                refine wpAnyIn_take (i:=10) (v:=?v144) rfl rfl (by kernel_rfl) (by kernel_rfl) (by kernel_rfl) (fun _ _ _ h=>h) ⟨Or.inl ⟨by rfl,?hy144⟩,fun _=>rfl⟩ ?rest144
                case hy144=>(intro w; go_simp; try with_reducible rfl)
                case rest144=>
                 refine wpAnyIn_ready (rs:=[11]) (by kernel_rfl) (by simp) ?_
                 refine AllReadyIn.cons rfl (fun K hK=>?k145_11) (AllReadyIn.nil)
                 case k145_11=>
                  go_simp
                  refine hK _ _ ?_
                  clear hK K
                  refine wpAnyIn_ready (rs:=[12]) (by kernel_rfl) (by simp) ?_
                  refine AllReadyIn.cons rfl (fun K hK=>?k146_12) (AllReadyIn.nil)
                  case k146_12=>
                   go_simp
                   refine hK _ _ ?_
                   clear hK K
                   refine wpAnyIn_done (by kernel_rfl) ?_ _
                   exact ⟨rfl,rfl⟩
               case k143_11=>
                go_simp
                refine hK _ _ ?_
                clear hK K
                refine wpAnyIn_ready (rs:=[1]) (by kernel_rfl) (by simp) ?_
                refine AllReadyIn.cons rfl (fun K hK=>?k147_1) (AllReadyIn.nil)
                case k147_1=>
                 go_simp
                 refine hK _ _ ?_
                 clear hK K
                 refine wpAnyIn_take (i:=10) (v:=?v148) rfl rfl (by kernel_rfl) (by kernel_rfl) (by kernel_rfl) (fun _ _ _ h=>h) ⟨Or.inl ⟨by rfl,?hy148⟩,fun _=>rfl⟩ ?rest148
                 case hy148=>(intro w; go_simp; try with_reducible rfl)
                 case rest148=>
                  refine wpAnyIn_ready (rs:=[12]) (by kernel_rfl) (by simp) ?_
                  refine AllReadyIn.cons rfl (fun K hK=>?k149_12) (AllReadyIn.nil)
                  case k149_12=>
                   go_simp
                   refine hK _ _ ?_
                   clear hK K
                   refine wpAnyIn_done (by kernel_rfl) ?_ _
                   exact ⟨rfl,rfl⟩
              case k135_11=>
               go_simp
               refine hK _ _ ?_
               clear hK K
               refine wpAnyIn_ready (rs:=[1,9]) (by kernel_rfl) (by simp) ?_
               refine AllReadyIn.cons rfl (fun K hK=>?k150_1) (AllReadyIn.cons rfl (fun K hK=>?k150_9) (AllReadyIn.nil))
               case k150_1=>
                go_simp
                refine hK _ _ ?_
                clear hK K
                refine wpAnyIn_ready (rs:=[9]) (by kernel_rfl) (by simp) ?_
                refine AllReadyIn.cons rfl (fun K hK=>?k151_9) (AllReadyIn.nil)
                case k151_9=>
                 go_simp
                 refine hK _ _ ?_
                 clear hK K
                 refine wpAnyIn_take (i:=10) (v:=?v152) rfl rfl (by kernel_rfl) (by kernel_rfl) (by kernel_rfl) (fun _ _ _ h=>h) ⟨Or.inl ⟨by rfl,?hy152⟩,fun _=>rfl⟩ ?rest152
                 case hy152=>(intro w; go_simp; try with_reducible rfl)
                 case rest152=>
                  refine wpAnyIn_ready (rs:=[12]) (by kernel_rfl) (by simp) ?_
                  refine AllReadyIn.cons rfl (fun K hK=>?k153_12) (AllReadyIn.nil)
                  case k153_12=>
                   go_simp
                   refine hK _ _ ?_
                   clear hK K
                   refine wpAnyIn_done (by kernel_rfl) ?_ _
                   exact ⟨rfl,rfl⟩
               case k150_9=>
                go_simp
                refine hK _ _ ?_
                clear hK K
                refine wpAnyIn_ready (rs:=[1]) (by kernel_rfl) (by simp) ?_
                refine AllReadyIn.cons rfl (fun K hK=>?k154_1) (AllReadyIn.nil)
                case k154_1=>
                 go_simp
                 refine hK _ _ ?_
                 clear hK K
                 refine wpAnyIn_take (i:=10) (v:=?v155) rfl rfl (by kernel_rfl) (by kernel_rfl) (by kernel_rfl) (fun _ _ _ h=>h) ⟨Or.inl ⟨by rfl,?hy155⟩,fun _=>rfl⟩ ?rest155
                 case hy155=>(intro w; go_simp; try with_reducible rfl)
                 case rest155=>
                  refine wpAnyIn_ready (rs:=[12]) (by kernel_rfl) (by simp) ?_
                  refine AllReadyIn.cons rfl (fun K hK=>?k156_12) (AllReadyIn.nil)
                  case k156_12=>
                   go_simp
                   refine hK _ _ ?_
                   clear hK K
                   refine wpAnyIn_done (by kernel_rfl) ?_ _
                   exact ⟨rfl,rfl⟩
            case k119_11=>
             go_simp
             refine hK _ _ ?_
             clear hK K
             refine wpAnyIn_ready (rs:=[1,2]) (by kernel_rfl) (by simp) ?_
             refine AllReadyIn.cons rfl (fun K hK=>?k157_1) (AllReadyIn.cons rfl (fun K hK=>?k157_2) (AllReadyIn.nil))
             case k157_1=>
              go_simp
              refine hK _ _ ?_
              clear hK K
              refine wpAnyIn_ready (rs:=[2]) (by kernel_rfl) (by simp) ?_
              refine AllReadyIn.cons rfl (fun K hK=>?k158_2) (AllReadyIn.nil)
              case k158_2=>
               go_simp
               refine hK _ _ ?_
               clear hK K
               refine wpAnyIn_take (i:=8) (v:=?v159) rfl rfl (by kernel_rfl) (by kernel_rfl) (by kernel_rfl) (fun _ _ _ h=>h) ⟨Or.inl ⟨by rfl,?hy159⟩,fun _=>rfl⟩ ?rest159
               case hy159=>(intro w; go_simp; try with_reducible rfl)
               case rest159=>
                refine wpAnyIn_ready (rs:=[9]) (by kernel_rfl) (by simp) ?_
                refine AllReadyIn.cons rfl (fun K hK=>?k160_9) (AllReadyIn.nil)
                case k160_9=>
                 go_simp
                 refine hK _ _ ?_
                 clear hK K
                 refine wpAnyIn_take (i:=10) (v:=?v161) rfl rfl (by kernel_rfl) (by kernel_rfl) (by kernel_rfl) (fun _ _ _ h=>h) ⟨Or.inl ⟨by rfl,?hy161⟩,fun _=>rfl⟩ ?rest161
                 case hy161=>(intro w; go_simp; try with_reducible rfl)
                 case rest161=>
                  refine wpAnyIn_ready (rs:=[12]) (by kernel_rfl) (by simp) ?_
                  refine AllReadyIn.cons rfl (fun K hK=>?k162_12) (AllReadyIn.nil)
                  case k162_12=>
                   go_simp
                   refine hK _ _ ?_
                   clear hK K
                   refine wpAnyIn_done (by kernel_rfl) ?_ _
                   exact ⟨rfl,rfl⟩
             case k157_2=>
              go_simp
              refine hK _ _ ?_
              clear hK K
              refine wpAnyIn_take (i:=8) (v:=?v163) rfl rfl (by kernel_rfl) (by kernel_rfl) (by kernel_rfl) (fun _ _ _ h=>h) ⟨Or.inl ⟨by rfl,?hy163⟩,fun _=>rfl⟩ ?rest163
              case hy163=>(intro w; go_simp; try with_reducible rfl)
              case rest163=>
               refine wpAnyIn_ready (rs:=[1,9]) (by kernel_rfl) (by simp) ?_
               refine AllReadyIn.cons rfl (fun K hK=>?k164_1) (AllReadyIn.cons rfl (fun K hK=>?k164_9) (AllReadyIn.nil))
               case k164_1=>
                go_simp
                refine hK _ _ ?_
                clear hK K
                refine wpAnyIn_ready (rs:=[9]) (by kernel_rfl) (by simp) ?_
                refine AllReadyIn.cons rfl (fun K hK=>?k165_9) (AllReadyIn.nil)
                case k165_9=>
                 go_simp
                 refine hK _ _ ?_
                 clear hK K
                 refine wpAnyIn_take (i:=10) (v:=?v166) rfl rfl (by kernel_rfl) (by kernel_rfl) (by kernel_rfl) (fun _ _ _ h=>h) ⟨Or.inl ⟨by rfl,?hy166⟩,fun _=>rfl⟩ ?rest166
                 case hy166=>(intro w; go_simp; try with_reducible rfl)
                 case rest166=>
                  refine wpAnyIn_ready (rs:=[12]) (by kernel_rfl) (by simp) ?_
                  refine AllReadyIn.cons rfl (fun K hK=>?k167_12) (AllReadyIn.nil)
                  case k167_12=>
                   go_simp
                   refine hK _ _ ?_
                   clear hK K
                   refine wpAnyIn_done (by kernel_rfl) ?_ _
                   exact ⟨rfl,rfl⟩
               case k164_9=>
                go_simp
                refine hK _ _ ?_
                clear hK K
                refine wpAnyIn_ready (rs:=[1]) (by kernel_rfl) (by simp) ?_
                refine AllReadyIn.cons rfl (fun K hK=>?k168_1) (AllReadyIn.nil)
                case k168_1=>
                 go_simp
                 refine hK _ _ ?_
                 clear hK K
                 refine wpAnyIn_take (i:=10) (v:=?v169) rfl rfl (by kernel_rfl) (by kernel_rfl) (by kernel_rfl) (fun _ _ _ h=>h) ⟨Or.inl ⟨by rfl,?hy169⟩,fun _=>rfl⟩ ?rest169
                 case hy169=>(intro w; go_simp; try with_reducible rfl)
                 case rest169=>
                  refine wpAnyIn_ready (rs:=[12]) (by kernel_rfl) (by simp) ?_
                  refine AllReadyIn.cons rfl (fun K hK=>?k170_12) (AllReadyIn.nil)
                  case k170_12=>
                   go_simp
                   refine hK _ _ ?_
                   clear hK K
                   refine wpAnyIn_done (by kernel_rfl) ?_ _
                   exact ⟨rfl,rfl⟩
         case k4_11=>
          go_simp
          refine hK _ _ ?_
          clear hK K
          refine wpAnyIn_ready (rs:=[1,2,5]) (by kernel_rfl) (by simp) ?_
          refine AllReadyIn.cons rfl (fun K hK=>?k171_1) (AllReadyIn.cons rfl (fun K hK=>?k171_2) (AllReadyIn.cons rfl (fun K hK=>?k171_5) (AllReadyIn.nil)))
          case k171_1=>
           go_simp
           refine hK _ _ ?_
           clear hK K
           refine wpAnyIn_ready (rs:=[2,5]) (by kernel_rfl) (by simp) ?_
           refine AllReadyIn.cons rfl (fun K hK=>?k172_2) (AllReadyIn.cons rfl (fun K hK=>?k172_5) (AllReadyIn.nil))
           case k172_2=>
            go_simp
            refine hK _ _ ?_
            clear hK K
            refine wpAnyIn_ready (rs:=[5]) (by kernel_rfl) (by simp) ?_
            refine AllReadyIn.cons rfl (fun K hK=>?k173_5) (AllReadyIn.nil)
            case k173_5=>
             go_simp
             refine hK _ _ ?_
             clear hK K
             refine wpAnyIn_take (i:=6) (v:=?v174) rfl rfl (by kernel_rfl) (by kernel_rfl) (by kernel_rfl) (fun _ _ _ h=>h) ⟨Or.inl ⟨by rfl,?hy174⟩,fun _=>rfl⟩ ?rest174
             case hy174=>(intro w; go_simp; try with_reducible rfl)
             case rest174=>
              refine wpAnyIn_take (i:=7) (v:=?v175) rfl rfl (by kernel_rfl) (by kernel_rfl) (by kernel_rfl) (fun _ _ _ h=>h) ⟨Or.inl ⟨by rfl,?hy175⟩,fun _=>rfl⟩ ?rest175
              case hy175=>(intro w; go_simp; try with_reducible rfl)
              case rest175=>
               refine wpAnyIn_take (i:=8) (v:=?v176) rfl rfl (by kernel_rfl) (by kernel_rfl) (by kernel_rfl) (fun _ _ _ h=>h) ⟨Or.inl ⟨by rfl,?hy176⟩,fun _=>rfl⟩ ?rest176
               case hy176=>(intro w; go_simp; try with_reducible rfl)
               case rest176=>
                refine wpAnyIn_ready (rs:=[9]) (by kernel_rfl) (by simp) ?_
                refine AllReadyIn.cons rfl (fun K hK=>?k177_9) (AllReadyIn.nil)
                case k177_9=>
                 go_simp
                 refine hK _ _ ?_
                 clear hK K
                 refine wpAnyIn_take (i:=10) (v:=?v178) rfl rfl (by kernel_rfl) (by kernel_rfl) (by kernel_rfl) (fun _ _ _ h=>h) ⟨Or.inl ⟨by rfl,?hy178⟩,fun _=>rfl⟩ ?rest178
                 case hy178=>(intro w; go_simp; try with_reducible rfl)
                 case rest178=>
                  refine wpAnyIn_ready (rs:=[12]) (by kernel_rfl) (by simp) ?_
                  refine AllReadyIn.cons rfl (fun K hK=>?k179_12) (AllReadyIn.nil)
                  case k179_12=>
                   go_simp
                   refine hK _ _ ?_
                   clear hK K
                   refine wpAnyIn_done (by kernel_rfl) ?_ _
                   exact ⟨rfl,rfl⟩
           case k172_5=>
            go_simp
            refine hK _ _ ?_
            clear hK K
            refine wpAnyIn_take (i:=6) (v:=?v180) rfl rfl (by kernel_rfl) (by kernel_rfl) (by kernel_rfl) (fun _ _ _ h=>h) ⟨Or.inl ⟨by rfl,?hy180⟩,fun _=>rfl⟩ ?rest180
            case hy180=>(intro w; go_simp; try with_reducible rfl)
            case rest180=>
             refine wpAnyIn_take (i:=7) (v:=?v181) rfl rfl (by kernel_rfl) (by kernel_rfl) (by kernel_rfl) (fun _ _ _ h=>h) ⟨Or.inl ⟨by rfl,?hy181⟩,fun _=>rfl⟩ ?rest181
             case hy181=>(intro w; go_simp; try with_reducible rfl)
             case rest181=>
              refine wpAnyIn_ready (rs:=[2]) (by kernel_rfl) (by simp) ?_
              refine AllReadyIn.cons rfl (fun K hK=>?k182_2) (AllReadyIn.nil)
              case k182_2=>
               go_simp
               refine hK _ _ ?_
               clear hK K
               refine wpAnyIn_take (i:=8) (v:=?v183) rfl rfl (by kernel_rfl) (by kernel_rfl) (by kernel_rfl) (fun _ _ _ h=>h) ⟨Or.inl ⟨by rfl,?hy183⟩,fun _=>rfl⟩ ?rest183
               case hy183=>(intro w; go_simp; try with_reducible rfl)
               case rest183=>
                refine wpAnyIn_ready (rs:=[9]) (by kernel_rfl) (by simp) ?_
                refine AllReadyIn.cons rfl (fun K hK=>?k184_9) (AllReadyIn.nil)
                case k184_9=>
                 go_simp
                 refine hK _ _ ?_
                 clear hK K
                 refine wpAnyIn_take (i:=10) (v:=?v185) rfl rfl (by kernel_rfl) (by kernel_rfl) (by kernel_rfl) (fun _ _ _ h=>h) ⟨Or.inl ⟨by rfl,?hy185⟩,fun _=>rfl⟩ ?rest185
                 case hy185=>(intro w; go_simp; try with_reducible rfl)
                 case rest185=>
                  refine wpAnyIn_ready (rs:=[12]) (by kernel_rfl) (by simp) ?_
                  refine AllReadyIn.cons rfl (fun K hK=>?k186_12) (AllReadyIn.nil)
                  case k186_12=>
                   go_simp
                   refine hK _ _ ?_
                   clear hK K
                   refine wpAnyIn_done (by kernel_rfl) ?_ _
                   exact ⟨rfl,rfl⟩
          case k171_2=>
           go_simp
           refine hK _ _ ?_
           clear hK K
           refine wpAnyIn_ready (rs:=[1,5]) (by kernel_rfl) (by simp) ?_
           refine AllReadyIn.cons rfl (fun K hK=>?k187_1) (AllReadyIn.cons rfl (fun K hK=>?k187_5) (AllReadyIn.nil))
           case k187_1=>
            go_simp
            refine hK _ _ ?_
            clear hK K
            refine wpAnyIn_ready (rs:=[5]) (by kernel_rfl) (by simp) ?_
            refine AllReadyIn.cons rfl (fun K hK=>?k188_5) (AllReadyIn.nil)
            case k188_5=>
             go_simp
             refine hK _ _ ?_
             clear hK K
             refine wpAnyIn_take (i:=6) (v:=?v189) rfl rfl (by kernel_rfl) (by kernel_rfl) (by kernel_rfl) (fun _ _ _ h=>h) ⟨Or.inl ⟨by rfl,?hy189⟩,fun _=>rfl⟩ ?rest189
             case hy189=>(intro w; go_simp; try with_reducible rfl)
             case rest189=>
              refine wpAnyIn_take (i:=7) (v:=?v190) rfl rfl (by kernel_rfl) (by kernel_rfl) (by kernel_rfl) (fun _ _ _ h=>h) ⟨Or.inl ⟨by rfl,?hy190⟩,fun _=>rfl⟩ ?rest190
              case hy190=>(intro w; go_simp; try with_reducible rfl)
              case rest190=>
               refine wpAnyIn_take (i:=8) (v:=?v191) rfl rfl (by kernel_rfl) (by kernel_rfl) (by kernel_rfl) (fun _ _ _ h=>h) ⟨Or.inl ⟨by rfl,?hy191⟩,fun _=>rfl⟩ ?rest191
               case hy191=>(intro w; go_simp; try with_reducible rfl)
               case rest191=>
                refine wpAnyIn_ready (rs:=[9]) (by kernel_rfl) (by simp) ?_
                refine AllReadyIn.cons rfl (fun K hK=>?k192_9) (AllReadyIn.nil)
                case k192_9=>
                 go_simp
                 refine hK _ _ ?_
                 clear hK K
                 refine wpAnyIn_take (i:=10) (v:=?v193) rfl rfl (by kernel_rfl) (by kernel_rfl) (by kernel_rfl) (fun _ _ _ h=>h) ⟨Or.inl ⟨by rfl,?hy193⟩,fun _=>rfl⟩ ?rest193
                 case hy193=>(intro w; go_simp; try with_reducible rfl)
                 case rest193=>
                  refine wpAnyIn_ready (rs:=[12]) (by kernel_rfl) (by simp) ?_
                  refine AllReadyIn.cons rfl (fun K hK=>?k194_12) (AllReadyIn.nil)
                  case k194_12=>
                   go_simp
                   refine hK _ _ ?_
                   clear hK K
                   refine wpAnyIn_done (by kernel_rfl) ?_ _
                   exact ⟨rfl,rfl⟩
           case k187_5=>
            go_simp
            refine hK _ _ ?_
            clear hK K
            refine wpAnyIn_take (i:=6) (v:=?v195) rfl rfl (by kernel_rfl) (by kernel_rfl) (by kernel_rfl) (fun _ _ _ h=>h) ⟨Or.inl ⟨by rfl,?hy195⟩,fun _=>rfl⟩ ?rest195
            case hy195=>(intro w; go_simp; try with_reducible rfl)
            case rest195=>
             refine wpAnyIn_take (i:=7) (v:=?v196) rfl rfl (by kernel_rfl) (by kernel_rfl) (by kernel_rfl) (fun _ _ _ h=>h) ⟨Or.inl ⟨by rfl,?hy196⟩,fun _=>rfl⟩ ?rest196
             case hy196=>(intro w; go_simp; try with_reducible rfl)
             case rest196=>
              refine wpAnyIn_take (i:=8) (v:=?v197) rfl rfl (by kernel_rfl) (by kernel_rfl) (by kernel_rfl) (fun _ _ _ h=>h) ⟨Or.inl ⟨by rfl,?hy197⟩,fun _=>rfl⟩ ?rest197
              case hy197=>(intro w; go_simp; try with_reducible rfl)
              case rest197=>
               refine wpAnyIn_ready (rs:=[1,9]) (by kernel_rfl) (by simp) ?_
               refine AllReadyIn.cons rfl (fun K hK=>?k198_1) (AllReadyIn.cons rfl (fun K hK=>?k198_9) (AllReadyIn.nil))
               case k198_1=>
                go_simp
                refine hK _ _ ?_
                clear hK K
                refine wpAnyIn_ready (rs:=[9]) (by kernel_rfl) (by simp) ?_
                refine AllReadyIn.cons rfl (fun K hK=>?k199_9) (AllReadyIn.nil)
                case k199_9=>
                 go_simp
                 refine hK _ _ ?_
                 clear hK K
                 refine wpAnyIn_take (i:=10) (v:=?v200) rfl rfl (by kernel_rfl) (by kernel_rfl) (by kernel_rfl) (fun _ _ _ h=>h) ⟨Or.inl ⟨by rfl,?hy200⟩,fun _=>rfl⟩ ?rest200
                 case hy200=>(intro w; go_simp; try with_reducible rfl)
                 case rest200=>
                  refine wpAnyIn_ready (rs:=[12]) (by kernel_rfl) (by simp) ?_
                  refine AllReadyIn.cons rfl (fun K hK=>?k201_12) (AllReadyIn.nil)
                  case k201_12=>
                   go_simp
                   refine hK _ _ ?_
                   clear hK K
                   refine wpAnyIn_done (by kernel_rfl) ?_ _
                   exact ⟨rfl,rfl⟩
               case k198_9=>
                go_simp
                refine hK _ _ ?_
                clear hK K
                refine wpAnyIn_ready (rs:=[1]) (by kernel_rfl) (by simp) ?_
                refine AllReadyIn.cons rfl (fun K hK=>?k202_1) (AllReadyIn.nil)
                case k202_1=>
                 go_simp
                 refine hK _ _ ?_
                 clear hK K
                 refine wpAnyIn_take (i:=10) (v:=?v203) rfl rfl (by kernel_rfl) (by kernel_rfl) (by kernel_rfl) (fun _ _ _ h=>h) ⟨Or.inl ⟨by rfl,?hy203⟩,fun _=>rfl⟩ ?rest203
                 case hy203=>(intro w; go_simp; try with_reducible rfl)
                 case rest203=>
                  refine wpAnyIn_ready (rs:=[12]) (by kernel_rfl) (by simp) ?_
                  refine AllReadyIn.cons rfl (fun K hK=>?k204_12) (AllReadyIn.nil)
                  case k204_12=>
                   go_simp
                   refine hK _ _ ?_
                   clear hK K
                   refine wpAnyIn_done (by kernel_rfl) ?_ _
                   exact ⟨rfl,rfl⟩
          case k171_5=>
           go_simp
           refine hK _ _ ?_
           clear hK K
           refine wpAnyIn_take (i:=6) (v:=?v205) rfl rfl (by kernel_rfl) (by kernel_rfl) (by kernel_rfl) (fun _ _ _ h=>h) ⟨Or.inl ⟨by rfl,?hy205⟩,fun _=>rfl⟩ ?rest205
           case hy205=>(intro w; go_simp; try with_reducible rfl)
           case rest205=>
            refine wpAnyIn_take (i:=7) (v:=?v206) rfl rfl (by kernel_rfl) (by kernel_rfl) (by kernel_rfl) (fun _ _ _ h=>h) ⟨Or.inl ⟨by rfl,?hy206⟩,fun _=>rfl⟩ ?rest206
            case hy206=>(intro w; go_simp; try with_reducible rfl)
            case rest206=>
             refine wpAnyIn_ready (rs:=[1,2]) (by kernel_rfl) (by simp) ?_
             refine AllReadyIn.cons rfl (fun K hK=>?k207_1) (AllReadyIn.cons rfl (fun K hK=>?k207_2) (AllReadyIn.nil))
             case k207_1=>
              go_simp
              refine hK _ _ ?_
              clear hK K
              refine wpAnyIn_ready (rs:=[2]) (by kernel_rfl) (by simp) ?_
              refine AllReadyIn.cons rfl (fun K hK=>?k208_2) (AllReadyIn.nil)
              case k208_2=>
               go_simp
               refine hK _ _ ?_
               clear hK K
               refine wpAnyIn_take (i:=8) (v:=?v209) rfl rfl (by kernel_rfl) (by kernel_rfl) (by kernel_rfl) (fun _ _ _ h=>h) ⟨Or.inl ⟨by rfl,?hy209⟩,fun _=>rfl⟩ ?rest209
               case hy209=>(intro w; go_simp; try with_reducible rfl)
               case rest209=>
                refine wpAnyIn_ready (rs:=[9]) (by kernel_rfl) (by simp) ?_
                refine AllReadyIn.cons rfl (fun K hK=>?k210_9) (AllReadyIn.nil)
                case k210_9=>
                 go_simp
                 refine hK _ _ ?_
                 clear hK K
                 refine wpAnyIn_take (i:=10) (v:=?v211) rfl rfl (by kernel_rfl) (by kernel_rfl) (by kernel_rfl) (fun _ _ _ h=>h) ⟨Or.inl ⟨by rfl,?hy211⟩,fun _=>rfl⟩ ?rest211
                 case hy211=>(intro w; go_simp; try with_reducible rfl)
                 case rest211=>
                  refine wpAnyIn_ready (rs:=[12]) (by kernel_rfl) (by simp) ?_
                  refine AllReadyIn.cons rfl (fun K hK=>?k212_12) (AllReadyIn.nil)
                  case k212_12=>
                   go_simp
                   refine hK _ _ ?_
                   clear hK K
                   refine wpAnyIn_done (by kernel_rfl) ?_ _
                   exact ⟨rfl,rfl⟩
             case k207_2=>
              go_simp
              refine hK _ _ ?_
              clear hK K
              refine wpAnyIn_take (i:=8) (v:=?v213) rfl rfl (by kernel_rfl) (by kernel_rfl) (by kernel_rfl) (fun _ _ _ h=>h) ⟨Or.inl ⟨by rfl,?hy213⟩,fun _=>rfl⟩ ?rest213
              case hy213=>(intro w; go_simp; try with_reducible rfl)
              case rest213=>
               refine wpAnyIn_ready (rs:=[1,9]) (by kernel_rfl) (by simp) ?_
               refine AllReadyIn.cons rfl (fun K hK=>?k214_1) (AllReadyIn.cons rfl (fun K hK=>?k214_9) (AllReadyIn.nil))
               case k214_1=>
                go_simp
                refine hK _ _ ?_
                clear hK K
                refine wpAnyIn_ready (rs:=[9]) (by kernel_rfl) (by simp) ?_
                refine AllReadyIn.cons rfl (fun K hK=>?k215_9) (AllReadyIn.nil)
                case k215_9=>
                 go_simp
                 refine hK _ _ ?_
                 clear hK K
                 refine wpAnyIn_take (i:=10) (v:=?v216) rfl rfl (by kernel_rfl) (by kernel_rfl) (by kernel_rfl) (fun _ _ _ h=>h) ⟨Or.inl ⟨by rfl,?hy216⟩,fun _=>rfl⟩ ?rest216
                 case hy216=>(intro w; go_simp; try with_reducible rfl)
                 case rest216=>
                  refine wpAnyIn_ready (rs:=[12]) (by kernel_rfl) (by simp) ?_
                  refine AllReadyIn.cons rfl (fun K hK=>?k217_12) (AllReadyIn.nil)
                  case k217_12=>
                   go_simp
                   refine hK _ _ ?_
                   clear hK K
                   refine wpAnyIn_done (by kernel_rfl) ?_ _
                   exact ⟨rfl,rfl⟩
               case k214_9=>
                go_simp
                refine hK _ _ ?_
                clear hK K
                refine wpAnyIn_ready (rs:=[1]) (by kernel_rfl) (by simp) ?_
                refine AllReadyIn.cons rfl (fun K hK=>?k218_1) (AllReadyIn.nil)
                case k218_1=>
                 go_simp
                 refine hK _ _ ?_
                 clear hK K
                 refine wpAnyIn_take (i:=10) (v:=?v219) rfl rfl (by kernel_rfl) (by kernel_rfl) (by kernel_rfl) (fun _ _ _ h=>h) ⟨Or.inl ⟨by rfl,?hy219⟩,fun _=>rfl⟩ ?rest219
                 case hy219=>(intro w; go_simp; try with_reducible rfl)
                 case rest219=>
                  refine wpAnyIn_ready (rs:=[12]) (by kernel_rfl) (by simp) ?_
                  refine AllReadyIn.cons rfl (fun K hK=>?k220_12) (AllReadyIn.nil)
                  case k220_12=>
                   go_simp
                   refine hK _ _ ?_
                   clear hK K
                   refine wpAnyIn_done (by kernel_rfl) ?_ _
                   exact ⟨rfl,rfl⟩
    · intro e a' w' h
      cases e<;>first | exact h.elim | skip
      obtain ⟨rfl,rfl⟩:=h
      have hL:Below W.heap.size W (W.drew.alloc (sideO p (Gs.gnx p k))):=(Below.refl _ W).drew.alloc (Nat.le_refl _) _
      have hFo:(W.drew.alloc (sideO p (Gs.gnx p k))).heap[W.heap.size]?=some (sideO p (Gs.gnx p k)):=World.alloc_heap_new W.drew _
      generalize W.drew.alloc (sideO p (Gs.gnx p k))=W1 at *
      have hF:W.heap.size < W1.heap.size:=(Array.getElem?_eq_some_iff.1 hFo).1
      obtain ⟨f0,f1,f2,f3⟩:=cells4 hFo
      obtain ⟨g0,g1,g2,g3⟩:=cells4 (later_obj hL hBo)
      have hx1:Gs.gnx p k < p.length:=Nat.mod_lt _ hp
      clear e0 e1 e2 e3 s0 r0 r1 t0 t1
      gi_wp2_with (refine ⟨trivial,fun h=>(by cases h),(CallsIn.inRound l (cross_b _ _ _ _ _ (gokB (hg _ hx)) (gokB (hg _ hx1)) (gokB (hg _ hq)))).mono ?_⟩; rintro e W2 ⟨rfl,hW2⟩; have hL2:=hL.trans (hW2.mono hL.size); have hF2:=later_obj hW2 hFo; obtain ⟨f0',f1',f2',f3'⟩:=cells4 hF2; obtain ⟨g0',g1',g2',g3'⟩:=cells4 (later_obj hL2 hBo); have r0':=Boxed.cell (later_obj hL2 hi.res); have r1':=Boxed.frozen (later_obj hL2 hi.res))
      · rename_i hbad
        refine ⟨(later_keeps hL2 _).trans ((KeepsOthers.setCell _ _ _).from _),rfl,⟨pre,x,rfl,?_⟩,Boxed.set _ (later_obj hL2 hi.res),(hi.below.trans (hL2.mono (by omega))).setCell (p:=⟨w.heap.size + 1,0,none⟩) (Nat.le_succ _) _⟩
        rw [hk]; simpa [Gs.gbad] using hbad
      · have hgd:Gs.gbad p k=false:=by
          have hgood:0 < Gs.gdet (Gs.gat p k) (Gs.gat p (Gs.gnx p k)) (Gs.gat p (Gs.gnx p (Gs.gnx p k))):=by first | assumption | exact Int.not_le.1 (by assumption)
          simpa [Gs.gbad] using hgood
        clear f0 f1 f2 f3 g0 g1 g2 g3 r0' r1'
        gi_wp2_with (refine ⟨trivial,fun h=>(by cases h),(CallsIn.inRound l (upper_b _ _ _ _)).mono ?_⟩; rintro e W3 ⟨rfl,hW3⟩; have hL3:=hL2.trans (hW3.mono hL2.size); have hF3:=later_obj hW3 hF2; clear f0' f1' f2' f3' g0' g1' g2' g3'; obtain ⟨f0,f1,f2,f3⟩:=cells4 hF3; obtain ⟨g0,g1,g2,g3⟩:=cells4 (later_obj hL3 hBo); have t0:=Boxed.cell (later_obj hL3 hi.tur); have t1:=Boxed.frozen (later_obj hL3 hi.tur))
        · refine ⟨trivial,?_⟩
          gi_wp2
          refine ⟨later_keeps hL3 _,later_kp hL3 (by omega) (by omega),inC_next hi hL3 (by rw [hk]; exact hgd) ?_⟩
          rw [hk]
          simp only [Gs.gsw,Bool.and_eq_false_iff,Bool.not_eq_false']
          exact .inl (by assumption)
        · gi_wp2_with (refine ⟨trivial,fun h=>(by cases h),(CallsIn.inRound l (upper_b _ _ _ _)).mono ?_⟩; rintro e W4 ⟨rfl,hW4⟩; have hL4:=hL3.trans (hW4.mono hL3.size); clear t0 t1; have t0:=Boxed.cell (later_obj hL4 hi.tur); have t1:=Boxed.frozen (later_obj hL4 hi.tur))
          · refine ⟨(later_keeps hL4 _).trans ((KeepsOthers.setCell _ _ _).from _),(later_kp hL4 (by omega) (by omega)).trans ⟨(Below.refl _ _).setCell (p:=⟨w.heap.size + 1 + 1,0,none⟩) (by show w.heap.size≤w.heap.size + 1 + 1; omega) _,Below.heap_setCell _ _ _ _ (by show w.heap.size + 1 + 1 + 1≠w.heap.size + 1 + 1; omega)⟩,inC_sw hi hL4 (by rw [hk]; exact hgd) ?_ ?_⟩
            · rw [hk]
              simp only [Gs.gsw,Bool.and_eq_true,Bool.not_eq_true']
              exact ⟨by first | assumption | exact Bool.eq_false_iff.2 (by assumption),by assumption⟩
            · rw [wrap64_of' (by omega) (by have:=cntS_le p pre; omega)]
          · refine ⟨later_keeps hL4 _,later_kp hL4 (by omega) (by omega),inC_next hi hL4 (by rw [hk]; exact hgd) ?_⟩
            rw [hk]
            simp only [Gs.gsw,Bool.and_eq_false_iff,Bool.not_eq_false']
            exact .inr (by first | assumption | exact Bool.eq_false_iff.2 (by assumption))
  case done=>
    rintro D ys W hD rfl hi hK
    have r0:=hi.res.cell
    have r1:=hi.res.frozen
    have t0:=hi.tur.cell
    have t1:=hi.tur.frozen
    have hv:((cntS p (List.range p.length):Int) == 1)=Gs.gconv p:=(gconv_done hi.good).symm
    gi_wp2
    have hK':=(KeepsOthers.setCell W ⟨w.heap.size + 1,0,none⟩ (.bool (Gs.gconv p))).same D _ hK rfl
    refine ⟨by simp,.inl ⟨_,_,rfl,run_takeDeferred hK',?_⟩⟩
    have hc5:=cell_kept (World.cell?_setCell_same' W ⟨w.heap.size + 1,0,none⟩ (.bool (Gs.gconv p)) (by rw [r0]; rfl)) (grownBy_putObj' _ D (.deferred none)) (fun r e=>by cases e; exact ⟨_,hK',rfl⟩)
    refine ⟨.bool (Gs.gconv p),?_,rfl,(hi.below.setCell (p:=⟨w.heap.size + 1,0,none⟩) (by show w.heap.size≤w.heap.size + 1; omega) _).trans ⟨rfl,rfl,rfl,by simp [World.putObj],fun j hj=>World.putObj_heap_other (by simp at hD; omega)⟩⟩
    simp [results,Tryz.f223,go_sem,hc5]
  case stop=>
    rintro D c pre W hD ⟨k,hk,rfl⟩ hi hK
    obtain rfl:=hi.ret
    have r0:=hi.res.cell
    gi_wp2
    refine ⟨by simp,.inl ⟨_,_,rfl,run_takeDeferred hK,?_⟩⟩
    have hc5:=cell_kept r0 (grownBy_putObj' _ D (.deferred none)) (fun r e=>by cases e; exact ⟨_,hK,rfl⟩)
    refine ⟨.bool false,?_,by rw [gconv_stop hk hi.bad],hi.below.trans ⟨rfl,rfl,rfl,by simp [World.putObj],fun j hj=>World.putObj_heap_other (by simp at hD; omega)⟩⟩
    simp [results,Tryz.f223,go_sem,hc5]
end Go.Proofs
