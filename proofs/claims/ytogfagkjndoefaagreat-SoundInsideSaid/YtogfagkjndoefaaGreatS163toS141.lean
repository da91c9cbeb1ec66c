/- part S163; part S164; part S165; part S166; part S140; part S141; no conditions. -/
import Derived.Test.YtogfagkjndoefaaGreatS162
import Derived.Test.YtogfagkjndoefaaGreatP21
import Derived.Test.YtogfagkjndoefaaGreatS14toS70
import Derived.Test.YtogfagkjndoefaaGreatGsF
set_option linter.all false
set_option maxRecDepth 100000
open Gs Go
namespace Tz.C18
abbrev ints (l:List Int):D:=.fz false 1 (l.map int)
theorem e_cuts (lo hi:Int)(nz:Bool)(l:List Ev)(hl:l.length < 1000000)(g:Nat)(f:Box→Int×Int)(hg:∀ b:Box,L.call g [b.enc] []=some (.tup [int (f b).1,int (f b).2],[])):L.call 101 [int lo,int hi,evs nz l,.fn g []] []=some (ints (cutsL lo hi f l),[]):=by
 have hlen:=cut2_len (lo:=lo) (hi:=hi) (f:=f) l [lo,hi]
 simp only [List.length_cons,List.length_nil] at hlen
 have hs:=e_sortI false (l.foldl (cutStep2 lo hi f) [lo,hi]) (by omega)
 have hsl:=(sortN_perm (l.foldl (cutStep2 lo hi f) [lo,hi])).length_eq
 have hc:=e_compact_i (sortN (l.foldl (cutStep2 lo hi f) [lo,hi])) (by omega) false false
 unfold cutsL
 rcases hc with ⟨k1,k2⟩ | ⟨zq,k1,k2,k3,k4⟩
 · refine call_eq rfl rfl ?_
   simp only [↓eA,eB,seval,c101]
   generalize hE:(lim T).loop 101003 _ _=R
   obtain ⟨X,e',H',rfl,rfl,k9,rfl⟩:=Ends.at hE (lp_cut2 lo hi nz l hl g f hg _ _ (by simp only [↓eA,eB,seval]) (by simp only [↓eA,eB,seval]) (by simp only [↓eA,eB,seval]) (by simp only [↓eA,eB,seval]) (by simp only [↓eA,eB,seval]) (by simp only [↓eA,eB,seval,List.length_map]) (by simp only [↓eA,eB,seval]) rfl)
   simp only [↓eA,eB,seval,k9,hs,k2,killE_nil]
   rw [k1]
 · refine call_eq rfl rfl ?_
   simp only [↓eA,eB,seval,c101]
   generalize hE:(lim T).loop 101003 _ _=R
   obtain ⟨X,e',H',rfl,rfl,k9,rfl⟩:=Ends.at hE (lp_cut2 lo hi nz l hl g f hg _ _ (by simp only [↓eA,eB,seval]) (by simp only [↓eA,eB,seval]) (by simp only [↓eA,eB,seval]) (by simp only [↓eA,eB,seval]) (by simp only [↓eA,eB,seval]) (by simp only [↓eA,eB,seval,List.length_map]) (by simp only [↓eA,eB,seval]) rfl)
   have hle:(dd eqI (sortN (l.foldl (cutStep2 lo hi f) [lo,hi]))).length≤zq.length:=by omega
   have hcut:cut (zq.map int) 0 (dd eqI (sortN (l.foldl (cutStep2 lo hi f) [lo,hi]))).length=(dd eqI (sortN (l.foldl (cutStep2 lo hi f) [lo,hi]))).map int:=by
     unfold cut
     rw [List.drop_zero,←List.map_take,k2]
   simp only [↓eA,eB,seval,k9,hs,k4,killE_nil,List.length_map,Nat.zero_add,hle,hcut]
def nearS (b:Box)(acc:List Ev)(x:Ev):List Ev:=bif !apart x.box b then acc ++ [x] else acc
def nearL (b:Box)(l:List Ev):List Ev:=l.filter fun x=>!apart x.box b
theorem near_fold (b:Box):∀ (l acc:List Ev),l.foldl (nearS b) acc=acc ++ nearL b l
 | [],acc=>by simp [nearL]
 | x :: l,acc=>by
   rw [List.foldl_cons,near_fold b l]
   unfold nearS nearL
   cases h:apart x.box b<;>simp [h]
theorem near_len (b:Box)(l:List Ev):(nearL b l).length≤l.length:=List.length_filter_le _ _
abbrev Box.enc' (b:Box):List D:=[int b.x0,int b.y0,int b.z0,int b.x1,int b.y1,int b.z1]
theorem e_ex (b:Box):L.call 102 [b.enc] []=some (.tup [int b.x0,int b.x1],[]):=call_eq rfl rfl (by simp only [↓eA,eB,seval,c102])
theorem e_ey (b:Box):L.call 103 [b.enc] []=some (.tup [int b.y0,int b.y1],[]):=call_eq rfl rfl (by simp only [↓eA,eB,seval,c103])
theorem e_ez (b:Box):L.call 104 [b.enc] []=some (.tup [int b.z0,int b.z1],[]):=call_eq rfl rfl (by simp only [↓eA,eB,seval,c104])
abbrev FS:=Bool×V3
def fstP (n s:Int)(st:FS)(p:Box):FS:=bif decide (s=n) && (!st.1 || bef p.min st.2) then (true,p.min) else st
abbrev HF (n:Int)(st:FS):Heap:=[(500000,.box [int n] false),(500001,.box [.bool st.1] false),(500002,.box [int st.2.x,int st.2.y,int st.2.z] false)]
abbrev capF (g:Nat):D:=.fn g [.ptr 500000 0,.ptr 500001 0,.ptr 500002 0]
def vW (p:Box):Int:=bif decide (boxErr p=0) then IntKind.i64.wrap (IntKind.i64.wrap (IntKind.i64.wrap (p.x1 - p.x0) * IntKind.i64.wrap (p.y1 - p.y0)) * IntKind.i64.wrap (p.z1 - p.z0)) else 0
def volP (n s:Int)(st:Int)(p:Box):Int:=bif decide (s=n) then IntKind.i64.wrap (st + vW p) else st
abbrev HV (n:Int)(st:Int):Heap:=[(500000,.box [int n] false),(500001,.box [int st] false)]
abbrev capV (g:Nat):D:=.fn g [.ptr 500000 0,.ptr 500001 0]
theorem lp_near_F (b:Box)(nz:Bool)(l:List Ev)(hl:l.length < 1000000)(n:Int)(st:FS)(g:Nat)(e:Env)(H:Heap)(h2:Gs.get e 2=capF g)(h4:Gs.get e 4 = .ptr 4 0)(h6:Gs.get e 6 = .ow 1006)(h16:Gs.get e 16=evs nz l)(h17:Gs.get e 17=int l.length)(h18:Gs.get e 18=int (0:Nat))(hB:hget H 4=some (.box (Box.enc' b) false))(hR:hget H 1006=some (.row true 8 [] 0 true))(hy:hget H 500000=some (.box [int n] false)∧hget H 500001=some (.box [.bool st.1] false)∧hget H 500002=some (.box [int st.2.x,int st.2.y,int st.2.z] false)) :
   Ends T 63003 e H (fun X e' H'=>X = .ex 0∧Gs.get e' 2=capF g∧Gs.get e' 4 = .ptr 4 0∧Gs.get e' 6 = .ow 1006∧H'=(4,.box (Box.enc' b) false) :: (1006,.row true 8 ((nearL b l).map Ev.enc) 0 true) :: HF n st):=by
 have hfold:=near_fold b l []
 rw [List.nil_append] at hfold
 rw [←hfold]
 refine loop_fold (T:=T) (key:=63003) (li:=l63003.1) rfl l (nearS b) (fun i acc e H=>acc.length≤i∧Gs.get e 2=capF g∧Gs.get e 4 = .ptr 4 0∧Gs.get e 6 = .ow 1006∧Gs.get e 16=evs nz l∧Gs.get e 17=int l.length∧Gs.get e 18=int i∧hget H 4=some (.box (Box.enc' b) false)∧hget H 1006=some (.row true 8 (acc.map Ev.enc) 0 true)∧hget H 500000=some (.box [int n] false)∧hget H 500001=some (.box [.bool st.1] false)∧hget H 500002=some (.box [int st.2.x,int st.2.y,int st.2.z] false))
   (fun acc X e' H'=>X = .ex 0∧Gs.get e' 2=capF g∧Gs.get e' 4 = .ptr 4 0∧Gs.get e' 6 = .ow 1006∧H'=(4,.box (Box.enc' b) false) :: (1006,.row true 8 (acc.map Ev.enc) 0 true) :: HF n st) ?_ ?_ [] e H ⟨by simp,h2,h4,h6,h16,h17,h18,hB,hR,hy⟩
 · rintro i x acc e H hi hlt ⟨hal,h2,h4,h6,h16,h17,h18,hB,hR,q0,q1,q2⟩
   have hxi:(l.map Ev.enc)[i]?=some x.enc:=by simp [hi]
   have hov:=e_bOverlap x.box b
   have hf:fits (acc.length + 1) 72=true:=fits_of (by omega)
   cases hc:apart x.box b with
   | true=>
     simp only [↓eA,eB,seval,l63003,h2,h4,h6,h16,h17,h18,hB,hR,q0,q1,q2,hlt,hxi,hov,hc,killE_nil,wrap_succ (show i < 4611686018427387904 by omega)]
     unfold nearS
     rw [hc]
     refine ⟨trivial,by simp; omega,?_⟩
     and_intros<;>first | trivial | rfl
   | false=>
     simp only [↓eA,eB,seval,l63003,h2,h4,h6,h16,h17,h18,hB,hR,q0,q1,q2,hlt,hxi,hov,hc,hf,List.length_map,killE_nil,wrap_succ (show i < 4611686018427387904 by omega)]
     unfold nearS
     rw [hc]
     refine ⟨trivial,by simp; omega,?_⟩
     and_intros<;>first | trivial | rfl | (simp [hget]; done)
 · rintro acc e H ⟨hal,h2,h4,h6,h16,h17,h18,hB,hR,q0,q1,q2⟩
   simp only [↓eA,eB,seval,l63003,h2,h4,h6,h16,h17,h18,hB,hR,q0,q1,q2,Nat.lt_irrefl]
   and_intros<;>first | trivial | rfl
theorem lp_near_V (b:Box)(nz:Bool)(l:List Ev)(hl:l.length < 1000000)(n:Int)(st:Int)(g:Nat)(e:Env)(H:Heap)(h2:Gs.get e 2=capV g)(h4:Gs.get e 4 = .ptr 4 0)(h6:Gs.get e 6 = .ow 1006)(h16:Gs.get e 16=evs nz l)(h17:Gs.get e 17=int l.length)(h18:Gs.get e 18=int (0:Nat))(hB:hget H 4=some (.box (Box.enc' b) false))(hR:hget H 1006=some (.row true 8 [] 0 true))(hy:hget H 500000=some (.box [int n] false)∧hget H 500001=some (.box [int st] false)∧hget H 500002=none) :
   Ends T 63003 e H (fun X e' H'=>X = .ex 0∧Gs.get e' 2=capV g∧Gs.get e' 4 = .ptr 4 0∧Gs.get e' 6 = .ow 1006∧H'=(4,.box (Box.enc' b) false) :: (1006,.row true 8 ((nearL b l).map Ev.enc) 0 true) :: HV n st):=by
 have hfold:=near_fold b l []
 rw [List.nil_append] at hfold
 rw [←hfold]
 refine loop_fold (T:=T) (key:=63003) (li:=l63003.1) rfl l (nearS b) (fun i acc e H=>acc.length≤i∧Gs.get e 2=capV g∧Gs.get e 4 = .ptr 4 0∧Gs.get e 6 = .ow 1006∧Gs.get e 16=evs nz l∧Gs.get e 17=int l.length∧Gs.get e 18=int i∧hget H 4=some (.box (Box.enc' b) false)∧hget H 1006=some (.row true 8 (acc.map Ev.enc) 0 true)∧hget H 500000=some (.box [int n] false)∧hget H 500001=some (.box [int st] false)∧hget H 500002=none)
   (fun acc X e' H'=>X = .ex 0∧Gs.get e' 2=capV g∧Gs.get e' 4 = .ptr 4 0∧Gs.get e' 6 = .ow 1006∧H'=(4,.box (Box.enc' b) false) :: (1006,.row true 8 (acc.map Ev.enc) 0 true) :: HV n st) ?_ ?_ [] e H ⟨by simp,h2,h4,h6,h16,h17,h18,hB,hR,hy⟩
 · rintro i x acc e H hi hlt ⟨hal,h2,h4,h6,h16,h17,h18,hB,hR,q0,q1,q2⟩
   have hxi:(l.map Ev.enc)[i]?=some x.enc:=by simp [hi]
   have hov:=e_bOverlap x.box b
   have hf:fits (acc.length + 1) 72=true:=fits_of (by omega)
   cases hc:apart x.box b with
   | true=>
     simp only [↓eA,eB,seval,l63003,h2,h4,h6,h16,h17,h18,hB,hR,q0,q1,q2,hlt,hxi,hov,hc,killE_nil,wrap_succ (show i < 4611686018427387904 by omega)]
     unfold nearS
     rw [hc]
     refine ⟨trivial,by simp; omega,?_⟩
     and_intros<;>first | trivial | rfl
   | false=>
     simp only [↓eA,eB,seval,l63003,h2,h4,h6,h16,h17,h18,hB,hR,q0,q1,q2,hlt,hxi,hov,hc,hf,List.length_map,killE_nil,wrap_succ (show i < 4611686018427387904 by omega)]
     unfold nearS
     rw [hc]
     refine ⟨trivial,by simp; omega,?_⟩
     and_intros<;>first | trivial | rfl | (simp [hget]; done)
 · rintro acc e H ⟨hal,h2,h4,h6,h16,h17,h18,hB,hR,q0,q1,q2⟩
   simp only [↓eA,eB,seval,l63003,h2,h4,h6,h16,h17,h18,hB,hR,q0,q1,q2,Nat.lt_irrefl]
   and_intros<;>first | trivial | rfl
end Tz.C18
set_option maxRecDepth 100000
open Gs Go
namespace Tz.C18
theorem wrap_less (i:Nat)(h:i < 4611686018427387904):IntKind.i64.wrap (((i + 1:Nat):Int) - 1)=((i:Nat):Int):=by
 rw [show ((i + 1:Nat):Int) - 1=(i:Int) by omega]; exact wrap_nat (by omega)
theorem ints_get {l:List Int}{i:Nat}{x:Int}(h:l[i]?=some x):(l.map int)[i]?=some (int x):=by simp [h]
structure PairAt (l:List Int) (i:Nat) (p:Int×Int):Prop where
 a:(l.map int)[i]?=some (int p.1)
 b:(l.map int)[i + 1]?=some (int p.2)
 la:i < l.length
 lb:i + 1 < l.length
theorem pair_at {l:List Int}{i:Nat}{p:Int×Int}(h:(prsI l)[i]?=some p):PairAt l i p:=by
 obtain ⟨h1,h2⟩:=prsI_get h
 exact ⟨ints_get h1,ints_get h2,(List.getElem?_eq_some_iff.1 h1).1,(List.getElem?_eq_some_iff.1 h2).1⟩
abbrev bx (x y z:Int×Int):Box:=⟨x.1,y.1,z.1,x.2,y.2,z.2⟩
abbrev YldF (g:Nat)(n:Int):Prop:=∀ (p:Box) (s:Int) (st:FS),L.call g [p.enc,int s,.ptr 500000 0,.ptr 500001 0,.ptr 500002 0] (HF n st)=some (.bool true,HF n (fstP n s st p))
def rowIF (near:List Ev)(n:Int)(xs:List Int)(y z:Int×Int)(st:FS):FS:=(prsI xs).foldl (fun st u=>fstP n (stAt near ⟨u.1,y.1,z.1⟩) st (bx u y z)) st
def rowJF (near:List Ev)(n:Int)(xs ys:List Int)(z:Int×Int)(st:FS):FS:=(prsI ys).foldl (fun st y=>rowIF near n xs y z st) st
def rowKF (near:List Ev)(n:Int)(xs ys zs:List Int)(st:FS):FS:=(prsI zs).foldl (fun st z=>rowJF near n xs ys z st) st
theorem rowK_gridF (near:List Ev)(n:Int)(xs ys zs:List Int)(st:FS):rowKF near n xs ys zs st=(gridB xs ys zs).foldl (fun st p=>fstP n (stAt near p.min) st p) st:=by
 unfold rowKF gridB
 rw [List.foldl_flatMap]
 congr 1
 funext st z
 unfold rowJF
 rw [List.foldl_flatMap]
 congr 1
 funext st y
 unfold rowIF
 rw [List.foldl_map]
 rfl
set_option maxHeartbeats 1000000 in
theorem lp_ei_F (near:List Ev)(hn:near.length < 1000000)(xs ys zs:List Int)(hx0:0 < xs.length)(hxl:xs.length < 1000000000)(hyl:ys.length < 1000000000)(hzl:zs.length < 1000000000)(j k:Nat)(y z:Int×Int)(hpy:PairAt ys j y)(hpz:PairAt zs k z)(n:Int)(st:FS)(g:Nat)(hg:YldF g n)(e:Env)(H:Heap)
   (h2:Gs.get e 2=capF g) (h6:Gs.get e 6=evs true near) (h9:Gs.get e 9=ints xs) (h10:Gs.get e 10=ints ys) (h11:Gs.get e 11=ints zs) (h12:Gs.get e 12=int ((k + 1:Nat))) (h13:Gs.get e 13=int ((j + 1:Nat))) (h14:Gs.get e 14=int ((0 + 1:Nat))) (hy:hget H 500000=some (.box [int n] false)∧hget H 500001=some (.box [.bool st.1] false)∧hget H 500002=some (.box [int st.2.x,int st.2.y,int st.2.z] false)) :
   Ends T 63018 e H (fun X e' H'=>X = .ex 6∧Gs.get e' 2=capF g∧Gs.get e' 6=evs true near∧Gs.get e' 9=ints xs∧Gs.get e' 10=ints ys∧Gs.get e' 11=ints zs∧Gs.get e' 12=int ((k + 1:Nat))∧Gs.get e' 13=int ((j + 1:Nat))∧H'=HF n (rowIF near n xs y z st)):=by
 refine loop_fold (T:=T) (key:=63018) (li:=l63018.1) rfl (prsI xs) (fun st u=>fstP n (stAt near ⟨u.1,y.1,z.1⟩) st (bx u y z)) (fun i st e H=>Gs.get e 2=capF g∧Gs.get e 6=evs true near∧Gs.get e 9=ints xs∧Gs.get e 10=ints ys∧Gs.get e 11=ints zs∧Gs.get e 12=int ((k + 1:Nat))∧Gs.get e 13=int ((j + 1:Nat))∧Gs.get e 14=int ((i + 1:Nat))∧hget H 500000=some (.box [int n] false)∧hget H 500001=some (.box [.bool st.1] false)∧hget H 500002=some (.box [int st.2.x,int st.2.y,int st.2.z] false))
   (fun st X e' H'=>X = .ex 6∧Gs.get e' 2=capF g∧Gs.get e' 6=evs true near∧Gs.get e' 9=ints xs∧Gs.get e' 10=ints ys∧Gs.get e' 11=ints zs∧Gs.get e' 12=int ((k + 1:Nat))∧Gs.get e' 13=int ((j + 1:Nat))∧H'=HF n st) ?_ ?_ st e H ⟨h2,h6,h9,h10,h11,h12,h13,h14,hy⟩
 · rintro i u st e H hi hlt ⟨h2,h6,h9,h10,h11,h12,h13,h14,q0,q1,q2⟩
   obtain ⟨x1,x2,x3,x4⟩:=pair_at hi
   obtain ⟨y1,y2,y3,y4⟩:=hpy
   obtain ⟨z1,z2,z3,z4⟩:=hpz
   have w1:=wrap_less i (by omega)
   have w2:=wrap_less j (by omega)
   have w3:=wrap_less k (by omega)
   have ha:=e_at true near hn ⟨u.1,y.1,z.1⟩
   have hgx:=hg (bx u y z) (stAt near ⟨u.1,y.1,z.1⟩) st
   simp only [↓eA,eB,seval,l63018,h2,h6,h9,h10,h11,h12,h13,h14,q0,q1,q2,x1,x2,x3,x4,y1,y2,y3,y4,z1,z2,z3,z4,w1,w2,w3,ha,hgx,List.map_cons,List.map_nil,List.length_map,killE_nil,wrap_succ (show i + 1 < 4611686018427387904 by omega)]
   and_intros<;>first | trivial | rfl
 · rintro st e H ⟨h2,h6,h9,h10,h11,h12,h13,h14,q0,q1,q2⟩
   have hl:=prsI_len xs
   have hd:(prsI xs).length + 1=xs.length:=by omega
   rw [hd] at h14
   simp only [↓eA,eB,seval,l63018,h2,h6,h9,h10,h11,h12,h13,h14,q0,q1,q2,List.length_map,Nat.lt_irrefl]
   and_intros<;>first | trivial | rfl
theorem lp_ej_F (near:List Ev)(hn:near.length < 1000000)(xs ys zs:List Int)(hx0:0 < xs.length)(hy0:0 < ys.length)(hxl:xs.length < 1000000000)(hyl:ys.length < 1000000000)(hzl:zs.length < 1000000000)(k:Nat)(z:Int×Int)(hpz:PairAt zs k z)(n:Int)(st:FS)(g:Nat)(hg:YldF g n)(e:Env)(H:Heap)
   (h2:Gs.get e 2=capF g) (h6:Gs.get e 6=evs true near) (h9:Gs.get e 9=ints xs) (h10:Gs.get e 10=ints ys) (h11:Gs.get e 11=ints zs) (h12:Gs.get e 12=int ((k + 1:Nat))) (h13:Gs.get e 13=int ((0 + 1:Nat))) (hy:hget H 500000=some (.box [int n] false)∧hget H 500001=some (.box [.bool st.1] false)∧hget H 500002=some (.box [int st.2.x,int st.2.y,int st.2.z] false)) :
   Ends T 63015 e H (fun X e' H'=>X = .ex 4∧Gs.get e' 2=capF g∧Gs.get e' 6=evs true near∧Gs.get e' 9=ints xs∧Gs.get e' 10=ints ys∧Gs.get e' 11=ints zs∧Gs.get e' 12=int ((k + 1:Nat))∧H'=HF n (rowJF near n xs ys z st)):=by
 refine loop_fold (T:=T) (key:=63015) (li:=l63015.1) rfl (prsI ys) (fun st y=>rowIF near n xs y z st) (fun i st e H=>Gs.get e 2=capF g∧Gs.get e 6=evs true near∧Gs.get e 9=ints xs∧Gs.get e 10=ints ys∧Gs.get e 11=ints zs∧Gs.get e 12=int ((k + 1:Nat))∧Gs.get e 13=int ((i + 1:Nat))∧hget H 500000=some (.box [int n] false)∧hget H 500001=some (.box [.bool st.1] false)∧hget H 500002=some (.box [int st.2.x,int st.2.y,int st.2.z] false))
   (fun st X e' H'=>X = .ex 4∧Gs.get e' 2=capF g∧Gs.get e' 6=evs true near∧Gs.get e' 9=ints xs∧Gs.get e' 10=ints ys∧Gs.get e' 11=ints zs∧Gs.get e' 12=int ((k + 1:Nat))∧H'=HF n st) ?_ ?_ st e H ⟨h2,h6,h9,h10,h11,h12,h13,hy⟩
 · rintro i y st e H hi hlt ⟨h2,h6,h9,h10,h11,h12,h13,q0,q1,q2⟩
   have hpy:=pair_at hi
   have y4:=hpy.lb
   simp only [↓eA,eB,seval,l63015,h2,h6,h9,h10,h11,h12,h13,q0,q1,q2,y4,List.length_map]
   generalize hE:(lim T).loop 63018 _ _=R
   obtain ⟨X,e',H',rfl,rfl,k2,k6,k9,k10,k11,k12,k13,rfl⟩:=Ends.at hE (lp_ei_F near hn xs ys zs hx0 hxl hyl hzl i k y z hpy hpz n st g hg _ _ (by simp only [↓eA,eB,seval]) (by simp only [↓eA,eB,seval]) (by simp only [↓eA,eB,seval]) (by simp only [↓eA,eB,seval]) (by simp only [↓eA,eB,seval]) (by simp only [↓eA,eB,seval]) (by simp only [↓eA,eB,seval]) (by simp only [↓eA,eB,seval]) (by and_intros<;>rfl))
   simp only [↓eA,eB,seval,k2,k6,k9,k10,k11,k12,k13,wrap_succ (show i + 1 < 4611686018427387904 by omega)]
   and_intros<;>first | trivial | rfl
 · rintro st e H ⟨h2,h6,h9,h10,h11,h12,h13,q0,q1,q2⟩
   have hl:=prsI_len ys
   have hd:(prsI ys).length + 1=ys.length:=by omega
   rw [hd] at h13
   simp only [↓eA,eB,seval,l63015,h2,h6,h9,h10,h11,h12,h13,q0,q1,q2,List.length_map,Nat.lt_irrefl]
   and_intros<;>first | trivial | rfl
theorem lp_ek_F (near:List Ev)(hn:near.length < 1000000)(xs ys zs:List Int)(hx0:0 < xs.length)(hy0:0 < ys.length)(hz0:0 < zs.length)(hxl:xs.length < 1000000000)(hyl:ys.length < 1000000000)(hzl:zs.length < 1000000000)(n:Int)(st:FS)(g:Nat)(hg:YldF g n)(e:Env)(H:Heap)
   (h2:Gs.get e 2=capF g) (h6:Gs.get e 6=evs true near) (h9:Gs.get e 9=ints xs) (h10:Gs.get e 10=ints ys) (h11:Gs.get e 11=ints zs) (h12:Gs.get e 12=int ((0 + 1:Nat))) (hy:hget H 500000=some (.box [int n] false)∧hget H 500001=some (.box [.bool st.1] false)∧hget H 500002=some (.box [int st.2.x,int st.2.y,int st.2.z] false)) :
   Ends T 63012 e H (fun X e' H'=>X = .ex 2∧H'=HF n (rowKF near n xs ys zs st)):=by
 refine loop_fold (T:=T) (key:=63012) (li:=l63012.1) rfl (prsI zs) (fun st z=>rowJF near n xs ys z st) (fun i st e H=>Gs.get e 2=capF g∧Gs.get e 6=evs true near∧Gs.get e 9=ints xs∧Gs.get e 10=ints ys∧Gs.get e 11=ints zs∧Gs.get e 12=int ((i + 1:Nat))∧hget H 500000=some (.box [int n] false)∧hget H 500001=some (.box [.bool st.1] false)∧hget H 500002=some (.box [int st.2.x,int st.2.y,int st.2.z] false))
   (fun st X e' H'=>X = .ex 2∧H'=HF n st) ?_ ?_ st e H ⟨h2,h6,h9,h10,h11,h12,hy⟩
 · rintro i z st e H hi hlt ⟨h2,h6,h9,h10,h11,h12,q0,q1,q2⟩
   have hpz:=pair_at hi
   have z4:=hpz.lb
   simp only [↓eA,eB,seval,l63012,h2,h6,h9,h10,h11,h12,q0,q1,q2,z4,List.length_map]
   generalize hE:(lim T).loop 63015 _ _=R
   obtain ⟨X,e',H',rfl,rfl,k2,k6,k9,k10,k11,k12,rfl⟩:=Ends.at hE (lp_ej_F near hn xs ys zs hx0 hy0 hxl hyl hzl i z hpz n st g hg _ _ (by simp only [↓eA,eB,seval]) (by simp only [↓eA,eB,seval]) (by simp only [↓eA,eB,seval]) (by simp only [↓eA,eB,seval]) (by simp only [↓eA,eB,seval]) (by simp only [↓eA,eB,seval]) (by simp only [↓eA,eB,seval]) (by and_intros<;>rfl))
   simp only [↓eA,eB,seval,k2,k6,k9,k10,k11,k12,wrap_succ (show i + 1 < 4611686018427387904 by omega)]
   and_intros<;>first | trivial | rfl
 · rintro st e H ⟨h2,h6,h9,h10,h11,h12,q0,q1,q2⟩
   have hl:=prsI_len zs
   have hd:(prsI zs).length + 1=zs.length:=by omega
   rw [hd] at h12
   simp only [↓eA,eB,seval,l63012,h2,h6,h9,h10,h11,h12,q0,q1,q2,List.length_map,Nat.lt_irrefl]
   and_intros<;>first | trivial | rfl
abbrev YldV (g:Nat)(n:Int):Prop:=∀ (p:Box) (s:Int) (st:Int),L.call g [p.enc,int s,.ptr 500000 0,.ptr 500001 0] (HV n st)=some (.bool true,HV n (volP n s st p))
def rowIV (near:List Ev)(n:Int)(xs:List Int)(y z:Int×Int)(st:Int):Int:=(prsI xs).foldl (fun st u=>volP n (stAt near ⟨u.1,y.1,z.1⟩) st (bx u y z)) st
def rowJV (near:List Ev)(n:Int)(xs ys:List Int)(z:Int×Int)(st:Int):Int:=(prsI ys).foldl (fun st y=>rowIV near n xs y z st) st
def rowKV (near:List Ev)(n:Int)(xs ys zs:List Int)(st:Int):Int:=(prsI zs).foldl (fun st z=>rowJV near n xs ys z st) st
theorem rowK_gridV (near:List Ev)(n:Int)(xs ys zs:List Int)(st:Int):rowKV near n xs ys zs st=(gridB xs ys zs).foldl (fun st p=>volP n (stAt near p.min) st p) st:=by
 unfold rowKV gridB
 rw [List.foldl_flatMap]
 congr 1
 funext st z
 unfold rowJV
 rw [List.foldl_flatMap]
 congr 1
 funext st y
 unfold rowIV
 rw [List.foldl_map]
 rfl
set_option maxHeartbeats 1000000 in
theorem lp_ei_V (near:List Ev)(hn:near.length < 1000000)(xs ys zs:List Int)(hx0:0 < xs.length)(hxl:xs.length < 1000000000)(hyl:ys.length < 1000000000)(hzl:zs.length < 1000000000)(j k:Nat)(y z:Int×Int)(hpy:PairAt ys j y)(hpz:PairAt zs k z)(n:Int)(st:Int)(g:Nat)(hg:YldV g n)(e:Env)(H:Heap)
   (h2:Gs.get e 2=capV g) (h6:Gs.get e 6=evs true near) (h9:Gs.get e 9=ints xs) (h10:Gs.get e 10=ints ys) (h11:Gs.get e 11=ints zs) (h12:Gs.get e 12=int ((k + 1:Nat))) (h13:Gs.get e 13=int ((j + 1:Nat))) (h14:Gs.get e 14=int ((0 + 1:Nat))) (hy:hget H 500000=some (.box [int n] false)∧hget H 500001=some (.box [int st] false)∧hget H 500002=none) :
   Ends T 63018 e H (fun X e' H'=>X = .ex 6∧Gs.get e' 2=capV g∧Gs.get e' 6=evs true near∧Gs.get e' 9=ints xs∧Gs.get e' 10=ints ys∧Gs.get e' 11=ints zs∧Gs.get e' 12=int ((k + 1:Nat))∧Gs.get e' 13=int ((j + 1:Nat))∧H'=HV n (rowIV near n xs y z st)):=by
 refine loop_fold (T:=T) (key:=63018) (li:=l63018.1) rfl (prsI xs) (fun st u=>volP n (stAt near ⟨u.1,y.1,z.1⟩) st (bx u y z)) (fun i st e H=>Gs.get e 2=capV g∧Gs.get e 6=evs true near∧Gs.get e 9=ints xs∧Gs.get e 10=ints ys∧Gs.get e 11=ints zs∧Gs.get e 12=int ((k + 1:Nat))∧Gs.get e 13=int ((j + 1:Nat))∧Gs.get e 14=int ((i + 1:Nat))∧hget H 500000=some (.box [int n] false)∧hget H 500001=some (.box [int st] false)∧hget H 500002=none)
   (fun st X e' H'=>X = .ex 6∧Gs.get e' 2=capV g∧Gs.get e' 6=evs true near∧Gs.get e' 9=ints xs∧Gs.get e' 10=ints ys∧Gs.get e' 11=ints zs∧Gs.get e' 12=int ((k + 1:Nat))∧Gs.get e' 13=int ((j + 1:Nat))∧H'=HV n st) ?_ ?_ st e H ⟨h2,h6,h9,h10,h11,h12,h13,h14,hy⟩
 · rintro i u st e H hi hlt ⟨h2,h6,h9,h10,h11,h12,h13,h14,q0,q1,q2⟩
   obtain ⟨x1,x2,x3,x4⟩:=pair_at hi
   obtain ⟨y1,y2,y3,y4⟩:=hpy
   obtain ⟨z1,z2,z3,z4⟩:=hpz
   have w1:=wrap_less i (by omega)
   have w2:=wrap_less j (by omega)
   have w3:=wrap_less k (by omega)
   have ha:=e_at true near hn ⟨u.1,y.1,z.1⟩
   have hgx:=hg (bx u y z) (stAt near ⟨u.1,y.1,z.1⟩) st
   simp only [↓eA,eB,seval,l63018,h2,h6,h9,h10,h11,h12,h13,h14,q0,q1,q2,x1,x2,x3,x4,y1,y2,y3,y4,z1,z2,z3,z4,w1,w2,w3,ha,hgx,List.map_cons,List.map_nil,List.length_map,killE_nil,wrap_succ (show i + 1 < 4611686018427387904 by omega)]
   and_intros<;>first | trivial | rfl
 · rintro st e H ⟨h2,h6,h9,h10,h11,h12,h13,h14,q0,q1,q2⟩
   have hl:=prsI_len xs
   have hd:(prsI xs).length + 1=xs.length:=by omega
   rw [hd] at h14
   simp only [↓eA,eB,seval,l63018,h2,h6,h9,h10,h11,h12,h13,h14,q0,q1,q2,List.length_map,Nat.lt_irrefl]
   and_intros<;>first | trivial | rfl
theorem lp_ej_V (near:List Ev)(hn:near.length < 1000000)(xs ys zs:List Int)(hx0:0 < xs.length)(hy0:0 < ys.length)(hxl:xs.length < 1000000000)(hyl:ys.length < 1000000000)(hzl:zs.length < 1000000000)(k:Nat)(z:Int×Int)(hpz:PairAt zs k z)(n:Int)(st:Int)(g:Nat)(hg:YldV g n)(e:Env)(H:Heap)
   (h2:Gs.get e 2=capV g) (h6:Gs.get e 6=evs true near) (h9:Gs.get e 9=ints xs) (h10:Gs.get e 10=ints ys) (h11:Gs.get e 11=ints zs) (h12:Gs.get e 12=int ((k + 1:Nat))) (h13:Gs.get e 13=int ((0 + 1:Nat))) (hy:hget H 500000=some (.box [int n] false)∧hget H 500001=some (.box [int st] false)∧hget H 500002=none) :
   Ends T 63015 e H (fun X e' H'=>X = .ex 4∧Gs.get e' 2=capV g∧Gs.get e' 6=evs true near∧Gs.get e' 9=ints xs∧Gs.get e' 10=ints ys∧Gs.get e' 11=ints zs∧Gs.get e' 12=int ((k + 1:Nat))∧H'=HV n (rowJV near n xs ys z st)):=by
 refine loop_fold (T:=T) (key:=63015) (li:=l63015.1) rfl (prsI ys) (fun st y=>rowIV near n xs y z st) (fun i st e H=>Gs.get e 2=capV g∧Gs.get e 6=evs true near∧Gs.get e 9=ints xs∧Gs.get e 10=ints ys∧Gs.get e 11=ints zs∧Gs.get e 12=int ((k + 1:Nat))∧Gs.get e 13=int ((i + 1:Nat))∧hget H 500000=some (.box [int n] false)∧hget H 500001=some (.box [int st] false)∧hget H 500002=none)
   (fun st X e' H'=>X = .ex 4∧Gs.get e' 2=capV g∧Gs.get e' 6=evs true near∧Gs.get e' 9=ints xs∧Gs.get e' 10=ints ys∧Gs.get e' 11=ints zs∧Gs.get e' 12=int ((k + 1:Nat))∧H'=HV n st) ?_ ?_ st e H ⟨h2,h6,h9,h10,h11,h12,h13,hy⟩
 · rintro i y st e H hi hlt ⟨h2,h6,h9,h10,h11,h12,h13,q0,q1,q2⟩
   have hpy:=pair_at hi
   have y4:=hpy.lb
   simp only [↓eA,eB,seval,l63015,h2,h6,h9,h10,h11,h12,h13,q0,q1,q2,y4,List.length_map]
   generalize hE:(lim T).loop 63018 _ _=R
   obtain ⟨X,e',H',rfl,rfl,k2,k6,k9,k10,k11,k12,k13,rfl⟩:=Ends.at hE (lp_ei_V near hn xs ys zs hx0 hxl hyl hzl i k y z hpy hpz n st g hg _ _ (by simp only [↓eA,eB,seval]) (by simp only [↓eA,eB,seval]) (by simp only [↓eA,eB,seval]) (by simp only [↓eA,eB,seval]) (by simp only [↓eA,eB,seval]) (by simp only [↓eA,eB,seval]) (by simp only [↓eA,eB,seval]) (by simp only [↓eA,eB,seval]) (by and_intros<;>rfl))
   simp only [↓eA,eB,seval,k2,k6,k9,k10,k11,k12,k13,wrap_succ (show i + 1 < 4611686018427387904 by omega)]
   and_intros<;>first | trivial | rfl
 · rintro st e H ⟨h2,h6,h9,h10,h11,h12,h13,q0,q1,q2⟩
   have hl:=prsI_len ys
   have hd:(prsI ys).length + 1=ys.length:=by omega
   rw [hd] at h13
   simp only [↓eA,eB,seval,l63015,h2,h6,h9,h10,h11,h12,h13,q0,q1,q2,List.length_map,Nat.lt_irrefl]
   and_intros<;>first | trivial | rfl
theorem lp_ek_V (near:List Ev)(hn:near.length < 1000000)(xs ys zs:List Int)(hx0:0 < xs.length)(hy0:0 < ys.length)(hz0:0 < zs.length)(hxl:xs.length < 1000000000)(hyl:ys.length < 1000000000)(hzl:zs.length < 1000000000)(n:Int)(st:Int)(g:Nat)(hg:YldV g n)(e:Env)(H:Heap)
   (h2:Gs.get e 2=capV g) (h6:Gs.get e 6=evs true near) (h9:Gs.get e 9=ints xs) (h10:Gs.get e 10=ints ys) (h11:Gs.get e 11=ints zs) (h12:Gs.get e 12=int ((0 + 1:Nat))) (hy:hget H 500000=some (.box [int n] false)∧hget H 500001=some (.box [int st] false)∧hget H 500002=none) :
   Ends T 63012 e H (fun X e' H'=>X = .ex 2∧H'=HV n (rowKV near n xs ys zs st)):=by
 refine loop_fold (T:=T) (key:=63012) (li:=l63012.1) rfl (prsI zs) (fun st z=>rowJV near n xs ys z st) (fun i st e H=>Gs.get e 2=capV g∧Gs.get e 6=evs true near∧Gs.get e 9=ints xs∧Gs.get e 10=ints ys∧Gs.get e 11=ints zs∧Gs.get e 12=int ((i + 1:Nat))∧hget H 500000=some (.box [int n] false)∧hget H 500001=some (.box [int st] false)∧hget H 500002=none)
   (fun st X e' H'=>X = .ex 2∧H'=HV n st) ?_ ?_ st e H ⟨h2,h6,h9,h10,h11,h12,hy⟩
 · rintro i z st e H hi hlt ⟨h2,h6,h9,h10,h11,h12,q0,q1,q2⟩
   have hpz:=pair_at hi
   have z4:=hpz.lb
   simp only [↓eA,eB,seval,l63012,h2,h6,h9,h10,h11,h12,q0,q1,q2,z4,List.length_map]
   generalize hE:(lim T).loop 63015 _ _=R
   obtain ⟨X,e',H',rfl,rfl,k2,k6,k9,k10,k11,k12,rfl⟩:=Ends.at hE (lp_ej_V near hn xs ys zs hx0 hy0 hxl hyl hzl i z hpz n st g hg _ _ (by simp only [↓eA,eB,seval]) (by simp only [↓eA,eB,seval]) (by simp only [↓eA,eB,seval]) (by simp only [↓eA,eB,seval]) (by simp only [↓eA,eB,seval]) (by simp only [↓eA,eB,seval]) (by simp only [↓eA,eB,seval]) (by and_intros<;>rfl))
   simp only [↓eA,eB,seval,k2,k6,k9,k10,k11,k12,wrap_succ (show i + 1 < 4611686018427387904 by omega)]
   and_intros<;>first | trivial | rfl
 · rintro st e H ⟨h2,h6,h9,h10,h11,h12,q0,q1,q2⟩
   have hl:=prsI_len zs
   have hd:(prsI zs).length + 1=zs.length:=by omega
   rw [hd] at h12
   simp only [↓eA,eB,seval,l63012,h2,h6,h9,h10,h11,h12,q0,q1,q2,List.length_map,Nat.lt_irrefl]
   and_intros<;>first | trivial | rfl
end Tz.C18
set_option maxRecDepth 100000
open Gs Go
namespace Tz.C18
abbrev fx (b:Box):Int×Int:=(b.x0,b.x1)
abbrev fy (b:Box):Int×Int:=(b.y0,b.y1)
abbrev fz_ (b:Box):Int×Int:=(b.z0,b.z1)
def gridOf (b:Box)(l:List Ev):List Box:=gridB (cutsL b.x0 b.x1 fx (nearL b l)) (cutsL b.y0 b.y1 fy (nearL b l)) (cutsL b.z0 b.z1 fz_ (nearL b l))
theorem cutsL_pos {lo hi:Int}(h:lo < hi)(f:Box→Int×Int)(l:List Ev):0 < (cutsL lo hi f l).length:=by
 have:=(cutsL_ok h f l).1.fst
 cases hc:cutsL lo hi f l with
 | nil=>rw [hc] at this; cases this
 | cons a r=>simp
set_option maxHeartbeats 1000000 in
theorem e_each_F (b:Box)(hb:b.x0 < b.x1∧b.y0 < b.y1∧b.z0 < b.z1)(nz:Bool)(l:List Ev)(hl:l.length < 1000000)(n:Int)(st:FS)(g:Nat)(hg:YldF g n) :
   L.call 63 [evs nz l,b.enc,capF g] (HF n st)=some (.tup [],HF n ((gridOf b l).foldl (fun st p=>fstP n (stAt (nearL b l) p.min) st p) st)):=by
 have hnl:(nearL b l).length < 1000000:=by have:=near_len b l; omega
 have c1:=e_cuts b.x0 b.x1 true (nearL b l) hnl 102 fx e_ex
 have c2:=e_cuts b.y0 b.y1 true (nearL b l) hnl 103 fy e_ey
 have c3:=e_cuts b.z0 b.z1 true (nearL b l) hnl 104 fz_ e_ez
 have p1:=cutsL_pos hb.1 fx (nearL b l)
 have p2:=cutsL_pos hb.2.1 fy (nearL b l)
 have p3:=cutsL_pos hb.2.2 fz_ (nearL b l)
 have l1:=cutsL_len b.x0 b.x1 fx (nearL b l)
 have l2:=cutsL_len b.y0 b.y1 fy (nearL b l)
 have l3:=cutsL_len b.z0 b.z1 fz_ (nearL b l)
 have hgr:(gridOf b l).foldl (fun st p=>fstP n (stAt (nearL b l) p.min) st p) st=rowKF (nearL b l) n (cutsL b.x0 b.x1 fx (nearL b l)) (cutsL b.y0 b.y1 fy (nearL b l)) (cutsL b.z0 b.z1 fz_ (nearL b l)) st:=(rowK_gridF ..).symm
 rw [hgr]
 exact call_eq rfl rfl (by
   simp only [↓eA,eB,seval,c63]
   generalize hE:(lim T).loop 63003 _ _=R
   obtain ⟨X,e',H',rfl,rfl,k2,k4,k6,rfl⟩:=Ends.at hE (lp_near_F b nz l hl n st g _ _ (by simp only [↓eA,eB,seval]) (by simp only [↓eA,eB,seval]) (by simp only [↓eA,eB,seval]) (by simp only [↓eA,eB,seval]) (by simp only [↓eA,eB,seval,List.length_map]) (by simp only [↓eA,eB,seval]) (by simp only [↓eA,eB,seval]) (by simp only [↓eA,eB,seval]) (by and_intros<;>simp only [↓eA,eB,seval]))
   simp only [↓eA,eB,seval,k2,k4,k6,c1,c2,c3]
   generalize hE:(lim T).loop 63012 _ _=R
   obtain ⟨X,e',H',rfl,rfl,rfl⟩:=Ends.at hE (lp_ek_F (nearL b l) hnl _ _ _ p1 p2 p3 (by omega) (by omega) (by omega) n st g hg _ _ (by simp only [↓eA,eB,seval,k2]) (by simp only [↓eA,eB,seval]) (by simp only [↓eA,eB,seval]) (by simp only [↓eA,eB,seval]) (by simp only [↓eA,eB,seval]) (by simp only [↓eA,eB,seval]) (by and_intros<;>simp only [↓eA,eB,seval]))
   simp only [↓eA,eB,seval])
set_option maxHeartbeats 1000000 in
theorem e_each_V (b:Box)(hb:b.x0 < b.x1∧b.y0 < b.y1∧b.z0 < b.z1)(nz:Bool)(l:List Ev)(hl:l.length < 1000000)(n:Int)(st:Int)(g:Nat)(hg:YldV g n) :
   L.call 63 [evs nz l,b.enc,capV g] (HV n st)=some (.tup [],HV n ((gridOf b l).foldl (fun st p=>volP n (stAt (nearL b l) p.min) st p) st)):=by
 have hnl:(nearL b l).length < 1000000:=by have:=near_len b l; omega
 have c1:=e_cuts b.x0 b.x1 true (nearL b l) hnl 102 fx e_ex
 have c2:=e_cuts b.y0 b.y1 true (nearL b l) hnl 103 fy e_ey
 have c3:=e_cuts b.z0 b.z1 true (nearL b l) hnl 104 fz_ e_ez
 have p1:=cutsL_pos hb.1 fx (nearL b l)
 have p2:=cutsL_pos hb.2.1 fy (nearL b l)
 have p3:=cutsL_pos hb.2.2 fz_ (nearL b l)
 have l1:=cutsL_len b.x0 b.x1 fx (nearL b l)
 have l2:=cutsL_len b.y0 b.y1 fy (nearL b l)
 have l3:=cutsL_len b.z0 b.z1 fz_ (nearL b l)
 have hgr:(gridOf b l).foldl (fun st p=>volP n (stAt (nearL b l) p.min) st p) st=rowKV (nearL b l) n (cutsL b.x0 b.x1 fx (nearL b l)) (cutsL b.y0 b.y1 fy (nearL b l)) (cutsL b.z0 b.z1 fz_ (nearL b l)) st:=(rowK_gridV ..).symm
 rw [hgr]
 exact call_eq rfl rfl (by
   simp only [↓eA,eB,seval,c63]
   generalize hE:(lim T).loop 63003 _ _=R
   obtain ⟨X,e',H',rfl,rfl,k2,k4,k6,rfl⟩:=Ends.at hE (lp_near_V b nz l hl n st g _ _ (by simp only [↓eA,eB,seval]) (by simp only [↓eA,eB,seval]) (by simp only [↓eA,eB,seval]) (by simp only [↓eA,eB,seval]) (by simp only [↓eA,eB,seval,List.length_map]) (by simp only [↓eA,eB,seval]) (by simp only [↓eA,eB,seval]) (by simp only [↓eA,eB,seval]) (by and_intros<;>simp only [↓eA,eB,seval]))
   simp only [↓eA,eB,seval,k2,k4,k6,c1,c2,c3]
   generalize hE:(lim T).loop 63012 _ _=R
   obtain ⟨X,e',H',rfl,rfl,rfl⟩:=Ends.at hE (lp_ek_V (nearL b l) hnl _ _ _ p1 p2 p3 (by omega) (by omega) (by omega) n st g hg _ _ (by simp only [↓eA,eB,seval,k2]) (by simp only [↓eA,eB,seval]) (by simp only [↓eA,eB,seval]) (by simp only [↓eA,eB,seval]) (by simp only [↓eA,eB,seval]) (by simp only [↓eA,eB,seval]) (by and_intros<;>simp only [↓eA,eB,seval]))
   simp only [↓eA,eB,seval])
theorem e_first1 (n:Int):YldF 176 n:=by
 rintro p s ⟨f,m⟩
 have hb:L.call 177 [.agg [int p.x0,int p.y0,int p.z0],.agg [int m.x,int m.y,int m.z]] []=some (.bool (bef p.min m),[]):=e_mbefore p.min m
 refine call_eq rfl rfl ?_
 unfold fstP
 cases hc:decide (s=n) with
 | false=>simp only [↓eA,eB,seval,c176,hc]
 | true=>
 cases f with
 | false=>simp only [↓eA,eB,seval,c176,hc]; rfl
 | true=>
 cases hbf:bef p.min m with
 | false=>simp only [↓eA,eB,seval,c176,hc,hb,hbf]
 | true=>simp only [↓eA,eB,seval,c176,hc,hb,hbf]; rfl
theorem e_bVolume (p:Box):∃ k,L.call 65 [p.enc] []=some (.tup [int (vW p),int k],[]):=by
 have h1:=e_bCheck p
 have h2:L.call 156 [p.enc] []=some (.agg [int (IntKind.i64.wrap (p.x1 - p.x0)),int (IntKind.i64.wrap (p.y1 - p.y0)),int (IntKind.i64.wrap (p.z1 - p.z0))],[]):=call_eq rfl rfl (by simp only [↓eA,eB,seval,c156])
 unfold vW
 cases hc:decide (boxErr p=0) with
 | false=>exact ⟨boxErr p,call_eq rfl rfl (by simp only [↓eA,eB,seval,c65,h1,hc])⟩
 | true=>
   have h3:L.call 106 [p.enc] []=some (int (IntKind.i64.wrap (IntKind.i64.wrap (IntKind.i64.wrap (p.x1 - p.x0) * IntKind.i64.wrap (p.y1 - p.y0)) * IntKind.i64.wrap (p.z1 - p.z0))),[]):=call_eq rfl rfl (by simp only [↓eA,eB,seval,c106,h2])
   exact ⟨0,call_eq rfl rfl (by simp only [↓eA,eB,seval,c65,h1,hc,h3])⟩
theorem e_vol1 (n:Int):YldV 64 n:=by
 intro p s st
 obtain ⟨k,hv⟩:=e_bVolume p
 refine call_eq rfl rfl ?_
 unfold volP
 cases hc:decide (s=n) with
 | false=>simp only [↓eA,eB,seval,c64,hc]
 | true=>simp only [↓eA,eB,seval,c64,hc,hv]
end Tz.C18
set_option maxRecDepth 100000
open Gs Go
namespace Tz.C18
theorem boxErr_in {b:Box}(h:boxErr b=0):(-1000000≤b.x0∧b.x0 < b.x1∧b.x1≤1000000)∧(-1000000≤b.y0∧b.y0 < b.y1∧b.y1≤1000000)∧(-1000000≤b.z0∧b.z0 < b.z1∧b.z1≤1000000):=by
 unfold boxErr at h
 cases h1:far2 b.x0 b.x1 || (far2 b.y0 b.y1 || far2 b.z0 b.z1) with
 | true=>rw [h1] at h; cases h
 | false=>
   rw [h1] at h
   cases h2:decide (b.x1≤b.x0) || (decide (b.y1≤b.y0) || decide (b.z1≤b.z0)) with
   | true=>rw [h2] at h; cases h
   | false=>
     simp only [far2,inr,Bool.or_eq_false_iff,Bool.not_eq_false',Bool.and_eq_true,decide_eq_true_eq,decide_eq_false_iff_not] at h1 h2
     omega
theorem in_boxErr {b:Box}(h:(-1000000≤b.x0∧b.x0 < b.x1∧b.x1≤1000000)∧(-1000000≤b.y0∧b.y0 < b.y1∧b.y1≤1000000)∧(-1000000≤b.z0∧b.z0 < b.z1∧b.z1≤1000000)):boxErr b=0:=by
 have hf:∀ p q:Int,-1000000≤p→p≤1000000→-1000000≤q→q≤1000000→far2 p q=false:=fun p q a b c d=>by
   unfold far2 inr
   rw [decide_eq_true a,decide_eq_true b,decide_eq_true c,decide_eq_true d]; rfl
 unfold boxErr
 rw [hf _ _ (by omega) (by omega) (by omega) (by omega),hf _ _ (by omega) (by omega) (by omega) (by omega),hf _ _ (by omega) (by omega) (by omega) (by omega),decide_eq_false (by omega),decide_eq_false (by omega),decide_eq_false (by omega)]
 rfl
theorem e_mstate (n:Int)(hn:0≤n∧n≤3):L.call 99 [int n] []=some (.bool true,[]):=call_eq rfl rfl (by simp only [↓eA,eB,seval,c99,hn.1,hn.2])
theorem e_mready (nz:Bool)(l:List Ev)(hl:l.length < 1000000)(b:Box)(n:Int)(he:evErr l=0)(hb:boxErr b=0)(hn:0≤n∧n≤3):L.call 62 [evs nz l,b.enc,int n] []=some (int 0,[]):=by
 have h1:=e_mCheck nz l hl
 have h2:=e_bCheck b
 have h3:=e_mstate n hn
 rw [he] at h1
 rw [hb] at h2
 exact call_eq rfl rfl (by simp only [↓eA,eB,seval,c62,h1,h2,h3])
def firstS (l:List Ev)(b:Box)(n:Int):FS:=(gridOf b l).foldl (fun st p=>fstP n (stAt (nearL b l) p.min) st p) (false,⟨0,0,0⟩)
def volS (l:List Ev)(b:Box)(n:Int):Int:=(gridOf b l).foldl (fun st p=>volP n (stAt (nearL b l) p.min) st p) 0
theorem e_mFirst (nz:Bool)(l:List Ev)(hl:l.length < 1000000)(b:Box)(n:Int)(he:evErr l=0)(hb:boxErr b=0)(hn:0≤n∧n≤3):L.call 130 [evs nz l,b.enc,int n] []=some (match firstS l b n with | (true,m)=>.tup [m.enc,int 0] | (false,_)=>.tup [(⟨0,0,0⟩:V3).enc,int 9],[]):=by
 have hr:=e_mready nz l hl b n he hb hn
 have h3:=boxErr_in hb
 have hk:=e_each_F b ⟨h3.1.2.1,h3.2.1.2.1,h3.2.2.2.1⟩ nz l hl n (false,⟨0,0,0⟩) 176 (e_first1 n)
 unfold firstS
 generalize (gridOf b l).foldl (fun st p=>fstP n (stAt (nearL b l) p.min) st p) (false,⟨0,0,0⟩)=st at hk ⊢
 obtain ⟨f,m⟩:=st
 cases f with
 | false=>exact call_eq rfl rfl (by simp only [↓eA,eB,seval,c130,hr,hk])
 | true=>exact call_eq rfl rfl (by simp only [↓eA,eB,seval,c130,hr,hk])
theorem e_mVolume (nz:Bool)(l:List Ev)(hl:l.length < 1000000)(b:Box)(n:Int)(he:evErr l=0)(hb:boxErr b=0)(hn:0≤n∧n≤3):L.call 26 [evs nz l,b.enc,int n] []=some (.tup [int (volS l b n),int 0],[]):=by
 have hr:=e_mready nz l hl b n he hb hn
 have h3:=boxErr_in hb
 have hk:=e_each_V b ⟨h3.1.2.1,h3.2.1.2.1,h3.2.2.2.1⟩ nz l hl n 0 64 (e_vol1 n)
 exact call_eq rfl rfl (by simp only [↓eA,eB,seval,c26,hr,hk]; rfl)
theorem apart_has {x b:Box}(h:apart x b=true){p:V3}(hp:b.has p=true):x.has p=false:=by
 cases hx:x.has p with
 | false=>rfl
 | true=>
   rw [has_iff] at hx hp
   simp only [apart,Bool.or_eq_true,decide_eq_true_eq] at h
   omega
theorem near_st {l:List Ev}{b:Box}{p:V3}(hp:b.has p=true):stAt (nearL b l) p=stAt l p:=
 stAt_near fun e _ hf=>apart_has (by simpa using hf) hp
theorem grid_ok {b:Box}(hb:b.x0 < b.x1∧b.y0 < b.y1∧b.z0 < b.z1)(l:List Ev):GridOk (nearL b l) b (cutsL b.x0 b.x1 fx (nearL b l)) (cutsL b.y0 b.y1 fy (nearL b l)) (cutsL b.z0 b.z1 fz_ (nearL b l)):=
 ⟨(cutsL_ok hb.1 fx _).1,(cutsL_ok hb.2.1 fy _).1,(cutsL_ok hb.2.2 fz_ _).1,(cutsL_ok hb.1 fx _).2,(cutsL_ok hb.2.1 fy _).2,(cutsL_ok hb.2.2 fz_ _).2⟩
def optF (st:FS):Option V3:=bif st.1 then some st.2 else none
theorem fold_opt (sf:V3→Int)(n:Int):∀ (ps:List Box) (st:FS),optF (ps.foldl (fun st p=>fstP n (sf p.min) st p) st)=ps.foldl (fstStep sf n) (optF st)
 | [],st=>rfl
 | p :: ps,st=>by
   rw [List.foldl_cons,List.foldl_cons,fold_opt sf n ps]
   congr 1
   obtain ⟨f,m⟩:=st
   unfold fstP fstStep optF
   cases f<;>cases decide (sf p.min=n)<;>cases hb:bef p.min m<;>simp [hb]
theorem _root_.Tz.Least.congr {b:Box}{st st':V3→Int}{n:Int}{r:Option V3}(h:Least b st n r)(hs:∀ c,b.has c=true→st c=st' c):Least b st' n r:=
 ⟨fun hr p hp=>by rw [←hs p hp]; exact h.no hr p hp,fun m hm=>by
   obtain ⟨h1,h2,h3⟩:=h.yes m hm
   exact ⟨h1,by rw [←hs m h1]; exact h2,fun p hp hn=>h3 p hp (by rw [hs p hp]; exact hn)⟩⟩
theorem first_least {b:Box}(hb:b.x0 < b.x1∧b.y0 < b.y1∧b.z0 < b.z1)(l:List Ev)(n:Int):Least b (stAt l) n (optF (firstS l b n)):=by
 unfold firstS
 rw [fold_opt (fun p=>stAt (nearL b l) p) n]
 exact (fst_least (grid_ok hb l).divides).congr fun c hc=>near_st hc
theorem vol_const (n:Int)(b:Box)(hb:b.x0 < b.x1∧b.y0 < b.y1∧b.z0 < b.z1):cellsN (fun _=>n) n b=boxVol b:=by
 unfold cellsN boxVol
 have:∀ c:V3,isN (fun _=>n) n c=1:=fun c=>by unfold isN; rw [if_pos rfl]
 rw [sumI_const (c:=(b.y1 - b.y0) * (b.x1 - b.x0)) _ _ fun z _ _=>?_]
 · rw [show (((b.z1 - b.z0).toNat:Nat):Int)=b.z1 - b.z0 by omega,Int.mul_comm (b.z1 - b.z0),Int.mul_comm (b.y1 - b.y0)]
 · rw [sumI_const (c:=b.x1 - b.x0) _ _ fun y _ _=>?_]
   · rw [show (((b.y1 - b.y0).toNat:Nat):Int)=b.y1 - b.y0 by omega]
   · rw [sumI_const (c:=1) _ _ fun x _ _=>this _,show (((b.x1 - b.x0).toNat:Nat):Int)=b.x1 - b.x0 by omega,Int.mul_one]
theorem boxVol_le {b:Box}(hb:boxErr b=0):0≤boxVol b∧boxVol b≤8000000000000000000:=by
 have h:=boxErr_in hb
 unfold boxVol
 have h1:0≤(b.x1 - b.x0) * (b.y1 - b.y0):=Int.mul_nonneg (by omega) (by omega)
 have h2:(b.x1 - b.x0) * (b.y1 - b.y0)≤2000000 * 2000000:=Int.mul_le_mul (by omega) (by omega) (by omega) (by omega)
 refine ⟨Int.mul_nonneg h1 (by omega),?_⟩
 have h3:(b.x1 - b.x0) * (b.y1 - b.y0) * (b.z1 - b.z0)≤(2000000 * 2000000) * 2000000:=Int.mul_le_mul h2 (by omega) (by omega) (by omega)
 omega
theorem wr64 {n:Int}(h1 : -9000000000000000000≤n)(h2:n≤9000000000000000000):IntKind.i64.wrap n=n:=wrap_in (by omega) (by omega)
theorem vW_eq {p:Box}(h:boxErr p=0):vW p=boxVol p:=by
 have k:=boxErr_in h
 have h1:0≤(p.x1 - p.x0) * (p.y1 - p.y0):=Int.mul_nonneg (by omega) (by omega)
 have h2:(p.x1 - p.x0) * (p.y1 - p.y0)≤2000000 * 2000000:=Int.mul_le_mul (by omega) (by omega) (by omega) (by omega)
 have h3:=boxVol_le h
 unfold vW
 rw [decide_eq_true h,cond_true,wr64 (n:=p.x1 - p.x0) (by omega) (by omega),wr64 (n:=p.y1 - p.y0) (by omega) (by omega),wr64 (n:=p.z1 - p.z0) (by omega) (by omega),wr64 (n:=(p.x1 - p.x0) * (p.y1 - p.y0)) (by omega) (by omega)]
 exact wr64 (by have:=h3.1; unfold boxVol at this; omega) (by have:=h3.2; unfold boxVol at this; omega)
theorem vol_fold (sf:V3→Int)(n:Int):∀ (ps:List Box) (s:Int),(∀ p∈ps,boxErr p=0)→0≤s→s + volG sf n ps≤8000000000000000000→ps.foldl (fun st p=>volP n (sf p.min) st p) s=s + volG sf n ps
 | [],s,_,_,_=>by simp [volG,sumL]
 | p :: ps,s,hp,h0,hs=>by
   have hpe:=hp p (by simp)
   have hv:=boxVol_le hpe
   have hnn:0≤volG sf n ps:=by
     have:∀ qs:List Box,(∀ q∈qs,boxErr q=0)→0≤volG sf n qs:=fun qs=>by
       induction qs with
       | nil=>intro _; exact Int.le_refl 0
       | cons q qs ih=>
         intro hq
         have h1:=ih fun x hx=>hq x (List.mem_cons_of_mem _ hx)
         have h2:0≤boxVol q * isN sf n q.min:=Int.mul_nonneg (boxVol_le (hq q (by simp))).1 (isN_nn _ _ _)
         show 0≤boxVol q * isN sf n q.min + volG sf n qs
         omega
     exact this ps fun x hx=>hp x (List.mem_cons_of_mem _ hx)
   have hc:volG sf n (p :: ps)=boxVol p * isN sf n p.min + volG sf n ps:=rfl
   have hst:volP n (sf p.min) s p=s + boxVol p * isN sf n p.min:=by
     unfold volP isN
     by_cases h:sf p.min=n
     · rw [decide_eq_true h,if_pos h,cond_true,vW_eq hpe,Int.mul_one]
       have:boxVol p * isN sf n p.min=boxVol p:=by unfold isN; rw [if_pos h,Int.mul_one]
       exact wr64 (by omega) (by omega)
     · rw [decide_eq_false h,if_neg h,cond_false,Int.mul_zero,Int.add_zero]
   have h2:0≤boxVol p * isN sf n p.min:=Int.mul_nonneg hv.1 (isN_nn _ _ _)
   rw [List.foldl_cons,hst,vol_fold sf n ps _ (fun x hx=>hp x (List.mem_cons_of_mem _ hx)) (by omega) (by omega),hc]
   omega
theorem grid_in {b:Box}(hb:boxErr b=0){xs ys zs:List Int}(hx:Cuts b.x0 b.x1 xs)(hy:Cuts b.y0 b.y1 ys)(hz:Cuts b.z0 b.z1 zs):∀ p∈gridB xs ys zs,boxErr p=0:=fun p hp=>by
 have k:=boxErr_in hb
 obtain ⟨gx,gy,gz⟩:=mem_gridB.1 hp
 obtain ⟨x1,x2,x3,_⟩:=prsI_between hx.inc gx
 obtain ⟨y1,y2,y3,_⟩:=prsI_between hy.inc gy
 obtain ⟨z1,z2,z3,_⟩:=prsI_between hz.inc gz
 have a1:=cuts_range hx x1; have a2:=cuts_range hx x2
 have a3:=cuts_range hy y1; have a4:=cuts_range hy y2
 have a5:=cuts_range hz z1; have a6:=cuts_range hz z2
 exact in_boxErr (by omega)
theorem cells_congr {b:Box}(hb:b.x0 < b.x1∧b.y0 < b.y1∧b.z0 < b.z1){st st':V3→Int}{n:Int}(hs:∀ c,b.has c=true→st c=st' c):cellsN st n b=cellsN st' n b:=by
 have h1:=cells_le (st:=st) (st':=st') (n:=n) (fun c hc h=>by rw [←hs c hc]; exact h) hb
 have h2:=cells_le (st:=st') (st':=st) (n:=n) (fun c hc h=>by rw [hs c hc]; exact h) hb
 omega
theorem vol_cellsN {b:Box}(hb:boxErr b=0)(l:List Ev)(n:Int):volS l b n=cellsN (stAt l) n b:=by
 have k:=boxErr_in hb
 have hb3:b.x0 < b.x1∧b.y0 < b.y1∧b.z0 < b.z1:=⟨k.1.2.1,k.2.1.2.1,k.2.2.2.1⟩
 have hg:=grid_ok hb3 l
 have h1:=vol_cells hg n
 have h2:=cells_le (st:=stAt (nearL b l)) (st':=fun _=>n) (n:=n) (fun c _ _=>rfl) hb3
 rw [vol_const n b hb3,←h1] at h2
 have h3:=boxVol_le hb
 unfold volS gridOf
 rw [vol_fold (fun p=>stAt (nearL b l) p) n _ 0 (grid_in hb hg.cx hg.cy hg.cz) (Int.le_refl 0) (by show 0 + volG (stAt (nearL b l)) n (gridB _ _ _)≤_; omega),Int.zero_add]
 exact h1.trans (cells_congr hb3 fun c hc=>near_st hc)
end Tz.C18
set_option maxHeartbeats 2000000
set_option maxRecDepth 100000
set_option maxRecDepth 100000
open Gs Go
namespace Tz
def prs (p:List Pt):List (Int×Int):=p.map fun a=>(a.x,a.y)
theorem prs_len (p:List Pt):(prs p).length=p.length:=List.length_map ..
theorem ptsD_poly (p:List Pt):ptsD (p.map Pt.enc)=some (prs p):=by
 have:=ptsD_map (prs p)
 rw [show p.map Pt.enc=(prs p).map (fun q=>D.agg [.int .i64 q.1,.int .i64 q.2]) by simp [prs,List.map_map,Function.comp_def]]
 exact this
theorem gfit_of {p:List Pt}(h1:0 < p.length)(h2:p.length < 1000000)(ha:AllIn p):gfit (prs p)=true:=by
 simp only [gfit,prs_len,Bool.and_eq_true,decide_eq_true_eq,List.all_eq_true]
 refine ⟨⟨h1,h2⟩,fun x hx=>?_⟩
 obtain ⟨a,ha',rfl⟩:=List.mem_map.1 hx
 have:=ha a ha'
 have h1:=this.x0; have h2:=this.x1; have h3:=this.y0; have h4:=this.y1
 simp only [gok,Bool.and_eq_true,decide_eq_true_eq]
 omega
theorem e_prConvex {p:List Pt}(h1:0 < p.length)(h2:p.length < 1000000)(ha:AllIn p):L.call 223 [poly p] []=some (.bool (gconv (prs p)),[]):=
 ext_eq (s:=convexX) rfl (by simp only [convexX,ptsD_poly,gfit_of h1 h2 ha])
theorem e_prEdge {p q:List Pt}(h1:0 < p.length)(h2:p.length < 1000000)(ha:AllIn p)(h3:0 < q.length)(h4:q.length < 1000000)(hb:AllIn q):L.call 193 [poly p,poly q] []=some (int (gedge (prs p) (prs q)),[]):=
 ext_eq (s:=edgeX) rfl (by simp only [edgeX,ptsD_poly,gfit_of h1 h2 ha,gfit_of h3 h4 hb,Bool.and_self])
theorem e_prFar (n:Int):L.call 222 [int n] []=some (.bool (far6 n),[]):=
 call_eq rfl rfl (by unfold far6; cases h:decide (n < -1000000)<;>simp only [↓eA,eB,seval,c222,h]<;>rfl)
abbrev bxc (b:Box):List D:=[int b.x0,int b.y0,int b.z0,int b.x1,int b.y1,int b.z1]
theorem lp_pb (b:Box)(l:List Int)(hl:l.length < 1000000)(hf:l.any far6=false)(e:Env)(H:Heap)(h1:Gs.get e 1 = .ptr 1 0)(h23:Gs.get e 23 = .fz false 1 (l.map int))(h24:Gs.get e 24=int l.length)(h25:Gs.get e 25=int 0)(hH:hget H 1=some (.box (bxc b) false)) :
   Ends T 192002 e H (fun X e' H'=>X = .ex 0∧e'=[(1,.ptr 1 0),(23,.fz false 1 (l.map int)),(24,int l.length),(25,int l.length),(26,.bool false)]∧H'=[(1,.box (bxc b) false)]):=by
 refine (loop_anyH (T:=T) (key:=192002) (li:=l192002.1) rfl l far6 (fun i e H=>Gs.get e 1 = .ptr 1 0∧Gs.get e 23 = .fz false 1 (l.map int)∧Gs.get e 24=int l.length∧Gs.get e 25=int i∧hget H 1=some (.box (bxc b) false)) (fun X e' _=>True) (fun X e' H'=>X = .ex 0∧e'=[(1,.ptr 1 0),(23,.fz false 1 (l.map int)),(24,int l.length),(25,int l.length),(26,.bool false)]∧H'=[(1,.box (bxc b) false)]) ?_ ?_ e H ⟨h1,h23,h24,h25,hH⟩).mono fun X e' H' h=>by rw [hf] at h; exact h
 · rintro i a e H hx hi ⟨h1,h23,h24,h25,hH⟩
   have hx':(l.map int)[i]?=some (int a):=by simp [hx]
   simp only [↓eA,eB,seval,l192002,h1,h23,h24,h25,hH,hi,hx',e_prFar,wrap_succ (show i < 4611686018427387904 by omega)]
   cases ha:far6 a<;>simp only [↓eA,eB,seval,ha]
   · and_intros<;>first | trivial | rfl
   · and_intros<;>first | trivial | rfl
 · rintro e H ⟨h1,h23,h24,h25,hH⟩
   simp only [↓eA,eB,seval,l192002,h1,h23,h24,h25,hH,Nat.lt_irrefl]
   and_intros<;>first | trivial | rfl
theorem e_prBoxed (b:Box)(h6:b.six.any far6=false)(hok:b.ok=true):L.call 192 [b.enc] []=some (.bool true,[]):=
 call_eq rfl rfl (by
   simp only [↓eA,eB,seval,c192]
   generalize hE:(lim T).loop 192002 _ _=R
   obtain ⟨X,e',H',rfl,rfl,rfl,rfl⟩:=Ends.at hE (lp_pb b b.six (by simp [Box.six]) h6 _ _ rfl rfl rfl rfl rfl)
   simp only [Box.ok,Bool.and_eq_true] at hok
   simp only [↓eA,eB,seval,hok.1.1,hok.1.2,hok.2])
end Tz
set_option maxHeartbeats 2000000
set_option maxRecDepth 100000
set_option maxRecDepth 100000
open Gs Go
namespace Tz
abbrev prc (p:List Pt)(lo hi:Int):List D:=[poly p,int lo,int hi]
theorem far6_in {n:Int}(h1 : -1000000≤n)(h2:n≤1000000):far6 n=false:=by
 simp only [far6,Bool.or_eq_false_iff,decide_eq_false_iff_not]; omega
theorem lp_pc (p:List Pt)(lo hi:Int)(hl:p.length < 1000000000)(ha:AllIn p)(e:Env)(H:Heap)(h1:Gs.get e 1 = .ptr 1 0)(h25:Gs.get e 25=poly p)(h26:Gs.get e 26=int p.length)(h27:Gs.get e 27=int 0)(hH:hget H 1=some (.box (prc p lo hi) false)) :
   Ends T 191008 e H (fun X e' H'=>X = .ex 1∧e'=[(1,.ptr 1 0),(25,poly p),(26,int p.length),(27,int p.length),(28,.bool false)]∧H'=[(1,.box (prc p lo hi) false)]):=by
 have hf:p.any (fun _=>false)=false:=by rw [List.any_eq_false]; simp
 refine (loop_anyH (T:=T) (key:=191008) (li:=l191008.1) rfl p (fun _=>false) (fun i e H=>Gs.get e 1 = .ptr 1 0∧Gs.get e 25=poly p∧Gs.get e 26=int p.length∧Gs.get e 27=int i∧hget H 1=some (.box (prc p lo hi) false)) (fun X e' _=>True) (fun X e' H'=>X = .ex 1∧e'=[(1,.ptr 1 0),(25,poly p),(26,int p.length),(27,int p.length),(28,.bool false)]∧H'=[(1,.box (prc p lo hi) false)]) ?_ ?_ e H ⟨h1,h25,h26,h27,hH⟩).mono fun X e' H' h=>by rw [hf] at h; exact h
 · rintro i a e H hx hi ⟨h1,h23,h24,h25,hH⟩
   have hx':(p.map Pt.enc)[i]?=some a.enc:=by simp [hx]
   have hin:=ha a (List.mem_of_getElem? hx)
   have f1:=far6_in hin.x0 hin.x1
   have f2:=far6_in hin.y0 hin.y1
   simp only [↓eA,eB,seval,l191008,h1,h23,h24,h25,hH,hi,hx',e_prFar,f1,f2,wrap_succ (show i < 4611686018427387904 by omega)]
   and_intros<;>first | trivial | rfl
 · rintro e H ⟨h1,h23,h24,h25,hH⟩
   simp only [↓eA,eB,seval,l191008,h1,h23,h24,h25,hH,Nat.lt_irrefl]
   and_intros<;>first | trivial | rfl
structure PrOk (p:List Pt) (lo hi:Int):Prop where
 n3:3≤p.length
 n64:p.length≤64
 all:AllIn p
 l0 : -1000000≤lo
 h0:hi≤1000000
 lt:lo < hi
 cv:gconv (prs p)=true
theorem e_prCheck {p:List Pt}{lo hi:Int}(h:PrOk p lo hi):L.call 191 [.agg (prc p lo hi)] []=some (int 0,[]):=
 call_eq rfl rfl (by
   have h1:=h.n3; have h2:=h.n64; have h3:=h.l0; have h4:=h.h0; have h5:=h.lt
   have d1:decide ((p.length:Int) > 64)=false:=by rw [decide_eq_false_iff_not]; omega
   have d1':decide ((64:Int) < p.length)=false:=by rw [decide_eq_false_iff_not]; omega
   have d2:decide ((p.length:Int) < 3)=false:=by rw [decide_eq_false_iff_not]; omega
   have d3:=far6_in (n:=lo) h3 (by omega)
   have d4:=far6_in (n:=hi) (by omega) h4
   have d5:decide (hi≤lo)=false:=by rw [decide_eq_false_iff_not]; omega
   simp only [↓eA,eB,seval,c191,d1,d1',d2,e_prFar,d3,d4]
   generalize hE:(lim T).loop 191008 _ _=R
   obtain ⟨X,e',H',rfl,rfl,rfl,rfl⟩:=Ends.at hE (lp_pc p lo hi (by omega) h.all _ _ rfl rfl rfl rfl rfl)
   simp only [↓eA,eB,seval,d5,e_prConvex (show 0 < p.length by omega) (by omega) h.all,h.cv])
def rect (b:Box):List Pt:=[⟨b.x0,b.y0⟩,⟨b.x1,b.y0⟩,⟨b.x1,b.y1⟩,⟨b.x0,b.y1⟩]
theorem e_prOf (b:Box):L.call 160 [b.enc] []=some (.agg (prc (rect b) b.z0 b.z1),[]):=
 call_eq rfl rfl (by simp only [↓eA,eB,seval,c160]; rfl)
def pMeets (p:List Pt)(lo hi:Int)(q:List Pt)(l h:Int):Bool:=((decide (lo < h) && decide (l < hi)) && decide (gedge (prs p) (prs q) < 0)) && decide (gedge (prs q) (prs p) < 0)
theorem e_prMeets {p q:List Pt}{lo hi l h:Int}(h1:0 < p.length)(h2:p.length < 1000000)(ha:AllIn p)(h3:0 < q.length)(h4:q.length < 1000000)(hb:AllIn q):L.call 159 [.agg (prc p lo hi),.agg (prc q l h)] []=some (.bool (pMeets p lo hi q l h),[]):=
 call_eq rfl rfl (by
   unfold pMeets
   cases d1:decide (lo < h) with
   | false=>simp only [↓eA,eB,seval,c159,d1]
   | true=>
   cases d2:decide (l < hi) with
   | false=>simp only [↓eA,eB,seval,c159,d1,d2]
   | true=>
   cases d3:decide (gedge (prs p) (prs q) < 0) with
   | false=>simp only [↓eA,eB,seval,c159,d1,d2,e_prEdge h1 h2 ha h3 h4 hb,d3]
   | true=>simp only [↓eA,eB,seval,c159,d1,d2,e_prEdge h1 h2 ha h3 h4 hb,d3,e_prEdge h3 h4 hb h1 h2 ha])
theorem rect_in {b:Box}(h:b.six.any far6=false):AllIn (rect b):=by
 have h6:=fun n hn=>far6_no (n:=n) (by simpa using List.any_eq_false.1 h n hn)
 simp only [Box.six,List.mem_cons,List.not_mem_nil,or_false,forall_eq_or_imp,forall_eq] at h6
 intro a ha
 simp only [rect,List.mem_cons,List.not_mem_nil,or_false] at ha
 rcases ha with rfl | rfl | rfl | rfl<;>constructor<;>simp only<;>omega
theorem e_prOverlaps {p:List Pt}{lo hi:Int}(h:PrOk p lo hi){b:Box}(h6:b.six.any far6=false)(hok:b.ok=true):L.call 110 [.agg (prc p lo hi),b.enc] []=some (.tup [.bool (pMeets p lo hi (rect b) b.z0 b.z1),int 0],[]):=by
 have hb:L.call 158 [.agg (prc p lo hi),b.enc] []=some (int 0,[]):=call_eq rfl rfl (by simp only [↓eA,eB,seval,c158,e_prCheck h,e_prBoxed b h6 hok])
 have h1:=h.n3; have h2:=h.n64
 exact call_eq rfl rfl (by simp only [↓eA,eB,seval,c110,hb,e_prOf,e_prMeets (show 0 < p.length by omega) (show p.length < 1000000 by omega) h.all (show 0 < (rect b).length from Nat.zero_lt_succ _) (show (rect b).length < 1000000 by simp [rect]) (rect_in h6)])
end Tz
