/- part S162; no conditions. -/
import Derived.Test.YtogfagkjndoefaaGreatS160toS10i
import Derived.Test.YtogfagkjndoefaaGreatP23
set_option linter.all false
set_option maxRecDepth 100000
open Gs Go
namespace Tz.C18
theorem e_sortI (nz:Bool)(l:List Int)(hb:l.length < 4611686018427387904):L.call 153 [.ow 500000] [(500000,.row nz 1 (l.map int) 0 false)]=some (.tup [],[(500000,.row nz 1 ((sortN l).map int) 0 false)]):=
 ext_eq (s:=sortIntX) rfl (by
   have:=nums_map l
   simp [sortIntX,hget,this,hset,hb])
theorem lp_cut1 (lo hi:Int)(nz:Bool)(l:List Ev)(g:Nat)(k:Nat)(a b:Int)(acc:List Int)(ha:acc.length < 1000000000)(e:Env)(H:Heap)(h0:Gs.get e 0=int lo)(h1:Gs.get e 1=int hi)(h3:Gs.get e 3 = .fn g [])(h9:Gs.get e 9 = .ow 1009)(h19:Gs.get e 19=evs nz l)(h20:Gs.get e 20=int l.length)(h21:Gs.get e 21=int k)
   (h34:Gs.get e 34 = .fz false 1 [int a,int b]) (h35:Gs.get e 35=int 2) (h36:Gs.get e 36=int (0:Nat)) (hH:hget H 1009=some (.row false 1 (acc.map int) 0 true)) :
   Ends T 101007 e H (fun X e' H'=>X = .ex 2∧Gs.get e' 0=int lo∧Gs.get e' 1=int hi∧Gs.get e' 3 = .fn g []∧Gs.get e' 9 = .ow 1009∧Gs.get e' 19=evs nz l∧Gs.get e' 20=int l.length∧Gs.get e' 21=int k∧hget H' 1009=some (.row false 1 (([a,b].foldl (cutStep lo hi) acc).map int) 0 true)):=by
 refine loop_fold (T:=T) (key:=101007) (li:=l101007.1) rfl [a,b] (cutStep lo hi) (fun i acc' e H=>acc'.length≤acc.length + i∧Gs.get e 0=int lo∧Gs.get e 1=int hi∧Gs.get e 3 = .fn g []∧Gs.get e 9 = .ow 1009∧Gs.get e 19=evs nz l∧Gs.get e 20=int l.length∧Gs.get e 21=int k∧Gs.get e 34 = .fz false 1 [int a,int b]∧Gs.get e 35=int 2∧Gs.get e 36=int i∧hget H 1009=some (.row false 1 (acc'.map int) 0 true))
   (fun acc' X e' H'=>X = .ex 2∧Gs.get e' 0=int lo∧Gs.get e' 1=int hi∧Gs.get e' 3 = .fn g []∧Gs.get e' 9 = .ow 1009∧Gs.get e' 19=evs nz l∧Gs.get e' 20=int l.length∧Gs.get e' 21=int k∧hget H' 1009=some (.row false 1 (acc'.map int) 0 true)) ?_ ?_ acc e H ⟨by omega,h0,h1,h3,h9,h19,h20,h21,h34,h35,h36,hH⟩
 · rintro i x acc' e H hi' hlt ⟨hal,h0,h1,h3,h9,h19,h20,h21,h34,h35,h36,hH⟩
   have hlt2:i < 2:=by simpa using hlt
   have hd:decide ((i:Int) < 2)=true:=by simp; omega
   have hxi:([int a,int b]:List D)[i]?=some (int x):=by
     have:([a,b].map int)[i]?=some (int x):=by simp only [List.getElem?_map,hi',Option.map_some]
     exact this
   have hin:inb (i:Int) 2=true:=by rw [inb_ofNat]; exact decide_eq_true hlt2
   have hf:fits (acc'.length + 1) 8=true:=fits_of (by omega)
   cases hc:decide (lo < x) && decide (x < hi) with
   | true=>
     have hc':=hc
     simp only [Bool.and_eq_true] at hc'
     simp only [↓eA,eB,seval,l101007,h0,h1,h3,h9,h19,h20,h21,h34,h35,h36,hH,hd,hxi,hin,hf,hc'.1,hc'.2,List.length_map,killE_nil,wrap_succ (show i < 4611686018427387904 by omega)]
     unfold cutStep
     rw [hc]
     refine ⟨trivial,by simp; omega,?_⟩
     and_intros<;>first | trivial | rfl | (simp [hget]; done)
   | false=>
     have hc2:=hc
     cases h5:decide (lo < x) with
     | false=>
       simp only [↓eA,eB,seval,l101007,h0,h1,h3,h9,h19,h20,h21,h34,h35,h36,hH,hd,hxi,hin,h5,killE_nil,wrap_succ (show i < 4611686018427387904 by omega)]
       unfold cutStep
       rw [hc2]
       refine ⟨trivial,by simp; omega,?_⟩
       and_intros<;>first | trivial | rfl
     | true=>
       rw [h5,Bool.true_and] at hc
       simp only [↓eA,eB,seval,l101007,h0,h1,h3,h9,h19,h20,h21,h34,h35,h36,hH,hd,hxi,hin,h5,hc,killE_nil,wrap_succ (show i < 4611686018427387904 by omega)]
       unfold cutStep
       rw [hc2]
       refine ⟨trivial,by simp; omega,?_⟩
       and_intros<;>first | trivial | rfl
 · rintro acc' e H ⟨hal,h0,h1,h3,h9,h19,h20,h21,h34,h35,h36,hH⟩
   have hd:decide ((([a,b]:List Int).length:Int) < 2)=false:=rfl
   simp only [↓eA,eB,seval,l101007,h0,h1,h3,h9,h19,h20,h21,h34,h35,h36,hH,hd]
   and_intros<;>first | trivial | rfl
theorem lp_cut2 (lo hi:Int)(nz:Bool)(l:List Ev)(hl:l.length < 1000000)(g:Nat)(f:Box→Int×Int)(hg:∀ b:Box,L.call g [b.enc] []=some (.tup [int (f b).1,int (f b).2],[]))(e:Env)(H:Heap)(h0:Gs.get e 0=int lo)(h1:Gs.get e 1=int hi)(h3:Gs.get e 3 = .fn g [])(h9:Gs.get e 9 = .ow 1009)(h19:Gs.get e 19=evs nz l)(h20:Gs.get e 20=int l.length)(h21:Gs.get e 21=int (0:Nat))(hH:hget H 1009=some (.row false 1 ([lo,hi].map int) 0 true)) :
   Ends T 101003 e H (fun X e' H'=>X = .ex 0∧Gs.get e' 9 = .ow 1009∧H'=[(1009,.row false 1 ((l.foldl (cutStep2 lo hi f) [lo,hi]).map int) 0 true)]):=by
 refine loop_fold (T:=T) (key:=101003) (li:=l101003.1) rfl l (cutStep2 lo hi f) (fun i acc e H=>acc.length≤2 + 2 * i∧Gs.get e 0=int lo∧Gs.get e 1=int hi∧Gs.get e 3 = .fn g []∧Gs.get e 9 = .ow 1009∧Gs.get e 19=evs nz l∧Gs.get e 20=int l.length∧Gs.get e 21=int i∧hget H 1009=some (.row false 1 (acc.map int) 0 true))
   (fun acc X e' H'=>X = .ex 0∧Gs.get e' 9 = .ow 1009∧H'=[(1009,.row false 1 (acc.map int) 0 true)]) ?_ ?_ [lo,hi] e H ⟨by simp,h0,h1,h3,h9,h19,h20,h21,hH⟩
 · rintro i x acc e H hi' hlt ⟨hal,h0,h1,h3,h9,h19,h20,h21,hH⟩
   have hxi:(l.map Ev.enc)[i]?=some x.enc:=by simp [hi']
   have hgx:=hg x.box
   simp only [↓eA,eB,seval,l101003,h0,h1,h3,h9,h19,h20,h21,hH,hlt,hxi,hgx]
   generalize hE:(lim T).loop 101007 _ _=R
   obtain ⟨X,e',H',rfl,rfl,k0,k1,k3,k9,k19,k20,k21,kH⟩:=Ends.at hE (lp_cut1 lo hi nz l g i (f x.box).1 (f x.box).2 acc (by omega) _ _ (by simp only [↓eA,eB,seval]) (by simp only [↓eA,eB,seval]) (by simp only [↓eA,eB,seval]) (by simp only [↓eA,eB,seval]) (by simp only [↓eA,eB,seval]) (by simp only [↓eA,eB,seval]) (by simp only [↓eA,eB,seval]) (by simp only [↓eA,eB,seval]) (by simp only [↓eA,eB,seval]) (by simp only [↓eA,eB,seval]) (by simp only [↓eA,eB,seval]))
   simp only [↓eA,eB,seval,k0,k1,k3,k9,k19,k20,k21,wrap_succ (show i < 4611686018427387904 by omega)]
   have hlen:(cutStep2 lo hi f acc x).length≤acc.length + 2:=by
     have:=cut2_len (lo:=lo) (hi:=hi) (f:=f) [x] acc
     simpa using this
   refine ⟨trivial,by omega,?_⟩
   and_intros<;>first | trivial | rfl | exact kH
 · rintro acc e H ⟨hal,h0,h1,h3,h9,h19,h20,h21,hH⟩
   simp only [↓eA,eB,seval,l101003,h0,h1,h3,h9,h19,h20,h21,hH,Nat.lt_irrefl]
   and_intros<;>first | trivial | rfl
end Tz.C18
