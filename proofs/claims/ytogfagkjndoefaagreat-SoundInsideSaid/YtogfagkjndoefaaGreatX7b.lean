/- Closed cells of the row; no conditions. -/
import Derived.Test.YtogfagkjndoefaaGreatX6b
import Derived.Shelf.SlSortCmp.NoneTotal
set_option linter.all false
namespace Gs
open Go Go.Sort Go.Proofs Tz
theorem closedL_six:∀ l:List Six,closedL (l.map sixD)=true
 | []=>rfl
 | x :: r=>by simp only [List.map_cons,closedL,closedL_six r,sixD,closed]; rfl
theorem shaped_six (l:List Six):Shaped 6 (l.map sixD):=by
 intro d hd
 obtain ⟨s,_,rfl⟩:=List.mem_map.1 hd
 rfl
theorem ltOf_six:ltOf B60.cf=ltBx:=by
 funext x y; exact B60.cf_lt x y
theorem swoBx:Sort.SWO (ltOf B60.cf):=by rw [ltOf_six]; exact ltBx_swo
theorem flat_get (d:Array Six)(i:Nat)(hi:i < d.size)(j:Nat)(hj:j < 6):(flatK Tryz.encSix 6 d)[i * 6 + j]?=some ((Tryz.encSix d[i])[j]!):=by
 have hlt:i * 6 + j < (flatK Tryz.encSix 6 d).size:=by rw [size_flatK]; omega
 have hg:=get_flatK Tryz.encSix 6 d (i * 6 + j) (by omega)
 rw [getElem!_pos (flatK Tryz.encSix 6 d) (i * 6 + j) hlt] at hg
 rw [Array.getElem?_eq_getElem hlt,hg]
 rw [show (i * 6 + j) / 6=i by omega,show (i * 6 + j) % 6=j by omega,getElem!_pos d i hi]
def sixAt (x:Six):Nat→Int
 | 0=>x.1
 | 1=>x.2.1
 | 2=>x.2.2.1
 | 3=>x.2.2.2.1
 | 4=>x.2.2.2.2.1
 | _=>x.2.2.2.2.2
theorem six_cell (x:Six)(m:Nat)(hm:m < 6):(cellsOf (sixD x))[m]?=some (.int .i64 (sixAt x m))∧(Tryz.encSix x)[m]! = .int .i64 (sixAt x m):=by
 rcases (show m=0∨m=1∨m=2∨m=3∨m=4∨m=5 by omega) with h | h | h | h | h | h<;>subst h<;>exact ⟨rfl,rfl⟩
theorem gives_sortBox (args:List D)(H:Heap)(r:D)(H':Heap)(h:sortBoxX 60 args H=some (r,H')):Gives Tryz.prog 59 args H r H':=by
 refine ⟨⟨Tryz.f59,Tryz.func59,by kernel_rfl,by kernel_rfl⟩,fun K Q w avs hids hgl hc ha=>?_⟩
 have none_:∀ (p:Option Addr) (cap:Nat) (fv:Value),Calls Tryz.prog 59 #[.slice p 0 cap,fv] w fun e w'=>e = .returned (.tuple #[])∧w'=w:=fun p cap fv=>AnyF.slices_SortFunc_none Tryz.sortBox p cap fv w
 unfold sortBoxX at h
 split at h
 · rename_i _ b g
   split at h<;>try (cases h; done)
   rename_i nz xs hg hrow
   split at h<;>try (cases h; done)
   rename_i l hl
   split at h<;>try (cases h; done)
   rename_i hlen
   have hlen:=of_decide_eq_true hlen
   injection h with h; injection h with h1 h2; subst h1; subst h2
   have hgg:=eq_of_beq hg
   subst hgg
   have hxs:=sixs_eq hl
   subst hxs
   cases ha with
   | cons hv ht=>
   cases ht with
   | cons hf ht=>
   cases ht
   cases hf with
   | fn hcaps=>
   cases hcaps
   have hbo:=hc.blk b _ hrow
   have hperm:=Sort.pdq_sorts ltBx
   have done_nil:l=[]→∀ e w',e=Ending.returned (.tuple #[])∧w'=w→∃ v,e = .returned v∧∃ K' Q',Sim ⟨w,Q⟩ K K' Q' (hset H b (.row nz 6 ((sortBx l).map sixD) 0 false)) w'∧Le Q Q'∧Rel K' Q' (.tup []) v:=by
     rintro rfl e w' ⟨rfl,rfl⟩
     refine ⟨_,rfl,K,Q,(sim_of hc).congr (fun c=>?_),fun _ _ _ h=>h,ret_tup⟩
     rw [hget_hset]
     by_cases e:b=c
     · subst e; rw [if_pos rfl,hrow]
       have:sortBx []=[]:=by
         apply List.eq_nil_of_length_eq_zero
         exact (sortBx_all []).1.length_eq
       rw [this]
     · rw [if_neg e]
   cases hv with
   | owNil hk=>
     have hl0:l=[]:=by
       obtain ⟨_,_,_,h⟩:=hbo
       rcases h with ⟨_,h⟩ | ⟨B,base,vs,t,g1,_⟩
       · simpa using h
       · rw [hk] at g1; injection g1 with g1; injection g1 with g1 _; cases g1
     exact (none_ none 0 _).mono (done_nil hl0)
   | ow hk hle htot haa=>
     rename_i B base tot nz' esz' len cap a
     obtain ⟨hcl,hsh,_,h⟩:=hbo
     rcases h with ⟨g1,_⟩ | ⟨B',base',vs,t,g1,g2,g3,g4,g5,g6,g7⟩
     · rw [hk] at g1; injection g1 with g1; injection g1 with g1 _; cases g1
     have hk':=hk
     rw [g1] at hk'
     injection hk' with hk'; injection hk' with e1 e2; injection e1 with e1; injection e1 with e1 e3; injection e3 with e3 e4; injection e2 with e2; injection e2 with e2 e5; injection e5 with e5 e6
     subst e1; subst e3; subst e4; subst e5; subst e6
     rw [List.length_map] at *
     by_cases hz:l.length=0
     · have hl0:l=[]:=List.eq_nil_of_length_eq_zero hz
       rw [hz]
       exact (none_ (some a) cap _).mono (done_nil hl0)
     · have hcap:cap≠0:=by omega
       have haB:=haa hcap
       subst haB
       have hBl:B' < w.heap.size:=(Array.getElem?_eq_some_iff.1 g3).1
       have hH:HoldsK Tryz.encSix 6 w B' base' l.toArray:=by
         intro j hj
         refine ⟨?_,frozen_no g3 _⟩
         have hj':j < l.length * 6:=by simpa using hj
         have hi:j / 6 < l.length:=by omega
         have hm:j % 6 < 6:=Nat.mod_lt _ (by omega)
         have hcell:=(six_cell l[j / 6] (j % 6) hm).1
         obtain ⟨v,h1,h2,_⟩:=g5 (j / 6) (sixD l[j / 6]) (by simp [List.getElem?_eq_getElem hi]) (j % 6) _ hcell
         rw [cell_of_heap g3,show base' + j=base' + j / 6 * 6 + j % 6 by omega,h1]
         have hfg:=flat_get l.toArray (j / 6) (by simpa using hi) (j % 6) hm
         have hje:j / 6 * 6 + j % 6=j:=by omega
         rw [hje] at hfg
         have hjF:j < (flatK Tryz.encSix 6 l.toArray).size:=by rw [size_flatK]; simpa using hj'
         rw [getElem!_pos _ j hjF]
         rw [Array.getElem?_eq_getElem hjF] at hfg
         injection hfg with hfg
         rw [hfg]
         have hs6:=(six_cell l[j / 6] (j % 6) hm).2
         cases h2
         simp only [List.getElem_toArray]
         rw [hs6]
         rfl
       have eg:∀ args w,(callFunc 60 args).run Tryz.prog w = .ok (.enter 60 args) w:=enters_of Tryz.func60 (by kernel_rfl) rfl
       have hcon:=AnyQ.slices_SortFunc_eq Tryz.sortBox 6 Tryz.isAgg25 Tryz.sizeOf25 Tryz.encSix (fun _=>rfl) (fun x v hv=>by simp [Tryz.encSix] at hv; rcases hv with rfl | rfl | rfl | rfl | rfl | rfl<;>rfl) B60.cf swoBx 60 #[] B' base' cap l.toArray w eg (Tryz.cmpLays60 B' base' l.toArray.size w) hH hBl (by simpa using hlen)
       rw [ltOf_six] at hcon
       refine Calls.mono hcon ?_
       rintro e w' ⟨rfl,n,os,rfl⟩
       have hlen':(sortBx l).length=l.length:=(sortBx_all l).1.length_eq
       have hpq:Sort.pdq ltBx l.toArray 0 l.toArray.size (Lib.bitLen l.toArray.size) true true=(sortBx l).toArray:=by simp [sortBx]
       rw [hpq]
       refine ⟨_,rfl,K,Q,row_turn hc hrow (by rw [List.length_map]; exact g1) g2 g3 (by rw [List.length_map]; exact g4) (by intro o ho; exact g6 o (by omega)) (fun _ _=>trivial) (by simp [hlen']) (closedL_six _) (shaped_six _) (by simp [hlen']) ?_ n os,fun _ _ _ h=>h,ret_tup⟩
       intro i d hd j c hcj
       rw [List.getElem?_map] at hd
       cases hsi:(sortBx l)[i]? with
       | none=>rw [hsi] at hd; cases hd
       | some s0=>
         rw [hsi] at hd; injection hd with hd; subst hd
         have hi:i < (sortBx l).length:=(List.getElem?_eq_some_iff.1 hsi).1
         have hge:(sortBx l).toArray[i]'(by simpa using hi)=s0:=by
           have:=(List.getElem?_eq_some_iff.1 hsi).2
           simpa using this
         have hfg:=fun j hj=>flat_get (sortBx l).toArray i (by simpa using hi) j hj
         by_cases hj6:j < 6
         · obtain ⟨k1,k2⟩:=six_cell s0 j hj6
           rw [k1] at hcj; injection hcj with hcj; subst hcj
           refine ⟨.int .i64 (sixAt s0 j),?_,.int _ _,rfl⟩
           rw [hfg j hj6,hge,k2]
         · have:(cellsOf (sixD s0))[j]?=none:=List.getElem?_eq_none (by show 6≤j; omega)
           rw [this] at hcj; cases hcj
 · rename_i _ esz' g
   split at h<;>try (cases h; done)
   injection h with h; injection h with h1 h2; subst h1; subst h2
   cases ha with
   | cons hv ht=>
   cases ht with
   | cons hf ht=>
   cases ht
   have fin:∀ e w',e=Ending.returned (.tuple #[])∧w'=w→∃ v,e = .returned v∧∃ K' Q',Sim ⟨w,Q⟩ K K' Q' H w'∧Le Q Q'∧Rel K' Q' (.tup []) v:=by
     rintro e w' ⟨rfl,rfl⟩
     exact ⟨_,rfl,K,Q,sim_of hc,fun _ _ _ h=>h,ret_tup⟩
   cases hv with
   | fzNil=>exact (none_ none 0 _).mono fin
   | fz hn _ _ _=>exact absurd rfl hn
 · cases h
end Gs
