/- slices.SortFunc of intervals; Arguments of plain data; Surveys and boxes as data; part XJz; no conditions. -/
import Derived.Test.YtbdcbppmgbekoaaGreatX33toX6
import Derived.Test.YtbdcbppmgbekoaaGreatSIv
import Derived.Shelf.SlSortCmp.NoneTotal
import Derived.Test.YtbdcbppmgbekoaaGreatGsA
import Derived.ProofKit
import Derived.OpenShut
import Derived.Test.YtbdcbppmgbekoaaGreatS1toS6
import Derived.Test.YtbdcbppmgbekoaaGreatProg
import Derived.Test.YtbdcbppmgbekoaaGreatK1
import Derived.Handed
set_option linter.all false
namespace Gs
open Go Go.Sort Go.Proofs Tz
theorem closedL_iv:∀ l:List (Int×Int),closedL (l.map ivD)=true
 | []=>rfl
 | x :: r=>by simp only [List.map_cons,closedL,closedL_iv r,ivD,closed]; rfl
theorem shaped_iv (l:List (Int×Int)):Shaped 2 (l.map ivD):=by
 intro d hd
 obtain ⟨s,_,rfl⟩:=List.mem_map.1 hd
 rfl
theorem ltOf_iv:ltOf (fun x y:Int×Int=>Lib.compareInt x.1 y.1)=ltIv:=by
 funext x y; exact Tryz.ltLo x y
theorem flat_get (d:Array (Int×Int))(i:Nat)(hi:i < d.size)(j:Nat)(hj:j < 2):(flatK Tryz.encIv 2 d)[i * 2 + j]?=some ((Tryz.encIv d[i])[j]!):=by
 have hlt:i * 2 + j < (flatK Tryz.encIv 2 d).size:=by rw [size_flatK]; omega
 have hg:=get_flatK Tryz.encIv 2 d (i * 2 + j) (by omega)
 rw [getElem!_pos (flatK Tryz.encIv 2 d) (i * 2 + j) hlt] at hg
 rw [Array.getElem?_eq_getElem hlt,hg]
 rw [show (i * 2 + j) / 2=i by omega,show (i * 2 + j) % 2=j by omega,getElem!_pos d i hi]
theorem gives_sortIv (args:List D)(H:Heap)(r:D)(H':Heap)(h:sortIvX 95 args H=some (r,H')):Gives Tryz.prog 94 args H r H':=by
 refine ⟨⟨Tryz.f94,Tryz.func94,by kernel_rfl,by kernel_rfl⟩,fun K Q w avs hids hgl hc ha=>?_⟩
 have none_:∀ (p:Option Addr) (cap:Nat) (fv:Value),Calls Tryz.prog 94 #[.slice p 0 cap,fv] w fun e w'=>e = .returned (.tuple #[])∧w'=w:=fun p cap fv=>AnyF.slices_SortFunc_none Tryz.sortIv p cap fv w
 unfold sortIvX at h
 split at h
 · rename_i _ b g
   split at h<;>try (cases h; done)
   rename_i nz xs hg hrow
   split at h<;>try (cases h; done)
   rename_i l hl
   split at h<;>try (cases h; done)
   rename_i hlen
   have hlen:=of_decide_eq_true hlen
   injection h with h; injection h with h1 h2; subst h1; subst h2
   have hgg:=eq_of_beq hg
   subst hgg
   have hxs:=ivs_eq hl
   subst hxs
   cases ha with
   | cons hv ht=>
   cases ht with
   | cons hf ht=>
   cases ht
   cases hf with
   | fn hcaps=>
   cases hcaps
   have hbo:=hc.blk b _ hrow
   have hperm:=Sort.pdq_sorts ltIv
   have done_nil:l=[]→∀ e w',e=Ending.returned (.tuple #[])∧w'=w→∃ v,e = .returned v∧∃ K' Q',Sim ⟨w,Q⟩ K K' Q' (hset H b (.row nz 2 ((sortIv l).map ivD) 0 false)) w'∧Le Q Q'∧Rel K' Q' (.tup []) v:=by
     rintro rfl e w' ⟨rfl,rfl⟩
     refine ⟨_,rfl,K,Q,(sim_of hc).congr (fun c=>?_),fun _ _ _ h=>h,ret_tup⟩
     rw [hget_hset]
     by_cases e:b=c
     · subst e; rw [if_pos rfl,hrow]
       have:sortIv []=[]:=by
         apply List.eq_nil_of_length_eq_zero
         exact (sortIv_all []).1.length_eq
       rw [this]
     · rw [if_neg e]
   cases hv with
   | owNil hk=>
     have hl0:l=[]:=by
       obtain ⟨_,_,_,h⟩:=hbo
       rcases h with ⟨_,h⟩ | ⟨B,base,vs,t,g1,_⟩
       · simpa using h
       · rw [hk] at g1; injection g1 with g1; injection g1 with g1 _; cases g1
     exact (none_ none 0 _).mono (done_nil hl0)
   | ow hk hle htot haa=>
     rename_i B base tot nz' esz' len cap a
     obtain ⟨hcl,hsh,_,h⟩:=hbo
     rcases h with ⟨g1,_⟩ | ⟨B',base',vs,t,g1,g2,g3,g4,g5,g6,g7⟩
     · rw [hk] at g1; injection g1 with g1; injection g1 with g1 _; cases g1
     have hk':=hk
     rw [g1] at hk'
     injection hk' with hk'; injection hk' with e1 e2; injection e1 with e1; injection e1 with e1 e3; injection e3 with e3 e4; injection e2 with e2; injection e2 with e2 e5; injection e5 with e5 e6
     subst e1; subst e3; subst e4; subst e5; subst e6
     rw [List.length_map] at *
     by_cases hz:l.length=0
     · have hl0:l=[]:=List.eq_nil_of_length_eq_zero hz
       rw [hz]
       exact (none_ (some a) cap _).mono (done_nil hl0)
     · have hcap:cap≠0:=by omega
       have haB:=haa hcap
       subst haB
       have hBl:B' < w.heap.size:=(Array.getElem?_eq_some_iff.1 g3).1
       have hH:HoldsK Tryz.encIv 2 w B' base' l.toArray:=by
         intro j hj
         refine ⟨?_,frozen_no g3 _⟩
         have hj':j < l.length * 2:=by simpa using hj
         have hi:j / 2 < l.length:=by omega
         have hm:j % 2 < 2:=Nat.mod_lt _ (by omega)
         have hcell:(cellsOf (ivD l[j / 2]))[j % 2]?=some (match j % 2 with | 0=>D.int .i64 l[j / 2].1 | _=>D.int .i64 l[j / 2].2):=by
           rcases (show j % 2=0∨j % 2=1 by omega) with h | h<;>rw [h]<;>rfl
         obtain ⟨v,h1,h2,_⟩:=g5 (j / 2) (ivD l[j / 2]) (by simp [List.getElem?_eq_getElem hi]) (j % 2) _ hcell
         rw [cell_of_heap g3,show base' + j=base' + j / 2 * 2 + j % 2 by omega,h1]
         have hfg:=flat_get l.toArray (j / 2) (by simpa using hi) (j % 2) hm
         have hje:j / 2 * 2 + j % 2=j:=by omega
         rw [hje] at hfg
         have hjF:j < (flatK Tryz.encIv 2 l.toArray).size:=by rw [size_flatK]; simpa using hj'
         rw [getElem!_pos _ j hjF]
         rw [Array.getElem?_eq_getElem hjF] at hfg
         injection hfg with hfg
         rw [hfg]
         rcases (show j % 2=0∨j % 2=1 by omega) with h | h
         · rw [h] at h2 ⊢; cases h2; rfl
         · rw [h] at h2 ⊢; cases h2; rfl
       have eg:∀ args w,(callFunc 95 args).run Tryz.prog w = .ok (.enter 95 args) w:=enters_of Tryz.func95 (by kernel_rfl) rfl
       have hcon:=AnyQ.slices_SortFunc_eq Tryz.sortIv 2 Tryz.isAgg59 Tryz.sizeOf59 Tryz.encIv (fun _=>rfl) (fun x v hv=>by simp [Tryz.encIv] at hv; rcases hv with rfl | rfl<;>rfl) (fun x y=>Lib.compareInt x.1 y.1) Tryz.swoLo 95 #[] B' base' cap l.toArray w eg (Tryz.cmpLays95 B' base' l.toArray.size w) hH hBl (by simpa using hlen)
       rw [ltOf_iv] at hcon
       refine Calls.mono hcon ?_
       rintro e w' ⟨rfl,n,os,rfl⟩
       have hlen':(sortIv l).length=l.length:=(sortIv_all l).1.length_eq
       have hpq:Sort.pdq ltIv l.toArray 0 l.toArray.size (Lib.bitLen l.toArray.size) true true=(sortIv l).toArray:=by simp [sortIv]
       rw [hpq]
       refine ⟨_,rfl,K,Q,row_turn hc hrow (by rw [List.length_map]; exact g1) g2 g3 (by rw [List.length_map]; exact g4) (by intro o ho; exact g6 o (by omega)) (fun _ _=>trivial) (by simp [hlen']) (closedL_iv _) (shaped_iv _) (by simp [hlen']) ?_ n os,fun _ _ _ h=>h,ret_tup⟩
       intro i d hd j c hcj
       rw [List.getElem?_map] at hd
       cases hsi:(sortIv l)[i]? with
       | none=>rw [hsi] at hd; cases hd
       | some s0=>
         rw [hsi] at hd; injection hd with hd; subst hd
         have hi:i < (sortIv l).length:=(List.getElem?_eq_some_iff.1 hsi).1
         have hge:(sortIv l).toArray[i]'(by simpa using hi)=s0:=by
           have:=(List.getElem?_eq_some_iff.1 hsi).2
           simpa using this
         have hfg:=fun j hj=>flat_get (sortIv l).toArray i (by simpa using hi) j hj
         cases j with
         | zero=>
           injection hcj with hcj; subst hcj
           refine ⟨.int .i64 s0.1,?_,.int _ _,rfl⟩
           rw [hfg 0 (by omega),hge]; rfl
         | succ j=>
           cases j with
           | zero=>
             injection hcj with hcj; subst hcj
             refine ⟨.int .i64 s0.2,?_,.int _ _,rfl⟩
             rw [hfg 1 (by omega),hge]; rfl
           | succ j=>cases hcj
 · rename_i _ esz' g
   split at h<;>try (cases h; done)
   injection h with h; injection h with h1 h2; subst h1; subst h2
   cases ha with
   | cons hv ht=>
   cases ht with
   | cons hf ht=>
   cases ht
   have fin:∀ e w',e=Ending.returned (.tuple #[])∧w'=w→∃ v,e = .returned v∧∃ K' Q',Sim ⟨w,Q⟩ K K' Q' H w'∧Le Q Q'∧Rel K' Q' (.tup []) v:=by
     rintro e w' ⟨rfl,rfl⟩
     exact ⟨_,rfl,K,Q,sim_of hc,fun _ _ _ h=>h,ret_tup⟩
   cases hv with
   | fzNil=>exact (none_ none 0 _).mono fin
   | fz hn _ _ _=>exact absurd rfl hn
 · cases h
end Gs
namespace Gs
open Go
def isAggTy (P:Program)(t:TypeId):Bool:=match P.underlying t with
  | some (.struct _)=>true
  | some (.array _ _)=>true
  | _=>false
def tilesB (P:Program)(N:Nat):List Field→Nat→Bool
 | [],o=>decide (o=N)
 | f :: r,o=>decide (f.offset=o) && tilesB P N r (o + P.cellsOf f.type)
def plainTy (P:Program):Nat→TypeId→Bool
 | 0,_=>false
 | n + 1,t=>match P.underlying t with
   | some .bool=>true
   | some (.int _)=>true
   | some .string=>true
   | some (.slice e)=>decide (0 < P.cellsOf e) && (bif isAggTy P e then true else decide (P.cellsOf e=1)) && plainTy P n e
   | some (.struct fs)=>tilesB P (P.cellsOf t) fs.toList 0 && fs.toList.all (fun f=>plainTy P n f.type)
   | some (.array m e)=>decide (P.cellsOf t=m * P.cellsOf e) && plainTy P n e
   | _=>false
def AllBy {α β:Type}(R:α→β→Prop):List α→List β→Prop
 | [],[]=>True
 | a :: l,b :: m=>R a b∧AllBy R l m
 | _,_=>False
def packD:Bool→List D→D
 | true,l=>.agg l
 | false,[d]=>d
 | false,_=>.dead
def Shp (P:Program):Nat→TypeId→List D→Prop
 | 0,_,_=>False
 | n + 1,t,ds=>match P.underlying t with
   | some .bool=>∃ b,ds=[.bool b]
   | some (.int k)=>∃ z,ds=[.int k z]
   | some .string=>∃ s,ds=[.str s]
   | some (.slice e)=>∃ ls:List (List D),ds=[.fz false (P.cellsOf e) (ls.map (packD (isAggTy P e)))]∧∀ l∈ls,Shp P n e l
   | some (.struct fs)=>∃ parts:List (List D),ds=parts.flatten∧AllBy (fun (f:Field) l=>Shp P n f.type l) fs.toList parts
   | some (.array m e)=>∃ parts:List (List D),ds=parts.flatten∧parts.length=m∧∀ l∈parts,Shp P n e l
   | _=>False
theorem choose_list {β:Type}{R:Nat→β→Prop} : ∀ n,(∀ i,i < n→∃ y,R i y)→∃ l:List β,l.length=n∧∀ i y,l[i]?=some y→R i y
 | 0,_=>⟨[],rfl,by simp⟩
 | n + 1,h=>by
   obtain ⟨l,h1,h2⟩:=choose_list n (fun i hi=>h i (by omega))
   obtain ⟨y,hy⟩:=h n (by omega)
   refine ⟨l ++ [y],by simp [h1],fun i z hz=>?_⟩
   by_cases hi:i < l.length
   · rw [List.getElem?_append_left hi] at hz; exact h2 i z hz
   · rw [List.getElem?_append_right (by omega)] at hz
     have:i - l.length=0:=by
       rcases Nat.eq_zero_or_pos (i - l.length) with h | h
       · exact h
       · rw [List.getElem?_eq_none (by simp; omega)] at hz; cases hz
     rw [this] at hz; simp at hz; subst hz
     have:i=n:=by omega
     rw [this]; exact hy
section
variable {H:Type} {enc:TypeId×Value→H} {P:Program} {w:World} {base:Nat} {spare:Nat→Bool} {held:Bool} {K:Km} {Q:Pm}
theorem relL_append:∀ {ds es:List D} {vs us:List Value},RelL K Q ds vs→RelL K Q es us→RelL K Q (ds ++ es) (vs ++ us)
 | [],_,_,_,.nil,h=>h
 | _ :: _,_,_,_,.cons h t,h'=>.cons h (relL_append t h')
theorem closedL_append:∀ {ds es:List D},closedL ds=true→closedL es=true→closedL (ds ++ es)=true
 | [],_,_,h=>h
 | d :: r,es,h,h'=>by
   simp only [closedL,List.cons_append] at h ⊢
   cases hd:closed d with
   | false=>rw [hd] at h; cases h
   | true=>rw [hd] at h; simp only [cond_true] at h ⊢; exact closedL_append h h'
structure Reads (K:Km) (Q:Pm) (P:Program) (m:Nat) (t:TypeId) (cs:List Value) (ds:List D):Prop where
 rel:RelL K Q ds cs
 shp:Shp P m t ds
 cl:closedL ds=true
 one:∀ v∈cs,v.oneCell'=true
 flat:∀ d∈ds,cellsOf d=[d]
theorem relAt_of {B o:Nat} : ∀ {ds:List D} {cs:List Value},RelL K Q ds cs→(∀ v∈cs,v.oneCell'=true)→(∀ i v,cs[i]?=some v→Q B (o + i)=some v)→RelAt K Q B o ds:=by
 intro ds
 induction ds generalizing o with
 | nil=>intro cs _ _ _; exact .nil _ _
 | cons d r ih=>
   intro cs h h1 hq
   cases h with
   | cons h t=>
     refine .cons (hq 0 _ rfl) (h1 _ List.mem_cons_self) h (ih t (fun v hv=>h1 v (List.mem_cons_of_mem _ hv)) fun i v hv=>?_)
     have:=hq (i + 1) v hv
     rwa [show o + 1 + i=o + (i + 1) by omega]
theorem relRow_of {B esz:Nat} : ∀ {xs:List D} {o:Nat},(∀ i d,xs[i]?=some d→(cellsOf d).length=esz∧RelAt K Q B (o + i * esz) (cellsOf d))→RelRow K Q B o esz xs:=by
 intro xs
 induction xs with
 | nil=>intro o _; exact .nil _ _ _
 | cons d r ih=>
   intro o h
   have h0:=h 0 d rfl
   rw [Nat.zero_mul,Nat.add_zero] at h0
   refine .cons h0.1 h0.2 (ih fun i e he=>?_)
   have:=h (i + 1) e he
   rwa [show o + esz + i * esz=o + (i + 1) * esz by rw [Nat.add_mul]; omega]
theorem relL_len:∀ {ds:List D} {vs:List Value},RelL K Q ds vs→ds.length=vs.length
 | _,_,.nil=>rfl
 | _,_,.cons _ t=>by simp [relL_len t]
theorem parts_struct {m N:Nat}{cs:List Value}(hN:cs.length=N):∀ (fs:List Field) (o:Nat),tilesB P N fs o=true→(∀ f∈fs,∃ ds,Reads K Q P m f.type ((cs.drop f.offset).take (P.cellsOf f.type)) ds)→
   ∃ parts:List (List D),AllBy (fun (f:Field) l=>Shp P m f.type l) fs parts∧RelL K Q parts.flatten (cs.drop o)∧closedL parts.flatten=true∧(∀ v∈cs.drop o,v.oneCell'=true)∧∀ d∈parts.flatten,cellsOf d=[d]
 | [],o,ht,_=>by
   have ho:o=N:=of_decide_eq_true ht
   have hd:cs.drop o=[]:=List.drop_of_length_le (by omega)
   rw [hd]
   exact ⟨[],trivial,.nil,rfl,by simp,by simp⟩
 | f :: r,o,ht,hf=>by
   simp only [tilesB,Bool.and_eq_true,decide_eq_true_eq] at ht
   obtain ⟨ds,h1,h2,h3,h4,h5⟩:=hf f (by simp)
   obtain ⟨parts,p1,p2,p3,p4,p5⟩:=parts_struct hN r _ ht.2 (fun g hg=>hf g (by simp [hg]))
   rw [ht.1] at h1 h4
   have hsplit:cs.drop o=(cs.drop o).take (P.cellsOf f.type) ++ cs.drop (o + P.cellsOf f.type):=by
     rw [←List.drop_drop,List.take_append_drop]
   refine ⟨ds :: parts,⟨h2,p1⟩,?_,?_,?_,?_⟩
   · rw [hsplit,List.flatten_cons]; exact relL_append h1 p2
   · rw [List.flatten_cons]; exact closedL_append h3 p3
   · intro v hv; rw [hsplit] at hv; rcases List.mem_append.1 hv with hv | hv; exact h4 v hv; exact p4 v hv
   · intro d hd; rw [List.flatten_cons] at hd; rcases List.mem_append.1 hd with hd | hd; exact h5 d hd; exact p5 d hd
theorem parts_array {m c n:Nat}{e:TypeId}{cs:List Value}(hN:cs.length=n * c)(hf:∀ i,i < n→∃ ds,Reads K Q P m e ((cs.drop (i * c)).take c) ds):∀ (k i:Nat),i + k=n→
   ∃ parts:List (List D),parts.length=k∧(∀ l∈parts,Shp P m e l)∧RelL K Q parts.flatten (cs.drop (i * c))∧closedL parts.flatten=true∧(∀ v∈cs.drop (i * c),v.oneCell'=true)∧∀ d∈parts.flatten,cellsOf d=[d]
 | 0,i,hi=>by
   have hin:i=n:=by omega
   have hd:cs.drop (i * c)=[]:=List.drop_of_length_le (by rw [hin]; omega)
   rw [hd]
   exact ⟨[],rfl,by simp,.nil,rfl,by simp,by simp⟩
 | k + 1,i,hi=>by
   obtain ⟨ds,h1,h2,h3,h4,h5⟩:=hf i (by omega)
   obtain ⟨parts,p0,p1,p2,p3,p4,p5⟩:=parts_array hN hf k (i + 1) (by omega)
   have hsplit:cs.drop (i * c)=(cs.drop (i * c)).take c ++ cs.drop ((i + 1) * c):=by
     rw [show (i + 1) * c=i * c + c by rw [Nat.add_mul,Nat.one_mul],←List.drop_drop,List.take_append_drop]
   refine ⟨ds :: parts,by simp [p0],?_,?_,?_,?_,?_⟩
   · intro l hl; rcases List.mem_cons.1 hl with rfl | hl; exact h2; exact p1 l hl
   · rw [hsplit,List.flatten_cons]; exact relL_append h1 p2
   · rw [List.flatten_cons]; exact closedL_append h3 p3
   · intro v hv; rw [hsplit] at hv; rcases List.mem_append.1 hv with hv | hv; exact h4 v hv; exact p4 v hv
   · intro d hd; rw [List.flatten_cons] at hd; rcases List.mem_append.1 hd with hd | hd; exact h5 d hd; exact p5 d hd
theorem closedL_all:∀ {l:List D},(∀ d∈l,closed d=true)→closedL l=true
 | [],_=>rfl
 | d :: r,h=>by
   have hr:=closedL_all (l:=r) fun e he=>h e (by simp [he])
   simp only [closedL,h d (by simp),cond_true,hr]
theorem packD_ok {m:Nat}{e:TypeId}{cs:List Value}{ds:List D}(h:Reads K Q P m e cs ds)(hc:ds.length=P.cellsOf e)(ha:(bif isAggTy P e then true else decide (P.cellsOf e=1))=true) :
   cellsOf (packD (isAggTy P e) ds)=ds∧closed (packD (isAggTy P e) ds)=true:=by
 cases hag:isAggTy P e with
 | true=>exact ⟨rfl,h.cl⟩
 | false=>
   rw [hag] at ha
   have h1:P.cellsOf e=1:=of_decide_eq_true ha
   rw [h1] at hc
   obtain ⟨d,rfl⟩:=List.length_eq_one_iff.1 hc
   refine ⟨h.flat d (by simp),?_⟩
   have:=h.cl
   simp only [closedL] at this
   cases hd:closed d with
   | true=>exact hd
   | false=>rw [hd] at this; cases this
theorem told_of (hQ:∀ B o v,w.cell? ⟨B,o,none⟩=some v→v.oneCell'=true→Q B o=some v) :
   ∀ (n m:Nat) (t:TypeId) (cs:List Value) (x:DataW H×List MemPlace),plainTy P m t=true→DataW.trod enc P w base spare held n t cs=some x→∃ ds,Reads K Q P m t cs ds:=by
 intro n
 induction n with
 | zero=>intro m t cs x _ h; simp [DataW.trod] at h
 | succ n ih =>
   intro m t cs x hp h
   cases m with
   | zero=>cases hp
   | succ m=>
   unfold plainTy at hp
   cases hu:P.underlying t with
   | none=>rw [hu] at hp; cases hp
   | some u=>
   rw [hu] at hp
   cases u with
   | bool=>
     obtain ⟨b,rfl,_⟩:=DataW.trod_bool hu h
     refine ⟨[.bool b],.cons (.bool b) .nil,?_,rfl,by simp [Value.oneCell'],by simp [cellsOf]⟩
     unfold Shp; rw [hu]; exact ⟨b,rfl⟩
   | int k=>
     obtain ⟨z,rfl,_⟩:=DataW.trod_int hu h
     refine ⟨[.int k z],.cons (.int k z) .nil,?_,rfl,by simp [Value.oneCell'],by simp [cellsOf]⟩
     unfold Shp; rw [hu]; exact ⟨z,rfl⟩
   | string=>
     obtain ⟨s,rfl,_⟩:=DataW.trod_string hu h
     refine ⟨[.str s],.cons (.str s) .nil,?_,rfl,by simp [Value.oneCell'],by simp [cellsOf]⟩
     unfold Shp; rw [hu]; exact ⟨s,rfl⟩
   | slice e =>
     simp only [Bool.and_eq_true,decide_eq_true_eq] at hp
     obtain ⟨⟨hpos,hag⟩,hpe⟩:=hp
     rcases DataW.trod_slice hu h with ⟨rfl,_⟩ | ⟨a,len,cap,elems,rest,n',hn,rfl,_,_,hle,_,hlen,hel,_⟩
     · refine ⟨[.fz false (P.cellsOf e) []],.cons (.fzNil _ _) .nil,?_,rfl,by simp [Value.oneCell'],by simp [cellsOf]⟩
       unfold Shp; rw [hu]; exact ⟨[],rfl,by simp⟩
     · injection hn with hn; subst hn
       have key:∀ i,i < len→∃ ds,∃ cs',w.cells? base (a.add (i * P.cellsOf e)) (P.cellsOf e)=some cs'∧Reads K Q P m e cs' ds:=by
         intro i hi
         have h1:=hel i hi
         rw [List.getElem?_eq_getElem (by omega)] at h1
         obtain ⟨cs',h2,h3⟩:=Option.bind_eq_some_iff.1 h1
         obtain ⟨ds,h4⟩:=ih m e cs' _ hpe h3
         exact ⟨ds,cs',h2,h4⟩
       obtain ⟨ls,hl1,hl2⟩:=choose_list len key
       have hsl:closedL (ls.map (packD (isAggTy P e)))=true:=by
         refine closedL_all fun d hd=>?_
         obtain ⟨l,hl,rfl⟩:=List.mem_map.1 hd
         obtain ⟨i,hi,hg⟩:=List.mem_iff_getElem.1 hl
         obtain ⟨cs',c1,c2⟩:=hl2 i l (by rw [List.getElem?_eq_getElem hi,hg])
         have c3:=(World.cells?_some c1).2.1
         exact (packD_ok c2 (by rw [relL_len c2.rel,c3]) hag).2
       refine ⟨[.fz false (P.cellsOf e) (ls.map (packD (isAggTy P e)))],.cons ?_ .nil,?_,?_,by simp [Value.oneCell'],by simp [cellsOf]⟩
       · by_cases hz:len=0
         · have:ls=[]:=List.eq_nil_of_length_eq_zero (by omega)
           subst this; subst hz
           exact .fzE _ _ _
         · obtain ⟨l0,hl0⟩:∃ l0,ls[0]?=some l0:=⟨_,List.getElem?_eq_getElem (by omega)⟩
           obtain ⟨cs0,c1,c2⟩:=hl2 0 l0 hl0
           have c3:=World.cells?_some c1
           have c4:=c3.2.2 0 hpos
           obtain ⟨v0,hv0⟩:∃ v0,cs0[0]?=some v0:=⟨_,List.getElem?_eq_getElem (by omega)⟩
           rw [hv0] at c4
           obtain ⟨B,off,spot⟩:=a
           have hspot:spot=none:=by simpa [Addr.add] using World.cell?_spot c4
           subst hspot
           have hlen':(ls.map (packD (isAggTy P e))).length=len:=by simpa using hl1
           rw [←hlen']
           refine .fz (by intro he; rw [he] at hlen'; exact hz hlen'.symm) (relRow_of fun i d hd=>?_) (by omega) hsl
           rw [List.getElem?_map] at hd
           cases hli:ls[i]? with
           | none=>rw [hli] at hd; cases hd
           | some l=>
             rw [hli] at hd; injection hd with hd; subst hd
             obtain ⟨cs',c1,c2⟩:=hl2 i l hli
             have c3:=World.cells?_some c1
             have hll:l.length=P.cellsOf e:=by rw [relL_len c2.rel,c3.2.1]
             rw [(packD_ok c2 hll hag).1]
             refine ⟨hll,relAt_of c2.rel c2.one fun j v hv=>?_⟩
             have hjl:j < P.cellsOf e:=by rw [←c3.2.1]; exact (List.getElem?_eq_some_iff.1 hv).1
             have h5:=c3.2.2 j hjl
             rw [WideShapes.add_plain,WideShapes.add_plain,hv] at h5
             exact hQ _ _ _ h5 (c2.one v (List.mem_of_getElem? hv))
       · unfold Shp; rw [hu]
         refine ⟨ls,rfl,fun l hl=>?_⟩
         obtain ⟨i,hi,hg⟩:=List.mem_iff_getElem.1 hl
         obtain ⟨cs',_,c2⟩:=hl2 i l (by rw [List.getElem?_eq_getElem hi,hg])
         exact c2.shp
       · simp only [closedL,closed,hsl]; rfl
   | struct fs=>
     simp only [Bool.and_eq_true,List.all_eq_true] at hp
     obtain ⟨xs,n',hn,_,hcl,hxl,hf⟩:=DataW.trod_struct hu h
     injection hn with hn; subst hn
     obtain ⟨parts,p1,p2,p3,p4,p5⟩:=parts_struct (m:=m) (K:=K) (Q:=Q) (cs:=cs) hcl fs.toList 0 hp.1 (fun f hfm=>by
       obtain ⟨i,hi,hg⟩:=List.mem_iff_getElem.1 hfm
       have hfi:fs[i]?=some f:=by
         rw [←Array.getElem?_toList,List.getElem?_eq_getElem hi,hg]
       have h1:=hf i f hfi
       rw [List.getElem?_eq_getElem (by rw [hxl]; simpa using hi)] at h1
       exact ih m f.type _ _ (hp.2 f hfm) h1)
     refine ⟨parts.flatten,by simpa using p2,?_,p3,by simpa using p4,p5⟩
     unfold Shp; rw [hu]; exact ⟨parts,rfl,p1⟩
   | array k e=>
     simp only [Bool.and_eq_true,decide_eq_true_eq] at hp
     obtain ⟨xs,n',hn,_,hcl,hxl,hf⟩:=DataW.trod_array hu h
     injection hn with hn; subst hn
     obtain ⟨parts,p0,p1,p2,p3,p4,p5⟩:=parts_array (m:=m) (K:=K) (Q:=Q) (e:=e) (c:=P.cellsOf e) (n:=k) (cs:=cs) (by rw [hcl,hp.1]) (fun i hi=>by
       have h1:=hf i hi
       rw [List.getElem?_eq_getElem (by omega)] at h1
       exact ih m e _ _ hp.2 h1) k 0 (by omega)
     refine ⟨parts.flatten,by simpa using p2,?_,p3,by simpa using p4,p5⟩
     unfold Shp; rw [hu]; exact ⟨parts,rfl,p0,p1⟩
   | _=>cases hp
end
end Gs
namespace Tz
open Gs Go Go.Proofs
section
variable {P:Program} {m:Nat}
theorem all2_cons {α β:Type}{R:α→β→Prop}{a:α}{l:List α}{ys:List β}(h:AllBy R (a :: l) ys):∃ y zs,ys=y :: zs∧R a y∧AllBy R l zs:=by
 cases ys with
 | nil=>cases h
 | cons y zs=>exact ⟨y,zs,rfl,h.1,h.2⟩
theorem all2_nil {α β:Type}{R:α→β→Prop}{ys:List β}(h:AllBy R [] ys):ys=[]:=by
 cases ys with
 | nil=>rfl
 | cons y zs=>cases h
theorem shp_int {t:TypeId}{k:IntKind}{ds:List D}(ht:P.underlying t=some (.int k))(h:Shp P m t ds):∃ z,ds=[.int k z]:=by
 cases m with
 | zero=>cases h
 | succ m=>unfold Shp at h; rw [ht] at h; exact h
theorem shp_str {t:TypeId}{ds:List D}(ht:P.underlying t=some .string)(h:Shp P m t ds):∃ z,ds=[.str z]:=by
 cases m with
 | zero=>cases h
 | succ m=>unfold Shp at h; rw [ht] at h; exact h
theorem shp_bool {t:TypeId}{ds:List D}(ht:P.underlying t=some .bool)(h:Shp P m t ds):∃ z,ds=[.bool z]:=by
 cases m with
 | zero=>cases h
 | succ m=>unfold Shp at h; rw [ht] at h; exact h
theorem shp_struct {t:TypeId}{fs:Array Field}{ds:List D}(ht:P.underlying t=some (.struct fs))(h:Shp P m t ds):∃ n parts,ds=parts.flatten∧AllBy (fun (f:Field) l=>Shp P n f.type l) fs.toList parts:=by
 cases m with
 | zero=>cases h
 | succ m=>unfold Shp at h; rw [ht] at h; obtain ⟨parts,h1,h2⟩:=h; exact ⟨m,parts,h1,h2⟩
theorem shp_array {t e:TypeId}{k:Nat}{ds:List D}(ht:P.underlying t=some (.array k e))(h:Shp P m t ds):∃ n,∃ parts:List (List D),ds=parts.flatten∧parts.length=k∧∀ l∈parts,Shp P n e l:=by
 cases m with
 | zero=>cases h
 | succ m=>unfold Shp at h; rw [ht] at h; obtain ⟨parts,h1,h2⟩:=h; exact ⟨m,parts,h1,h2⟩
theorem shp_slice {t e:TypeId}{ds:List D}(ht:P.underlying t=some (.slice e))(h:Shp P m t ds):∃ n,∃ ls:List (List D),ds=[.fz false (P.cellsOf e) (ls.map (packD (isAggTy P e)))]∧∀ l∈ls,Shp P n e l:=by
 cases m with
 | zero=>cases h
 | succ m=>unfold Shp at h; rw [ht] at h; obtain ⟨ls,h1,h2⟩:=h; exact ⟨m,ls,h1,h2⟩
theorem list_of {α:Type}{R:List D→Prop}(f:α→List D)(h:∀ l,R l→∃ x,l=f x):∀ ls:List (List D),(∀ l∈ls,R l)→∃ xs:List α,ls=xs.map f
 | [],_=>⟨[],rfl⟩
 | l :: r,hr=>by
   obtain ⟨x,rfl⟩:=h l (hr l (by simp))
   obtain ⟨xs,rfl⟩:=list_of f h r (fun l hl=>hr l (by simp [hl]))
   exact ⟨x :: xs,rfl⟩
end
theorem shp_p3 {m:Nat}{ds:List D}(h:Shp Tryz.prog m 23 ds):∃ x y z,ds=[int x,int y,int z]:=by
 obtain ⟨n,parts,rfl,k⟩:=shp_struct Tryz.underlying23 h
 obtain ⟨a,_,rfl,ha,k⟩:=all2_cons k
 obtain ⟨b,_,rfl,hb,k⟩:=all2_cons k
 obtain ⟨c,_,rfl,hc,k⟩:=all2_cons k
 have:=all2_nil k; subst this
 obtain ⟨x,rfl⟩:=shp_int Tryz.underlying3 ha
 obtain ⟨y,rfl⟩:=shp_int Tryz.underlying3 hb
 obtain ⟨z,rfl⟩:=shp_int Tryz.underlying3 hc
 exact ⟨x,y,z,rfl⟩
abbrev Box.cells (b:Box):List D:=[int b.x0,int b.y0,int b.z0,int b.x1,int b.y1,int b.z1]
theorem shp_box {m:Nat}{ds:List D}(h:Shp Tryz.prog m 25 ds):∃ b:Box,ds=b.cells:=by
 obtain ⟨n,parts,rfl,k⟩:=shp_struct Tryz.underlying25 h
 obtain ⟨a,_,rfl,ha,k⟩:=all2_cons k
 obtain ⟨b,_,rfl,hb,k⟩:=all2_cons k
 have:=all2_nil k; subst this
 obtain ⟨x,y,z,rfl⟩:=shp_p3 ha
 obtain ⟨x',y',z',rfl⟩:=shp_p3 hb
 exact ⟨⟨x,y,z,x',y',z'⟩,rfl⟩
theorem shp_bed {m:Nat}{ds:List D}(h:Shp Tryz.prog m 55 ds):∃ b:Bed,ds=[.str b.name,int b.z]:=by
 obtain ⟨n,parts,rfl,k⟩:=shp_struct Tryz.underlying55 h
 obtain ⟨a,_,rfl,ha,k⟩:=all2_cons k
 obtain ⟨b,_,rfl,hb,k⟩:=all2_cons k
 have:=all2_nil k; subst this
 obtain ⟨x,rfl⟩:=shp_str Tryz.underlying9 ha
 obtain ⟨y,rfl⟩:=shp_int Tryz.underlying3 hb
 exact ⟨⟨x,y⟩,rfl⟩
theorem shp_joint {m:Nat}{ds:List D}(h:Shp Tryz.prog m 53 ds):∃ j:Joint,ds=[.str j.name,int j.axis,int j.at_,int j.lo,int j.hi]:=by
 obtain ⟨n,parts,rfl,k⟩:=shp_struct Tryz.underlying53 h
 obtain ⟨a,_,rfl,ha,k⟩:=all2_cons k
 obtain ⟨b,_,rfl,hb,k⟩:=all2_cons k
 obtain ⟨c,_,rfl,hc,k⟩:=all2_cons k
 obtain ⟨d,_,rfl,hd,k⟩:=all2_cons k
 obtain ⟨e,_,rfl,he,k⟩:=all2_cons k
 have:=all2_nil k; subst this
 obtain ⟨x,rfl⟩:=shp_str Tryz.underlying9 ha
 obtain ⟨y,rfl⟩:=shp_int Tryz.underlying3 hb
 obtain ⟨y2,rfl⟩:=shp_int Tryz.underlying3 hc
 obtain ⟨y3,rfl⟩:=shp_int Tryz.underlying3 hd
 obtain ⟨y4,rfl⟩:=shp_int Tryz.underlying3 he
 exact ⟨⟨x,y,y2,y3,y4⟩,rfl⟩
theorem shp_pt {m:Nat}{ds:List D}(h:Shp Tryz.prog m 97 ds):∃ p:Pt,ds=[int p.x,int p.y]:=by
 obtain ⟨n,parts,rfl,k⟩:=shp_struct Tryz.underlying97 h
 obtain ⟨a,_,rfl,ha,k⟩:=all2_cons k
 obtain ⟨b,_,rfl,hb,k⟩:=all2_cons k
 have:=all2_nil k; subst this
 obtain ⟨x,rfl⟩:=shp_int Tryz.underlying3 ha
 obtain ⟨y,rfl⟩:=shp_int Tryz.underlying3 hb
 exact ⟨⟨x,y⟩,rfl⟩
theorem agg97:isAggTy Tryz.prog 97=true:=by unfold isAggTy; rw [Tryz.underlying97]
theorem agg55:isAggTy Tryz.prog 55=true:=by unfold isAggTy; rw [Tryz.underlying55]
theorem agg53:isAggTy Tryz.prog 53=true:=by unfold isAggTy; rw [Tryz.underlying53]
theorem agg65:isAggTy Tryz.prog 65=true:=by unfold isAggTy; rw [Tryz.underlying65]
theorem co97:Tryz.prog.cellsOf 97=2:=by kernel_rfl
theorem co55:Tryz.prog.cellsOf 55=2:=by kernel_rfl
theorem co53:Tryz.prog.cellsOf 53=5:=by kernel_rfl
theorem co65:Tryz.prog.cellsOf 65=4:=by kernel_rfl
theorem shp_poly {m:Nat}{ds:List D}(h:Shp Tryz.prog m 61 ds):∃ p:List Pt,ds=[poly p]:=by
 obtain ⟨n,ls,rfl,h1⟩:=shp_slice Tryz.underlying61 h
 obtain ⟨xs,rfl⟩:=list_of (fun p:Pt=>[int p.x,int p.y]) (fun l hl=>shp_pt hl) ls h1
 rw [agg97,co97,List.map_map]
 exact ⟨xs,rfl⟩
theorem shp_prism {m:Nat}{ds:List D}(h:Shp Tryz.prog m 63 ds):∃ p y z,ds=[poly p,int y,int z]:=by
 obtain ⟨n,parts,rfl,k⟩:=shp_struct Tryz.underlying63 h
 obtain ⟨a,_,rfl,ha,k⟩:=all2_cons k
 obtain ⟨b,_,rfl,hb,k⟩:=all2_cons k
 obtain ⟨c,_,rfl,hc,k⟩:=all2_cons k
 have:=all2_nil k; subst this
 obtain ⟨p,rfl⟩:=shp_poly ha
 obtain ⟨y,rfl⟩:=shp_int Tryz.underlying3 hb
 obtain ⟨z,rfl⟩:=shp_int Tryz.underlying3 hc
 exact ⟨p,y,z,rfl⟩
theorem shp_flaw {m:Nat}{ds:List D}(h:Shp Tryz.prog m 65 ds):∃ f:Flaw,ds=[.str f.name,poly f.base,int f.lo,int f.hi]:=by
 obtain ⟨n,parts,rfl,k⟩:=shp_struct Tryz.underlying65 h
 obtain ⟨a,_,rfl,ha,k⟩:=all2_cons k
 obtain ⟨b,_,rfl,hb,k⟩:=all2_cons k
 have:=all2_nil k; subst this
 obtain ⟨x,rfl⟩:=shp_str Tryz.underlying9 ha
 obtain ⟨p,y,z,rfl⟩:=shp_prism hb
 exact ⟨⟨x,p,y,z⟩,rfl⟩
theorem shp_survey {m:Nat}{ds:List D}(h:Shp Tryz.prog m 31 ds):∃ s:Survey,ds=s.cells:=by
 obtain ⟨n,parts,rfl,k⟩:=shp_struct Tryz.underlying31 h
 obtain ⟨a,_,rfl,ha,k⟩:=all2_cons k
 obtain ⟨b,_,rfl,hb,k⟩:=all2_cons k
 obtain ⟨c,_,rfl,hc,k⟩:=all2_cons k
 obtain ⟨d,_,rfl,hd,k⟩:=all2_cons k
 obtain ⟨e,_,rfl,he,k⟩:=all2_cons k
 have:=all2_nil k; subst this
 obtain ⟨bo,rfl⟩:=shp_box ha
 obtain ⟨_,ps,rfl,hl,hp⟩:=shp_array Tryz.underlying26 hb
 obtain ⟨bs,rfl⟩:=list_of (fun p:Bool=>[D.bool p]) (fun l hl=>shp_bool Tryz.underlying4 hl) ps hp
 obtain ⟨_,ls,rfl,h1⟩:=shp_slice Tryz.underlying27 hc
 obtain ⟨xs,rfl⟩:=list_of (fun b:Bed=>[.str b.name,int b.z]) (fun l hl=>shp_bed hl) ls h1
 obtain ⟨_,ls,rfl,h1⟩:=shp_slice Tryz.underlying28 hd
 obtain ⟨ys,rfl⟩:=list_of (fun j:Joint=>[.str j.name,int j.axis,int j.at_,int j.lo,int j.hi]) (fun l hl=>shp_joint hl) ls h1
 obtain ⟨_,ls,rfl,h1⟩:=shp_slice Tryz.underlying29 he
 obtain ⟨zs,rfl⟩:=list_of (fun f:Flaw=>[.str f.name,poly f.base,int f.lo,int f.hi]) (fun l hl=>shp_flaw hl) ls h1
 rw [agg55,co55,agg53,co53,agg65,co65,List.map_map,List.map_map,List.map_map]
 match bs,hl with
 | [o0,o1,o2,o3],_=>exact ⟨⟨bo,o0,o1,o2,o3,xs,ys,zs⟩,rfl⟩
end Tz
namespace Gs
open Go Go.Proofs
noncomputable def qOf (w:World):Pm:=fun B o=>match w.cell? ⟨B,o,none⟩ with
  | some v=>if v.oneCell'=true then some v else none
  | none=>none
theorem qOf_spec (w:World)(B o:Nat)(v:Value)(h:w.cell? ⟨B,o,none⟩=some v)(h1:v.oneCell'=true):qOf w B o=some v:=by
 simp [qOf,h,h1]
theorem qOf_cell {w:World}{B o:Nat}{v:Value}(h:qOf w B o=some v):w.cell? ⟨B,o,none⟩=some v∧v.oneCell'=true:=by
 unfold qOf at h
 cases hc:w.cell? ⟨B,o,none⟩ with
 | none=>rw [hc] at h; cases h
 | some u=>
   rw [hc] at h
   simp only at h
   by_cases h1:u.oneCell'=true
   · rw [if_pos h1] at h; injection h with h; subst h; exact ⟨rfl,h1⟩
   · rw [if_neg h1] at h; cases h
theorem core_of (w:World):Core (fun _=>none) (qOf w) [] w:=
 ⟨fun B o v h=>.inl (qOf_cell h),fun b x h=>(by cases h),fun b i h=>(by cases h),fun b b' i i' B o n o' n' h=>(by cases h)⟩
theorem below_of {w w':World}{q:Pm}{K':Km}{Q':Pm}{H':Heap}(h:Sim ⟨w,q⟩ (fun _=>none) K' Q' H' w'):RowKit.Below w.heap.size w w':=
 ⟨h.kept.os,h.kept.tape,h.kept.output,h.kept.size,fun k hk=>h.kept.block k hk (by rintro ⟨b,i,o,n,hh,_⟩; cases hh)⟩
theorem calls_of [GlobTab] {P:Program}{T:Tab}(h:TabOk P T){g:Nat}{args:List D}{r:D}(hc:(lim T).call g args []=some (r,[])){w:World}(hg:GlobOk (qOf w)){vs:List Value}(ha:RelL (fun _=>none) (qOf w) args vs) :
   Calls P g vs.toArray w fun e w'=>∃ v,e = .returned v∧RowKit.Below w.heap.size w w'∧∃ K' Q',Rel K' Q' r v:=
 ((gives h hc).2 _ _ w vs (by intro b hb; cases hb) hg (core_of w) ha).mono fun e w' ⟨v,he,K',Q',hs,_,hr⟩=>⟨v,he,below_of hs,K',Q',hr⟩
theorem find_mem {α:Type} : ∀ {l:List (Nat×α)} {i:Nat} {x:α},Tz.find l i=some x→(i,x)∈l
 | [],_,_,h=>by cases h
 | (k,y) :: r,i,x,h=>by
   unfold Tz.find at h
   cases hk:k == i with
   | true=>rw [hk] at h; injection h with h; subst h; have:=eq_of_beq hk; subst this; exact List.mem_cons_self
   | false=>rw [hk] at h; exact List.mem_cons_of_mem _ (find_mem h)
end Gs
namespace Tz
open Gs Go Go.Proofs
theorem glob_any (Q:Pm):GlobOk Q:=by
 intro g cs hg
 cases hg
theorem tab_ok:TabOk Tryz.prog T where
 mixed:=mixed_ok
 ext:=by
   intro g s hs args H r H' h
   have hs':find exts g=some s:=hs
   have hm:=find_mem hs'
   simp only [exts,List.mem_cons,List.not_mem_nil,or_false,Prod.mk.injEq] at hm
   rcases hm with ⟨rfl,rfl⟩ | ⟨rfl,rfl⟩ | ⟨rfl,rfl⟩ | ⟨rfl,rfl⟩
   · exact gives_sortStr args H r H' h
   · exact gives_sortIv args H r H' h
   · exact gives_convex args H r H' h
   · exact gives_edge args H r H' h
 fn:=by
   intro g f _ hf
   have hf':find fns g=some f:=hf
   have h:=List.all_eq_true.1 all_ok (g,f) (find_mem hf')
   unfold chk1 at h
   simp only at h
   split at h
   · rename_i fn hfn; exact ⟨fn,hfn,h⟩
   · cases h
end Tz
