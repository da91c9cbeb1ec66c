/- Arguments of plain data; no conditions. -/
import Derived.Test.YtogfagkjndoefaaGreatGsA
import Derived.ProofKit
import Derived.OpenShut
set_option linter.all false
namespace Gs
open Go
def isAggTy (P:Program)(t:TypeId):Bool:=match P.underlying t with
  | some (.struct _)=>true
  | some (.array _ _)=>true
  | _=>false
def tilesB (P:Program)(N:Nat):List Field→Nat→Bool
 | [],o=>decide (o=N)
 | f :: r,o=>decide (f.offset=o) && tilesB P N r (o + P.cellsOf f.type)
def plainTy (P:Program):Nat→TypeId→Bool
 | 0,_=>false
 | n + 1,t=>match P.underlying t with
   | some .bool=>true
   | some (.int _)=>true
   | some .string=>true
   | some (.slice e)=>decide (0 < P.cellsOf e) && (bif isAggTy P e then true else decide (P.cellsOf e=1)) && plainTy P n e
   | some (.struct fs)=>tilesB P (P.cellsOf t) fs.toList 0 && fs.toList.all (fun f=>plainTy P n f.type)
   | some (.array m e)=>decide (P.cellsOf t=m * P.cellsOf e) && plainTy P n e
   | _=>false
def AllBy {α β:Type}(R:α→β→Prop):List α→List β→Prop
 | [],[]=>True
 | a :: l,b :: m=>R a b∧AllBy R l m
 | _,_=>False
def packD:Bool→List D→D
 | true,l=>.agg l
 | false,[d]=>d
 | false,_=>.dead
def Shp (P:Program):Nat→TypeId→List D→Prop
 | 0,_,_=>False
 | n + 1,t,ds=>match P.underlying t with
   | some .bool=>∃ b,ds=[.bool b]
   | some (.int k)=>∃ z,ds=[.int k z]
   | some .string=>∃ s,ds=[.str s]
   | some (.slice e)=>∃ ls:List (List D),ds=[.fz false (P.cellsOf e) (ls.map (packD (isAggTy P e)))]∧∀ l∈ls,Shp P n e l
   | some (.struct fs)=>∃ parts:List (List D),ds=parts.flatten∧AllBy (fun (f:Field) l=>Shp P n f.type l) fs.toList parts
   | some (.array m e)=>∃ parts:List (List D),ds=parts.flatten∧parts.length=m∧∀ l∈parts,Shp P n e l
   | _=>False
theorem choose_list {β:Type}{R:Nat→β→Prop} : ∀ n,(∀ i,i < n→∃ y,R i y)→∃ l:List β,l.length=n∧∀ i y,l[i]?=some y→R i y
 | 0,_=>⟨[],rfl,by simp⟩
 | n + 1,h=>by
   obtain ⟨l,h1,h2⟩:=choose_list n (fun i hi=>h i (by omega))
   obtain ⟨y,hy⟩:=h n (by omega)
   refine ⟨l ++ [y],by simp [h1],fun i z hz=>?_⟩
   by_cases hi:i < l.length
   · rw [List.getElem?_append_left hi] at hz; exact h2 i z hz
   · rw [List.getElem?_append_right (by omega)] at hz
     have:i - l.length=0:=by
       rcases Nat.eq_zero_or_pos (i - l.length) with h | h
       · exact h
       · rw [List.getElem?_eq_none (by simp; omega)] at hz; cases hz
     rw [this] at hz; simp at hz; subst hz
     have:i=n:=by omega
     rw [this]; exact hy
section
variable {H:Type} {enc:TypeId×Value→H} {P:Program} {w:World} {base:Nat} {spare:Nat→Bool} {held:Bool} {K:Km} {Q:Pm}
theorem relL_append:∀ {ds es:List D} {vs us:List Value},RelL K Q ds vs→RelL K Q es us→RelL K Q (ds ++ es) (vs ++ us)
 | [],_,_,_,.nil,h=>h
 | _ :: _,_,_,_,.cons h t,h'=>.cons h (relL_append t h')
theorem closedL_append:∀ {ds es:List D},closedL ds=true→closedL es=true→closedL (ds ++ es)=true
 | [],_,_,h=>h
 | d :: r,es,h,h'=>by
   simp only [closedL,List.cons_append] at h ⊢
   cases hd:closed d with
   | false=>rw [hd] at h; cases h
   | true=>rw [hd] at h; simp only [cond_true] at h ⊢; exact closedL_append h h'
structure Reads (K:Km) (Q:Pm) (P:Program) (m:Nat) (t:TypeId) (cs:List Value) (ds:List D):Prop where
 rel:RelL K Q ds cs
 shp:Shp P m t ds
 cl:closedL ds=true
 one:∀ v∈cs,v.oneCell'=true
 flat:∀ d∈ds,cellsOf d=[d]
theorem relAt_of {B o:Nat} : ∀ {ds:List D} {cs:List Value},RelL K Q ds cs→(∀ v∈cs,v.oneCell'=true)→(∀ i v,cs[i]?=some v→Q B (o + i)=some v)→RelAt K Q B o ds:=by
 intro ds
 induction ds generalizing o with
 | nil=>intro cs _ _ _; exact .nil _ _
 | cons d r ih=>
   intro cs h h1 hq
   cases h with
   | cons h t=>
     refine .cons (hq 0 _ rfl) (h1 _ List.mem_cons_self) h (ih t (fun v hv=>h1 v (List.mem_cons_of_mem _ hv)) fun i v hv=>?_)
     have:=hq (i + 1) v hv
     rwa [show o + 1 + i=o + (i + 1) by omega]
theorem relRow_of {B esz:Nat} : ∀ {xs:List D} {o:Nat},(∀ i d,xs[i]?=some d→(cellsOf d).length=esz∧RelAt K Q B (o + i * esz) (cellsOf d))→RelRow K Q B o esz xs:=by
 intro xs
 induction xs with
 | nil=>intro o _; exact .nil _ _ _
 | cons d r ih=>
   intro o h
   have h0:=h 0 d rfl
   rw [Nat.zero_mul,Nat.add_zero] at h0
   refine .cons h0.1 h0.2 (ih fun i e he=>?_)
   have:=h (i + 1) e he
   rwa [show o + esz + i * esz=o + (i + 1) * esz by rw [Nat.add_mul]; omega]
theorem relL_len:∀ {ds:List D} {vs:List Value},RelL K Q ds vs→ds.length=vs.length
 | _,_,.nil=>rfl
 | _,_,.cons _ t=>by simp [relL_len t]
theorem parts_struct {m N:Nat}{cs:List Value}(hN:cs.length=N):∀ (fs:List Field) (o:Nat),tilesB P N fs o=true→(∀ f∈fs,∃ ds,Reads K Q P m f.type ((cs.drop f.offset).take (P.cellsOf f.type)) ds)→
   ∃ parts:List (List D),AllBy (fun (f:Field) l=>Shp P m f.type l) fs parts∧RelL K Q parts.flatten (cs.drop o)∧closedL parts.flatten=true∧(∀ v∈cs.drop o,v.oneCell'=true)∧∀ d∈parts.flatten,cellsOf d=[d]
 | [],o,ht,_=>by
   have ho:o=N:=of_decide_eq_true ht
   have hd:cs.drop o=[]:=List.drop_of_length_le (by omega)
   rw [hd]
   exact ⟨[],trivial,.nil,rfl,by simp,by simp⟩
 | f :: r,o,ht,hf=>by
   simp only [tilesB,Bool.and_eq_true,decide_eq_true_eq] at ht
   obtain ⟨ds,h1,h2,h3,h4,h5⟩:=hf f (by simp)
   obtain ⟨parts,p1,p2,p3,p4,p5⟩:=parts_struct hN r _ ht.2 (fun g hg=>hf g (by simp [hg]))
   rw [ht.1] at h1 h4
   have hsplit:cs.drop o=(cs.drop o).take (P.cellsOf f.type) ++ cs.drop (o + P.cellsOf f.type):=by
     rw [←List.drop_drop,List.take_append_drop]
   refine ⟨ds :: parts,⟨h2,p1⟩,?_,?_,?_,?_⟩
   · rw [hsplit,List.flatten_cons]; exact relL_append h1 p2
   · rw [List.flatten_cons]; exact closedL_append h3 p3
   · intro v hv; rw [hsplit] at hv; rcases List.mem_append.1 hv with hv | hv; exact h4 v hv; exact p4 v hv
   · intro d hd; rw [List.flatten_cons] at hd; rcases List.mem_append.1 hd with hd | hd; exact h5 d hd; exact p5 d hd
theorem parts_array {m c n:Nat}{e:TypeId}{cs:List Value}(hN:cs.length=n * c)(hf:∀ i,i < n→∃ ds,Reads K Q P m e ((cs.drop (i * c)).take c) ds):∀ (k i:Nat),i + k=n→
   ∃ parts:List (List D),parts.length=k∧(∀ l∈parts,Shp P m e l)∧RelL K Q parts.flatten (cs.drop (i * c))∧closedL parts.flatten=true∧(∀ v∈cs.drop (i * c),v.oneCell'=true)∧∀ d∈parts.flatten,cellsOf d=[d]
 | 0,i,hi=>by
   have hin:i=n:=by omega
   have hd:cs.drop (i * c)=[]:=List.drop_of_length_le (by rw [hin]; omega)
   rw [hd]
   exact ⟨[],rfl,by simp,.nil,rfl,by simp,by simp⟩
 | k + 1,i,hi=>by
   obtain ⟨ds,h1,h2,h3,h4,h5⟩:=hf i (by omega)
   obtain ⟨parts,p0,p1,p2,p3,p4,p5⟩:=parts_array hN hf k (i + 1) (by omega)
   have hsplit:cs.drop (i * c)=(cs.drop (i * c)).take c ++ cs.drop ((i + 1) * c):=by
     rw [show (i + 1) * c=i * c + c by rw [Nat.add_mul,Nat.one_mul],←List.drop_drop,List.take_append_drop]
   refine ⟨ds :: parts,by simp [p0],?_,?_,?_,?_,?_⟩
   · intro l hl; rcases List.mem_cons.1 hl with rfl | hl; exact h2; exact p1 l hl
   · rw [hsplit,List.flatten_cons]; exact relL_append h1 p2
   · rw [List.flatten_cons]; exact closedL_append h3 p3
   · intro v hv; rw [hsplit] at hv; rcases List.mem_append.1 hv with hv | hv; exact h4 v hv; exact p4 v hv
   · intro d hd; rw [List.flatten_cons] at hd; rcases List.mem_append.1 hd with hd | hd; exact h5 d hd; exact p5 d hd
theorem closedL_all:∀ {l:List D},(∀ d∈l,closed d=true)→closedL l=true
 | [],_=>rfl
 | d :: r,h=>by
   have hr:=closedL_all (l:=r) fun e he=>h e (by simp [he])
   simp only [closedL,h d (by simp),cond_true,hr]
theorem packD_ok {m:Nat}{e:TypeId}{cs:List Value}{ds:List D}(h:Reads K Q P m e cs ds)(hc:ds.length=P.cellsOf e)(ha:(bif isAggTy P e then true else decide (P.cellsOf e=1))=true) :
   cellsOf (packD (isAggTy P e) ds)=ds∧closed (packD (isAggTy P e) ds)=true:=by
 cases hag:isAggTy P e with
 | true=>exact ⟨rfl,h.cl⟩
 | false=>
   rw [hag] at ha
   have h1:P.cellsOf e=1:=of_decide_eq_true ha
   rw [h1] at hc
   obtain ⟨d,rfl⟩:=List.length_eq_one_iff.1 hc
   refine ⟨h.flat d (by simp),?_⟩
   have:=h.cl
   simp only [closedL] at this
   cases hd:closed d with
   | true=>exact hd
   | false=>rw [hd] at this; cases this
theorem told_of (hQ:∀ B o v,w.cell? ⟨B,o,none⟩=some v→v.oneCell'=true→Q B o=some v) :
   ∀ (n m:Nat) (t:TypeId) (cs:List Value) (x:DataW H×List MemPlace),plainTy P m t=true→DataW.trod enc P w base spare held n t cs=some x→∃ ds,Reads K Q P m t cs ds:=by
 intro n
 induction n with
 | zero=>intro m t cs x _ h; simp [DataW.trod] at h
 | succ n ih =>
   intro m t cs x hp h
   cases m with
   | zero=>cases hp
   | succ m=>
   unfold plainTy at hp
   cases hu:P.underlying t with
   | none=>rw [hu] at hp; cases hp
   | some u=>
   rw [hu] at hp
   cases u with
   | bool=>
     obtain ⟨b,rfl,_⟩:=DataW.trod_bool hu h
     refine ⟨[.bool b],.cons (.bool b) .nil,?_,rfl,by simp [Value.oneCell'],by simp [cellsOf]⟩
     unfold Shp; rw [hu]; exact ⟨b,rfl⟩
   | int k=>
     obtain ⟨z,rfl,_⟩:=DataW.trod_int hu h
     refine ⟨[.int k z],.cons (.int k z) .nil,?_,rfl,by simp [Value.oneCell'],by simp [cellsOf]⟩
     unfold Shp; rw [hu]; exact ⟨z,rfl⟩
   | string=>
     obtain ⟨s,rfl,_⟩:=DataW.trod_string hu h
     refine ⟨[.str s],.cons (.str s) .nil,?_,rfl,by simp [Value.oneCell'],by simp [cellsOf]⟩
     unfold Shp; rw [hu]; exact ⟨s,rfl⟩
   | slice e =>
     simp only [Bool.and_eq_true,decide_eq_true_eq] at hp
     obtain ⟨⟨hpos,hag⟩,hpe⟩:=hp
     rcases DataW.trod_slice hu h with ⟨rfl,_⟩ | ⟨a,len,cap,elems,rest,n',hn,rfl,_,_,hle,_,hlen,hel,_⟩
     · refine ⟨[.fz false (P.cellsOf e) []],.cons (.fzNil _ _) .nil,?_,rfl,by simp [Value.oneCell'],by simp [cellsOf]⟩
       unfold Shp; rw [hu]; exact ⟨[],rfl,by simp⟩
     · injection hn with hn; subst hn
       have key:∀ i,i < len→∃ ds,∃ cs',w.cells? base (a.add (i * P.cellsOf e)) (P.cellsOf e)=some cs'∧Reads K Q P m e cs' ds:=by
         intro i hi
         have h1:=hel i hi
         rw [List.getElem?_eq_getElem (by omega)] at h1
         obtain ⟨cs',h2,h3⟩:=Option.bind_eq_some_iff.1 h1
         obtain ⟨ds,h4⟩:=ih m e cs' _ hpe h3
         exact ⟨ds,cs',h2,h4⟩
       obtain ⟨ls,hl1,hl2⟩:=choose_list len key
       have hsl:closedL (ls.map (packD (isAggTy P e)))=true:=by
         refine closedL_all fun d hd=>?_
         obtain ⟨l,hl,rfl⟩:=List.mem_map.1 hd
         obtain ⟨i,hi,hg⟩:=List.mem_iff_getElem.1 hl
         obtain ⟨cs',c1,c2⟩:=hl2 i l (by rw [List.getElem?_eq_getElem hi,hg])
         have c3:=(World.cells?_some c1).2.1
         exact (packD_ok c2 (by rw [relL_len c2.rel,c3]) hag).2
       refine ⟨[.fz false (P.cellsOf e) (ls.map (packD (isAggTy P e)))],.cons ?_ .nil,?_,?_,by simp [Value.oneCell'],by simp [cellsOf]⟩
       · by_cases hz:len=0
         · have:ls=[]:=List.eq_nil_of_length_eq_zero (by omega)
           subst this; subst hz
           exact .fzE _ _ _
         · obtain ⟨l0,hl0⟩:∃ l0,ls[0]?=some l0:=⟨_,List.getElem?_eq_getElem (by omega)⟩
           obtain ⟨cs0,c1,c2⟩:=hl2 0 l0 hl0
           have c3:=World.cells?_some c1
           have c4:=c3.2.2 0 hpos
           obtain ⟨v0,hv0⟩:∃ v0,cs0[0]?=some v0:=⟨_,List.getElem?_eq_getElem (by omega)⟩
           rw [hv0] at c4
           obtain ⟨B,off,spot⟩:=a
           have hspot:spot=none:=by simpa [Addr.add] using World.cell?_spot c4
           subst hspot
           have hlen':(ls.map (packD (isAggTy P e))).length=len:=by simpa using hl1
           rw [←hlen']
           refine .fz (by intro he; rw [he] at hlen'; exact hz hlen'.symm) (relRow_of fun i d hd=>?_) (by omega) hsl
           rw [List.getElem?_map] at hd
           cases hli:ls[i]? with
           | none=>rw [hli] at hd; cases hd
           | some l=>
             rw [hli] at hd; injection hd with hd; subst hd
             obtain ⟨cs',c1,c2⟩:=hl2 i l hli
             have c3:=World.cells?_some c1
             have hll:l.length=P.cellsOf e:=by rw [relL_len c2.rel,c3.2.1]
             rw [(packD_ok c2 hll hag).1]
             refine ⟨hll,relAt_of c2.rel c2.one fun j v hv=>?_⟩
             have hjl:j < P.cellsOf e:=by rw [←c3.2.1]; exact (List.getElem?_eq_some_iff.1 hv).1
             have h5:=c3.2.2 j hjl
             rw [WideShapes.add_plain,WideShapes.add_plain,hv] at h5
             exact hQ _ _ _ h5 (c2.one v (List.mem_of_getElem? hv))
       · unfold Shp; rw [hu]
         refine ⟨ls,rfl,fun l hl=>?_⟩
         obtain ⟨i,hi,hg⟩:=List.mem_iff_getElem.1 hl
         obtain ⟨cs',_,c2⟩:=hl2 i l (by rw [List.getElem?_eq_getElem hi,hg])
         exact c2.shp
       · simp only [closedL,closed,hsl]; rfl
   | struct fs=>
     simp only [Bool.and_eq_true,List.all_eq_true] at hp
     obtain ⟨xs,n',hn,_,hcl,hxl,hf⟩:=DataW.trod_struct hu h
     injection hn with hn; subst hn
     obtain ⟨parts,p1,p2,p3,p4,p5⟩:=parts_struct (m:=m) (K:=K) (Q:=Q) (cs:=cs) hcl fs.toList 0 hp.1 (fun f hfm=>by
       obtain ⟨i,hi,hg⟩:=List.mem_iff_getElem.1 hfm
       have hfi:fs[i]?=some f:=by
         rw [←Array.getElem?_toList,List.getElem?_eq_getElem hi,hg]
       have h1:=hf i f hfi
       rw [List.getElem?_eq_getElem (by rw [hxl]; simpa using hi)] at h1
       exact ih m f.type _ _ (hp.2 f hfm) h1)
     refine ⟨parts.flatten,by simpa using p2,?_,p3,by simpa using p4,p5⟩
     unfold Shp; rw [hu]; exact ⟨parts,rfl,p1⟩
   | array k e=>
     simp only [Bool.and_eq_true,decide_eq_true_eq] at hp
     obtain ⟨xs,n',hn,_,hcl,hxl,hf⟩:=DataW.trod_array hu h
     injection hn with hn; subst hn
     obtain ⟨parts,p0,p1,p2,p3,p4,p5⟩:=parts_array (m:=m) (K:=K) (Q:=Q) (e:=e) (c:=P.cellsOf e) (n:=k) (cs:=cs) (by rw [hcl,hp.1]) (fun i hi=>by
       have h1:=hf i hi
       rw [List.getElem?_eq_getElem (by omega)] at h1
       exact ih m e _ _ hp.2 h1) k 0 (by omega)
     refine ⟨parts.flatten,by simpa using p2,?_,p3,by simpa using p4,p5⟩
     unfold Shp; rw [hu]; exact ⟨parts,rfl,p0,p1⟩
   | _=>cases hp
end
end Gs
