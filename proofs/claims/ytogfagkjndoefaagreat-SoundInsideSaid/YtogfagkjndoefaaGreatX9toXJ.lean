/- Surveys and boxes as data; What the evaluator says of a call, the model gives; no conditions. -/
import Derived.Test.YtogfagkjndoefaaGreatX8
import Derived.Test.YtogfagkjndoefaaGreatS1
import Derived.Test.YtogfagkjndoefaaGreatProg
import Derived.Test.YtogfagkjndoefaaGreatK1
import Derived.Test.YtogfagkjndoefaaGreatX33toXBx
import Derived.Test.YtogfagkjndoefaaGreatX7b
import Derived.ProofKit
import Derived.Handed
set_option linter.all false
namespace Tz
open Gs Go Go.Proofs
section
variable {P:Program} {m:Nat}
theorem all2_cons {α β:Type}{R:α→β→Prop}{a:α}{l:List α}{ys:List β}(h:AllBy R (a :: l) ys):∃ y zs,ys=y :: zs∧R a y∧AllBy R l zs:=by
 cases ys with
 | nil=>cases h
 | cons y zs=>exact ⟨y,zs,rfl,h.1,h.2⟩
theorem all2_nil {α β:Type}{R:α→β→Prop}{ys:List β}(h:AllBy R [] ys):ys=[]:=by
 cases ys with
 | nil=>rfl
 | cons y zs=>cases h
theorem shp_int {t:TypeId}{k:IntKind}{ds:List D}(ht:P.underlying t=some (.int k))(h:Shp P m t ds):∃ z,ds=[.int k z]:=by
 cases m with
 | zero=>cases h
 | succ m=>unfold Shp at h; rw [ht] at h; exact h
theorem shp_str {t:TypeId}{ds:List D}(ht:P.underlying t=some .string)(h:Shp P m t ds):∃ z,ds=[.str z]:=by
 cases m with
 | zero=>cases h
 | succ m=>unfold Shp at h; rw [ht] at h; exact h
theorem shp_bool {t:TypeId}{ds:List D}(ht:P.underlying t=some .bool)(h:Shp P m t ds):∃ z,ds=[.bool z]:=by
 cases m with
 | zero=>cases h
 | succ m=>unfold Shp at h; rw [ht] at h; exact h
theorem shp_struct {t:TypeId}{fs:Array Field}{ds:List D}(ht:P.underlying t=some (.struct fs))(h:Shp P m t ds):∃ n parts,ds=parts.flatten∧AllBy (fun (f:Field) l=>Shp P n f.type l) fs.toList parts:=by
 cases m with
 | zero=>cases h
 | succ m=>unfold Shp at h; rw [ht] at h; obtain ⟨parts,h1,h2⟩:=h; exact ⟨m,parts,h1,h2⟩
theorem shp_array {t e:TypeId}{k:Nat}{ds:List D}(ht:P.underlying t=some (.array k e))(h:Shp P m t ds):∃ n,∃ parts:List (List D),ds=parts.flatten∧parts.length=k∧∀ l∈parts,Shp P n e l:=by
 cases m with
 | zero=>cases h
 | succ m=>unfold Shp at h; rw [ht] at h; obtain ⟨parts,h1,h2⟩:=h; exact ⟨m,parts,h1,h2⟩
theorem shp_slice {t e:TypeId}{ds:List D}(ht:P.underlying t=some (.slice e))(h:Shp P m t ds):∃ n,∃ ls:List (List D),ds=[.fz false (P.cellsOf e) (ls.map (packD (isAggTy P e)))]∧∀ l∈ls,Shp P n e l:=by
 cases m with
 | zero=>cases h
 | succ m=>unfold Shp at h; rw [ht] at h; obtain ⟨ls,h1,h2⟩:=h; exact ⟨m,ls,h1,h2⟩
theorem list_of {α:Type}{R:List D→Prop}(f:α→List D)(h:∀ l,R l→∃ x,l=f x):∀ ls:List (List D),(∀ l∈ls,R l)→∃ xs:List α,ls=xs.map f
 | [],_=>⟨[],rfl⟩
 | l :: r,hr=>by
   obtain ⟨x,rfl⟩:=h l (hr l (by simp))
   obtain ⟨xs,rfl⟩:=list_of f h r (fun l hl=>hr l (by simp [hl]))
   exact ⟨x :: xs,rfl⟩
end
theorem shp_p3 {m:Nat}{ds:List D}(h:Shp Tryz.prog m 23 ds):∃ x y z,ds=[int x,int y,int z]:=by
 obtain ⟨n,parts,rfl,k⟩:=shp_struct Tryz.underlying23 h
 obtain ⟨a,_,rfl,ha,k⟩:=all2_cons k
 obtain ⟨b,_,rfl,hb,k⟩:=all2_cons k
 obtain ⟨c,_,rfl,hc,k⟩:=all2_cons k
 have:=all2_nil k; subst this
 obtain ⟨x,rfl⟩:=shp_int Tryz.underlying3 ha
 obtain ⟨y,rfl⟩:=shp_int Tryz.underlying3 hb
 obtain ⟨z,rfl⟩:=shp_int Tryz.underlying3 hc
 exact ⟨x,y,z,rfl⟩
abbrev Box.cells (b:Box):List D:=[int b.x0,int b.y0,int b.z0,int b.x1,int b.y1,int b.z1]
theorem shp_box {m:Nat}{ds:List D}(h:Shp Tryz.prog m 25 ds):∃ b:Box,ds=b.cells:=by
 obtain ⟨n,parts,rfl,k⟩:=shp_struct Tryz.underlying25 h
 obtain ⟨a,_,rfl,ha,k⟩:=all2_cons k
 obtain ⟨b,_,rfl,hb,k⟩:=all2_cons k
 have:=all2_nil k; subst this
 obtain ⟨x,y,z,rfl⟩:=shp_p3 ha
 obtain ⟨x',y',z',rfl⟩:=shp_p3 hb
 exact ⟨⟨x,y,z,x',y',z'⟩,rfl⟩
theorem shp_bed {m:Nat}{ds:List D}(h:Shp Tryz.prog m 74 ds):∃ b:Bed,ds=[.str b.name,int b.z]:=by
 obtain ⟨n,parts,rfl,k⟩:=shp_struct Tryz.underlying74 h
 obtain ⟨a,_,rfl,ha,k⟩:=all2_cons k
 obtain ⟨b,_,rfl,hb,k⟩:=all2_cons k
 have:=all2_nil k; subst this
 obtain ⟨x,rfl⟩:=shp_str Tryz.underlying9 ha
 obtain ⟨y,rfl⟩:=shp_int Tryz.underlying3 hb
 exact ⟨⟨x,y⟩,rfl⟩
theorem shp_joint {m:Nat}{ds:List D}(h:Shp Tryz.prog m 106 ds):∃ j:Joint,ds=[.str j.name,int j.axis,int j.at_,int j.lo,int j.hi]:=by
 obtain ⟨n,parts,rfl,k⟩:=shp_struct Tryz.underlying106 h
 obtain ⟨a,_,rfl,ha,k⟩:=all2_cons k
 obtain ⟨b,_,rfl,hb,k⟩:=all2_cons k
 obtain ⟨c,_,rfl,hc,k⟩:=all2_cons k
 obtain ⟨d,_,rfl,hd,k⟩:=all2_cons k
 obtain ⟨e,_,rfl,he,k⟩:=all2_cons k
 have:=all2_nil k; subst this
 obtain ⟨x,rfl⟩:=shp_str Tryz.underlying9 ha
 obtain ⟨y,rfl⟩:=shp_int Tryz.underlying3 hb
 obtain ⟨y2,rfl⟩:=shp_int Tryz.underlying3 hc
 obtain ⟨y3,rfl⟩:=shp_int Tryz.underlying3 hd
 obtain ⟨y4,rfl⟩:=shp_int Tryz.underlying3 he
 exact ⟨⟨x,y,y2,y3,y4⟩,rfl⟩
theorem shp_pt {m:Nat}{ds:List D}(h:Shp Tryz.prog m 76 ds):∃ p:Pt,ds=[int p.x,int p.y]:=by
 obtain ⟨n,parts,rfl,k⟩:=shp_struct Tryz.underlying76 h
 obtain ⟨a,_,rfl,ha,k⟩:=all2_cons k
 obtain ⟨b,_,rfl,hb,k⟩:=all2_cons k
 have:=all2_nil k; subst this
 obtain ⟨x,rfl⟩:=shp_int Tryz.underlying3 ha
 obtain ⟨y,rfl⟩:=shp_int Tryz.underlying3 hb
 exact ⟨⟨x,y⟩,rfl⟩
theorem agg76:isAggTy Tryz.prog 76=true:=by unfold isAggTy; rw [Tryz.underlying76]
theorem agg74:isAggTy Tryz.prog 74=true:=by unfold isAggTy; rw [Tryz.underlying74]
theorem agg106:isAggTy Tryz.prog 106=true:=by unfold isAggTy; rw [Tryz.underlying106]
theorem agg82:isAggTy Tryz.prog 82=true:=by unfold isAggTy; rw [Tryz.underlying82]
theorem co76:Tryz.prog.cellsOf 76=2:=by kernel_rfl
theorem co74:Tryz.prog.cellsOf 74=2:=by kernel_rfl
theorem co106:Tryz.prog.cellsOf 106=5:=by kernel_rfl
theorem co82:Tryz.prog.cellsOf 82=4:=by kernel_rfl
theorem shp_poly {m:Nat}{ds:List D}(h:Shp Tryz.prog m 78 ds):∃ p:List Pt,ds=[poly p]:=by
 obtain ⟨n,ls,rfl,h1⟩:=shp_slice Tryz.underlying78 h
 obtain ⟨xs,rfl⟩:=list_of (fun p:Pt=>[int p.x,int p.y]) (fun l hl=>shp_pt hl) ls h1
 rw [agg76,co76,List.map_map]
 exact ⟨xs,rfl⟩
theorem shp_prism {m:Nat}{ds:List D}(h:Shp Tryz.prog m 80 ds):∃ p y z,ds=[poly p,int y,int z]:=by
 obtain ⟨n,parts,rfl,k⟩:=shp_struct Tryz.underlying80 h
 obtain ⟨a,_,rfl,ha,k⟩:=all2_cons k
 obtain ⟨b,_,rfl,hb,k⟩:=all2_cons k
 obtain ⟨c,_,rfl,hc,k⟩:=all2_cons k
 have:=all2_nil k; subst this
 obtain ⟨p,rfl⟩:=shp_poly ha
 obtain ⟨y,rfl⟩:=shp_int Tryz.underlying3 hb
 obtain ⟨z,rfl⟩:=shp_int Tryz.underlying3 hc
 exact ⟨p,y,z,rfl⟩
theorem shp_flaw {m:Nat}{ds:List D}(h:Shp Tryz.prog m 82 ds):∃ f:Flaw,ds=[.str f.name,poly f.base,int f.lo,int f.hi]:=by
 obtain ⟨n,parts,rfl,k⟩:=shp_struct Tryz.underlying82 h
 obtain ⟨a,_,rfl,ha,k⟩:=all2_cons k
 obtain ⟨b,_,rfl,hb,k⟩:=all2_cons k
 have:=all2_nil k; subst this
 obtain ⟨x,rfl⟩:=shp_str Tryz.underlying9 ha
 obtain ⟨p,y,z,rfl⟩:=shp_prism hb
 exact ⟨⟨x,p,y,z⟩,rfl⟩
theorem shp_survey {m:Nat}{ds:List D}(h:Shp Tryz.prog m 31 ds):∃ s:Survey,ds=s.cells:=by
 obtain ⟨n,parts,rfl,k⟩:=shp_struct Tryz.underlying31 h
 obtain ⟨a,_,rfl,ha,k⟩:=all2_cons k
 obtain ⟨b,_,rfl,hb,k⟩:=all2_cons k
 obtain ⟨c,_,rfl,hc,k⟩:=all2_cons k
 obtain ⟨d,_,rfl,hd,k⟩:=all2_cons k
 obtain ⟨e,_,rfl,he,k⟩:=all2_cons k
 have:=all2_nil k; subst this
 obtain ⟨bo,rfl⟩:=shp_box ha
 obtain ⟨_,ps,rfl,hl,hp⟩:=shp_array Tryz.underlying26 hb
 obtain ⟨bs,rfl⟩:=list_of (fun p:Bool=>[D.bool p]) (fun l hl=>shp_bool Tryz.underlying4 hl) ps hp
 obtain ⟨_,ls,rfl,h1⟩:=shp_slice Tryz.underlying27 hc
 obtain ⟨xs,rfl⟩:=list_of (fun b:Bed=>[.str b.name,int b.z]) (fun l hl=>shp_bed hl) ls h1
 obtain ⟨_,ls,rfl,h1⟩:=shp_slice Tryz.underlying28 hd
 obtain ⟨ys,rfl⟩:=list_of (fun j:Joint=>[.str j.name,int j.axis,int j.at_,int j.lo,int j.hi]) (fun l hl=>shp_joint hl) ls h1
 obtain ⟨_,ls,rfl,h1⟩:=shp_slice Tryz.underlying29 he
 obtain ⟨zs,rfl⟩:=list_of (fun f:Flaw=>[.str f.name,poly f.base,int f.lo,int f.hi]) (fun l hl=>shp_flaw hl) ls h1
 rw [agg74,co74,agg106,co106,agg82,co82,List.map_map,List.map_map,List.map_map]
 match bs,hl with
 | [o0,o1,o2,o3],_=>exact ⟨⟨bo,o0,o1,o2,o3,xs,ys,zs⟩,rfl⟩
end Tz
namespace Gs
open Go Go.Proofs
noncomputable def qOf (w:World):Pm:=fun B o=>match w.cell? ⟨B,o,none⟩ with
  | some v=>if v.oneCell'=true then some v else none
  | none=>none
theorem qOf_spec (w:World)(B o:Nat)(v:Value)(h:w.cell? ⟨B,o,none⟩=some v)(h1:v.oneCell'=true):qOf w B o=some v:=by
 simp [qOf,h,h1]
theorem qOf_cell {w:World}{B o:Nat}{v:Value}(h:qOf w B o=some v):w.cell? ⟨B,o,none⟩=some v∧v.oneCell'=true:=by
 unfold qOf at h
 cases hc:w.cell? ⟨B,o,none⟩ with
 | none=>rw [hc] at h; cases h
 | some u=>
   rw [hc] at h
   simp only at h
   by_cases h1:u.oneCell'=true
   · rw [if_pos h1] at h; injection h with h; subst h; exact ⟨rfl,h1⟩
   · rw [if_neg h1] at h; cases h
theorem core_of (w:World):Core (fun _=>none) (qOf w) [] w:=
 ⟨fun B o v h=>.inl (qOf_cell h),fun b x h=>(by cases h),fun b i h=>(by cases h),fun b b' i i' B o n o' n' h=>(by cases h)⟩
theorem below_of [GlobTab] {w w':World}{q:Pm}{K':Km}{Q':Pm}{H':Heap}(h:Sim ⟨w,q⟩ (fun _=>none) K' Q' H' w'):RowKit.Below w.heap.size w w':=
 ⟨h.kept.os,h.kept.tape,h.kept.output,h.kept.size,fun k hk=>h.kept.block k hk (by rintro ⟨b,i,o,n,hh,_⟩; cases hh)⟩
theorem calls_of [GlobTab] {P:Program}{T:Tab}(h:TabOk P T){g:Nat}{args:List D}{r:D}(hc:(lim T).call g args []=some (r,[])){w:World}(hg:GlobOk (qOf w)){vs:List Value}(ha:RelL (fun _=>none) (qOf w) args vs) :
   Calls P g vs.toArray w fun e w'=>∃ v,e = .returned v∧RowKit.Below w.heap.size w w'∧∃ K' Q',Rel K' Q' r v:=
 ((gives h hc).2 _ _ w vs (by intro b hb; cases hb) hg (core_of w) ha).mono fun e w' ⟨v,he,K',Q',hs,_,hr⟩=>⟨v,he,below_of hs,K',Q',hr⟩
theorem relL_one {K:Km}{Q:Pm}{d:D}{v:Value}(h:RelL K Q [d] [v]):Rel K Q d v:=by cases h with | cons h _=>exact h
theorem find_mem {α:Type} : ∀ {l:List (Nat×α)} {i:Nat} {x:α},Tz.find l i=some x→(i,x)∈l
 | [],_,_,h=>by cases h
 | (k,y) :: r,i,x,h=>by
   unfold Tz.find at h
   cases hk:k == i with
   | true=>rw [hk] at h; injection h with h; subst h; have:=eq_of_beq hk; subst this; exact List.mem_cons_self
   | false=>rw [hk] at h; exact List.mem_cons_of_mem _ (find_mem h)
end Gs
namespace Tz
open Gs Go Go.Proofs
theorem glob_any (Q:Pm):GlobOk Q:=by
 intro g cs hg
 cases hg
theorem tab_ok:TabOk Tryz.prog T where
 mixed:=mixed_ok
 ext:=by
   intro g s hs args H r H' h
   have hs':find exts g=some s:=hs
   have hm:=find_mem hs'
   simp only [exts,List.mem_cons,List.not_mem_nil,or_false,Prod.mk.injEq] at hm
   rcases hm with ⟨rfl,rfl⟩ | ⟨rfl,rfl⟩ | ⟨rfl,rfl⟩ | ⟨rfl,rfl⟩ | ⟨rfl,rfl⟩
   · exact gives_sortStr args H r H' h
   · exact gives_sortInt args H r H' h
   · exact gives_sortBox args H r H' h
   · exact gives_convex args H r H' h
   · exact gives_edge args H r H' h
 fn:=by
   intro g f _ hf
   have hf':find fns g=some f:=hf
   have h:=List.all_eq_true.1 all_ok (g,f) (find_mem hf')
   unfold chk1 at h
   simp only at h
   split at h
   · rename_i fn hfn; exact ⟨fn,hfn,h⟩
   · cases h
end Tz
