/- Surveys and boxes as data; part XJd; no conditions. -/
import Derived.Test.YtboigolndjinhaaGreatX7toX8
import Derived.Test.YtboigolndjinhaaGreatS70toS71
import Derived.Test.YtboigolndjinhaaGreatProg
import Derived.Test.YtboigolndjinhaaGreatK1
import Derived.Test.YtboigolndjinhaaGreatX3toX6
import Derived.ProofKit
import Derived.Handed
set_option linter.all false
namespace Tz
open Gs Go Go.Proofs
section
variable {P:Program} {m:Nat}
theorem all2_cons {α β:Type}{R:α→β→Prop}{a:α}{l:List α}{ys:List β}(h:AllBy R (a :: l) ys):∃ y zs,ys=y :: zs∧R a y∧AllBy R l zs:=by
 cases ys with
 | nil=>cases h
 | cons y zs=>exact ⟨y,zs,rfl,h.1,h.2⟩
theorem all2_nil {α β:Type}{R:α→β→Prop}{ys:List β}(h:AllBy R [] ys):ys=[]:=by
 cases ys with
 | nil=>rfl
 | cons y zs=>cases h
theorem shp_int {t:TypeId}{k:IntKind}{ds:List D}(ht:P.underlying t=some (.int k))(h:Shp P m t ds):∃ z,ds=[.int k z]:=by
 cases m with
 | zero=>cases h
 | succ m=>unfold Shp at h; rw [ht] at h; exact h
theorem shp_str {t:TypeId}{ds:List D}(ht:P.underlying t=some .string)(h:Shp P m t ds):∃ z,ds=[.str z]:=by
 cases m with
 | zero=>cases h
 | succ m=>unfold Shp at h; rw [ht] at h; exact h
theorem shp_bool {t:TypeId}{ds:List D}(ht:P.underlying t=some .bool)(h:Shp P m t ds):∃ z,ds=[.bool z]:=by
 cases m with
 | zero=>cases h
 | succ m=>unfold Shp at h; rw [ht] at h; exact h
theorem shp_struct {t:TypeId}{fs:Array Field}{ds:List D}(ht:P.underlying t=some (.struct fs))(h:Shp P m t ds):∃ n parts,ds=parts.flatten∧AllBy (fun (f:Field) l=>Shp P n f.type l) fs.toList parts:=by
 cases m with
 | zero=>cases h
 | succ m=>unfold Shp at h; rw [ht] at h; obtain ⟨parts,h1,h2⟩:=h; exact ⟨m,parts,h1,h2⟩
theorem shp_array {t e:TypeId}{k:Nat}{ds:List D}(ht:P.underlying t=some (.array k e))(h:Shp P m t ds):∃ n,∃ parts:List (List D),ds=parts.flatten∧parts.length=k∧∀ l∈parts,Shp P n e l:=by
 cases m with
 | zero=>cases h
 | succ m=>unfold Shp at h; rw [ht] at h; obtain ⟨parts,h1,h2⟩:=h; exact ⟨m,parts,h1,h2⟩
theorem shp_slice {t e:TypeId}{ds:List D}(ht:P.underlying t=some (.slice e))(h:Shp P m t ds):∃ n,∃ ls:List (List D),ds=[.fz false (P.cellsOf e) (ls.map (packD (isAggTy P e)))]∧∀ l∈ls,Shp P n e l:=by
 cases m with
 | zero=>cases h
 | succ m=>unfold Shp at h; rw [ht] at h; obtain ⟨ls,h1,h2⟩:=h; exact ⟨m,ls,h1,h2⟩
theorem list_of {α:Type}{R:List D→Prop}(f:α→List D)(h:∀ l,R l→∃ x,l=f x):∀ ls:List (List D),(∀ l∈ls,R l)→∃ xs:List α,ls=xs.map f
 | [],_=>⟨[],rfl⟩
 | l :: r,hr=>by
   obtain ⟨x,rfl⟩:=h l (hr l (by simp))
   obtain ⟨xs,rfl⟩:=list_of f h r (fun l hl=>hr l (by simp [hl]))
   exact ⟨x :: xs,rfl⟩
end
theorem shp_p3 {m:Nat}{ds:List D}(h:Shp Tryz.prog m 23 ds):∃ x y z,ds=[int x,int y,int z]:=by
 obtain ⟨n,parts,rfl,k⟩:=shp_struct Tryz.underlying23 h
 obtain ⟨a,_,rfl,ha,k⟩:=all2_cons k
 obtain ⟨b,_,rfl,hb,k⟩:=all2_cons k
 obtain ⟨c,_,rfl,hc,k⟩:=all2_cons k
 have:=all2_nil k; subst this
 obtain ⟨x,rfl⟩:=shp_int Tryz.underlying3 ha
 obtain ⟨y,rfl⟩:=shp_int Tryz.underlying3 hb
 obtain ⟨z,rfl⟩:=shp_int Tryz.underlying3 hc
 exact ⟨x,y,z,rfl⟩
abbrev Box.cells (b:Box):List D:=[int b.x0,int b.y0,int b.z0,int b.x1,int b.y1,int b.z1]
theorem shp_box {m:Nat}{ds:List D}(h:Shp Tryz.prog m 25 ds):∃ b:Box,ds=b.cells:=by
 obtain ⟨n,parts,rfl,k⟩:=shp_struct Tryz.underlying25 h
 obtain ⟨a,_,rfl,ha,k⟩:=all2_cons k
 obtain ⟨b,_,rfl,hb,k⟩:=all2_cons k
 have:=all2_nil k; subst this
 obtain ⟨x,y,z,rfl⟩:=shp_p3 ha
 obtain ⟨x',y',z',rfl⟩:=shp_p3 hb
 exact ⟨⟨x,y,z,x',y',z'⟩,rfl⟩
theorem shp_bed {m:Nat}{ds:List D}(h:Shp Tryz.prog m 127 ds):∃ b:Bed,ds=[.str b.name,int b.z]:=by
 obtain ⟨n,parts,rfl,k⟩:=shp_struct Tryz.underlying127 h
 obtain ⟨a,_,rfl,ha,k⟩:=all2_cons k
 obtain ⟨b,_,rfl,hb,k⟩:=all2_cons k
 have:=all2_nil k; subst this
 obtain ⟨x,rfl⟩:=shp_str Tryz.underlying9 ha
 obtain ⟨y,rfl⟩:=shp_int Tryz.underlying3 hb
 exact ⟨⟨x,y⟩,rfl⟩
theorem shp_joint {m:Nat}{ds:List D}(h:Shp Tryz.prog m 129 ds):∃ j:Joint,ds=[.str j.name,int j.axis,int j.at_,int j.lo,int j.hi]:=by
 obtain ⟨n,parts,rfl,k⟩:=shp_struct Tryz.underlying129 h
 obtain ⟨a,_,rfl,ha,k⟩:=all2_cons k
 obtain ⟨b,_,rfl,hb,k⟩:=all2_cons k
 obtain ⟨c,_,rfl,hc,k⟩:=all2_cons k
 obtain ⟨d,_,rfl,hd,k⟩:=all2_cons k
 obtain ⟨e,_,rfl,he,k⟩:=all2_cons k
 have:=all2_nil k; subst this
 obtain ⟨x,rfl⟩:=shp_str Tryz.underlying9 ha
 obtain ⟨y,rfl⟩:=shp_int Tryz.underlying3 hb
 obtain ⟨y2,rfl⟩:=shp_int Tryz.underlying3 hc
 obtain ⟨y3,rfl⟩:=shp_int Tryz.underlying3 hd
 obtain ⟨y4,rfl⟩:=shp_int Tryz.underlying3 he
 exact ⟨⟨x,y,y2,y3,y4⟩,rfl⟩
theorem shp_pt {m:Nat}{ds:List D}(h:Shp Tryz.prog m 178 ds):∃ p:Pt,ds=[int p.x,int p.y]:=by
 obtain ⟨n,parts,rfl,k⟩:=shp_struct Tryz.underlying178 h
 obtain ⟨a,_,rfl,ha,k⟩:=all2_cons k
 obtain ⟨b,_,rfl,hb,k⟩:=all2_cons k
 have:=all2_nil k; subst this
 obtain ⟨x,rfl⟩:=shp_int Tryz.underlying3 ha
 obtain ⟨y,rfl⟩:=shp_int Tryz.underlying3 hb
 exact ⟨⟨x,y⟩,rfl⟩
theorem agg178:isAggTy Tryz.prog 178=true:=by unfold isAggTy; rw [Tryz.underlying178]
theorem agg127:isAggTy Tryz.prog 127=true:=by unfold isAggTy; rw [Tryz.underlying127]
theorem agg129:isAggTy Tryz.prog 129=true:=by unfold isAggTy; rw [Tryz.underlying129]
theorem agg165:isAggTy Tryz.prog 165=true:=by unfold isAggTy; rw [Tryz.underlying165]
theorem co178:Tryz.prog.cellsOf 178=2:=by kernel_rfl
theorem co127:Tryz.prog.cellsOf 127=2:=by kernel_rfl
theorem co129:Tryz.prog.cellsOf 129=5:=by kernel_rfl
theorem co165:Tryz.prog.cellsOf 165=4:=by kernel_rfl
theorem shp_poly {m:Nat}{ds:List D}(h:Shp Tryz.prog m 161 ds):∃ p:List Pt,ds=[poly p]:=by
 obtain ⟨n,ls,rfl,h1⟩:=shp_slice Tryz.underlying161 h
 obtain ⟨xs,rfl⟩:=list_of (fun p:Pt=>[int p.x,int p.y]) (fun l hl=>shp_pt hl) ls h1
 rw [agg178,co178,List.map_map]
 exact ⟨xs,rfl⟩
theorem shp_prism {m:Nat}{ds:List D}(h:Shp Tryz.prog m 163 ds):∃ p y z,ds=[poly p,int y,int z]:=by
 obtain ⟨n,parts,rfl,k⟩:=shp_struct Tryz.underlying163 h
 obtain ⟨a,_,rfl,ha,k⟩:=all2_cons k
 obtain ⟨b,_,rfl,hb,k⟩:=all2_cons k
 obtain ⟨c,_,rfl,hc,k⟩:=all2_cons k
 have:=all2_nil k; subst this
 obtain ⟨p,rfl⟩:=shp_poly ha
 obtain ⟨y,rfl⟩:=shp_int Tryz.underlying3 hb
 obtain ⟨z,rfl⟩:=shp_int Tryz.underlying3 hc
 exact ⟨p,y,z,rfl⟩
theorem shp_flaw {m:Nat}{ds:List D}(h:Shp Tryz.prog m 165 ds):∃ f:Flaw,ds=[.str f.name,poly f.base,int f.lo,int f.hi]:=by
 obtain ⟨n,parts,rfl,k⟩:=shp_struct Tryz.underlying165 h
 obtain ⟨a,_,rfl,ha,k⟩:=all2_cons k
 obtain ⟨b,_,rfl,hb,k⟩:=all2_cons k
 have:=all2_nil k; subst this
 obtain ⟨x,rfl⟩:=shp_str Tryz.underlying9 ha
 obtain ⟨p,y,z,rfl⟩:=shp_prism hb
 exact ⟨⟨x,p,y,z⟩,rfl⟩
theorem shp_survey {m:Nat}{ds:List D}(h:Shp Tryz.prog m 31 ds):∃ s:Survey,ds=s.cells:=by
 obtain ⟨n,parts,rfl,k⟩:=shp_struct Tryz.underlying31 h
 obtain ⟨a,_,rfl,ha,k⟩:=all2_cons k
 obtain ⟨b,_,rfl,hb,k⟩:=all2_cons k
 obtain ⟨c,_,rfl,hc,k⟩:=all2_cons k
 obtain ⟨d,_,rfl,hd,k⟩:=all2_cons k
 obtain ⟨e,_,rfl,he,k⟩:=all2_cons k
 have:=all2_nil k; subst this
 obtain ⟨bo,rfl⟩:=shp_box ha
 obtain ⟨_,ps,rfl,hl,hp⟩:=shp_array Tryz.underlying26 hb
 obtain ⟨bs,rfl⟩:=list_of (fun p:Bool=>[D.bool p]) (fun l hl=>shp_bool Tryz.underlying4 hl) ps hp
 obtain ⟨_,ls,rfl,h1⟩:=shp_slice Tryz.underlying27 hc
 obtain ⟨xs,rfl⟩:=list_of (fun b:Bed=>[.str b.name,int b.z]) (fun l hl=>shp_bed hl) ls h1
 obtain ⟨_,ls,rfl,h1⟩:=shp_slice Tryz.underlying28 hd
 obtain ⟨ys,rfl⟩:=list_of (fun j:Joint=>[.str j.name,int j.axis,int j.at_,int j.lo,int j.hi]) (fun l hl=>shp_joint hl) ls h1
 obtain ⟨_,ls,rfl,h1⟩:=shp_slice Tryz.underlying29 he
 obtain ⟨zs,rfl⟩:=list_of (fun f:Flaw=>[.str f.name,poly f.base,int f.lo,int f.hi]) (fun l hl=>shp_flaw hl) ls h1
 rw [agg127,co127,agg129,co129,agg165,co165,List.map_map,List.map_map,List.map_map]
 match bs,hl with
 | [o0,o1,o2,o3],_=>exact ⟨⟨bo,o0,o1,o2,o3,xs,ys,zs⟩,rfl⟩
end Tz
namespace Tz.C18
open Gs Go Go.Proofs
theorem shp_safety {m:Nat}{ds:List D}(h:Shp Tryz.prog m 35 ds):∃ s:Safety,ds=[int s.batter,int s.width]:=by
 obtain ⟨n,parts,rfl,k⟩:=shp_struct Tryz.underlying35 h
 obtain ⟨a,_,rfl,ha,k⟩:=all2_cons k
 obtain ⟨b,_,rfl,hb,k⟩:=all2_cons k
 have:=all2_nil k; subst this
 obtain ⟨x,rfl⟩:=shp_int Tryz.underlying3 ha
 obtain ⟨y,rfl⟩:=shp_int Tryz.underlying3 hb
 exact ⟨⟨x,y⟩,rfl⟩
theorem shp_string {m:Nat}{ds:List D}(h:Shp Tryz.prog m 9 ds):∃ s:ByteArray,ds=[.str s]:=shp_str Tryz.underlying9 h
theorem shp_block {m:Nat}{ds:List D}(h:Shp Tryz.prog m 84 ds):∃ b:Block,ds=[.str b.name,int b.box.x0,int b.box.y0,int b.box.z0,int b.box.x1,int b.box.y1,int b.box.z1]:=by
 obtain ⟨n,parts,rfl,k⟩:=shp_struct Tryz.underlying84 h
 obtain ⟨a,_,rfl,ha,k⟩:=all2_cons k
 obtain ⟨b,_,rfl,hb,k⟩:=all2_cons k
 have:=all2_nil k; subst this
 obtain ⟨x,rfl⟩:=shp_str Tryz.underlying9 ha
 obtain ⟨y,rfl⟩:=shp_box hb
 exact ⟨⟨x,y⟩,rfl⟩
theorem shp_bench {m:Nat}{ds:List D}(h:Shp Tryz.prog m 93 ds):∃ b:Bench,ds=[.str b.name,int b.lo,int b.hi]:=by
 obtain ⟨n,parts,rfl,k⟩:=shp_struct Tryz.underlying93 h
 obtain ⟨a,_,rfl,ha,k⟩:=all2_cons k
 obtain ⟨b,_,rfl,hb,k⟩:=all2_cons k
 obtain ⟨c,_,rfl,hc,k⟩:=all2_cons k
 have:=all2_nil k; subst this
 obtain ⟨x,rfl⟩:=shp_str Tryz.underlying9 ha
 obtain ⟨y,rfl⟩:=shp_int Tryz.underlying3 hb
 obtain ⟨z,rfl⟩:=shp_int Tryz.underlying3 hc
 exact ⟨⟨x,y,z⟩,rfl⟩
theorem agg84:isAggTy Tryz.prog 84=true:=by unfold isAggTy; rw [Tryz.underlying84]
theorem agg93:isAggTy Tryz.prog 93=true:=by unfold isAggTy; rw [Tryz.underlying93]
theorem agg305:isAggTy Tryz.prog 305=true:=by unfold isAggTy; rw [Tryz.underlying305]
theorem agg9:isAggTy Tryz.prog 9=false:=by unfold isAggTy; rw [Tryz.underlying9]
theorem agg3:isAggTy Tryz.prog 3=false:=by unfold isAggTy; rw [Tryz.underlying3]
theorem agg2:isAggTy Tryz.prog 2=false:=by unfold isAggTy; rw [Tryz.underlying2]
theorem co84:Tryz.prog.cellsOf 84=7:=by kernel_rfl
theorem co93:Tryz.prog.cellsOf 93=3:=by kernel_rfl
theorem co305:Tryz.prog.cellsOf 305=5:=by kernel_rfl
theorem co9:Tryz.prog.cellsOf 9=1:=by kernel_rfl
theorem co3:Tryz.prog.cellsOf 3=1:=by kernel_rfl
theorem co2:Tryz.prog.cellsOf 2=1:=by kernel_rfl
theorem shp_blocks {m:Nat}{ds:List D}(h:Shp Tryz.prog m 33 ds):∃ bs:List Block,ds=[blks bs]:=by
 obtain ⟨n,ls,rfl,h1⟩:=shp_slice Tryz.underlying33 h
 obtain ⟨xs,rfl⟩:=list_of (fun b:Block=>[.str b.name,int b.box.x0,int b.box.y0,int b.box.z0,int b.box.x1,int b.box.y1,int b.box.z1]) (fun l hl=>shp_block hl) ls h1
 rw [agg84,co84,List.map_map]
 exact ⟨xs,rfl⟩
theorem shp_benches {m:Nat}{ds:List D}(h:Shp Tryz.prog m 32 ds):∃ bs:List Bench,ds=[benchs bs]:=by
 obtain ⟨n,ls,rfl,h1⟩:=shp_slice Tryz.underlying32 h
 obtain ⟨xs,rfl⟩:=list_of (fun b:Bench=>[.str b.name,int b.lo,int b.hi]) (fun l hl=>shp_bench hl) ls h1
 rw [agg93,co93,List.map_map]
 exact ⟨xs,rfl⟩
theorem shp_strs {m:Nat}{ds:List D}(h:Shp Tryz.prog m 48 ds):∃ l:List ByteArray,ds=[.fz false 1 (l.map .str)]:=by
 obtain ⟨n,ls,rfl,h1⟩:=shp_slice Tryz.underlying48 h
 obtain ⟨xs,rfl⟩:=list_of (fun b:ByteArray=>[D.str b]) (fun l hl=>shp_str Tryz.underlying9 hl) ls h1
 rw [agg9,co9,List.map_map]
 exact ⟨xs,rfl⟩
theorem shp_ints {m:Nat}{ds:List D}(h:Shp Tryz.prog m 74 ds):∃ l:List Int,ds=[.fz false 1 (l.map int)]:=by
 obtain ⟨n,ls,rfl,h1⟩:=shp_slice Tryz.underlying74 h
 obtain ⟨xs,rfl⟩:=list_of (fun b:Int=>[int b]) (fun l hl=>shp_int Tryz.underlying3 hl) ls h1
 rw [agg3,co3,List.map_map]
 exact ⟨xs,rfl⟩
theorem shp_ints64 {m:Nat}{ds:List D}(h:Shp Tryz.prog m 303 ds):∃ l:List Int,ds=[.fz false 1 (l.map int)]:=by
 obtain ⟨n,ls,rfl,h1⟩:=shp_slice Tryz.underlying303 h
 obtain ⟨xs,rfl⟩:=list_of (fun b:Int=>[int b]) (fun l hl=>shp_int Tryz.underlying2 hl) ls h1
 rw [agg2,co2,List.map_map]
 exact ⟨xs,rfl⟩
theorem shp_stand {m:Nat}{ds:List D}(h:Shp Tryz.prog m 305 ds):∃ s:Stand,ds=[.str s.name,int s.x,int s.y,.fz false 1 (s.radii.map int),.fz false 1 (s.limits.map int)]:=by
 obtain ⟨n,parts,rfl,k⟩:=shp_struct Tryz.underlying305 h
 obtain ⟨a,_,rfl,ha,k⟩:=all2_cons k
 obtain ⟨b,_,rfl,hb,k⟩:=all2_cons k
 obtain ⟨c,_,rfl,hc,k⟩:=all2_cons k
 obtain ⟨d,_,rfl,hd,k⟩:=all2_cons k
 have:=all2_nil k; subst this
 obtain ⟨x,rfl⟩:=shp_str Tryz.underlying9 ha
 obtain ⟨p,rfl⟩:=shp_pt hb
 obtain ⟨r,rfl⟩:=shp_ints hc
 obtain ⟨l,rfl⟩:=shp_ints64 hd
 exact ⟨⟨x,p.x,p.y,r,l⟩,rfl⟩
theorem shp_stands {m:Nat}{ds:List D}(h:Shp Tryz.prog m 36 ds):∃ bs:List Stand,ds=[.fz false 5 (bs.map Stand.enc)]:=by
 obtain ⟨n,ls,rfl,h1⟩:=shp_slice Tryz.underlying36 h
 obtain ⟨xs,rfl⟩:=list_of (fun s:Stand=>[.str s.name,int s.x,int s.y,.fz false 1 (s.radii.map int),.fz false 1 (s.limits.map int)]) (fun l hl=>shp_stand hl) ls h1
 rw [agg305,co305,List.map_map]
 exact ⟨xs,rfl⟩
theorem shp_site {m:Nat}{ds:List D}(h:Shp Tryz.prog m 38 ds):∃ s:Site,ds=s.cells:=by
 obtain ⟨n,parts,rfl,k⟩:=shp_struct Tryz.underlying38 h
 obtain ⟨a,_,rfl,ha,k⟩:=all2_cons k
 obtain ⟨b,_,rfl,hb,k⟩:=all2_cons k
 obtain ⟨c,_,rfl,hc,k⟩:=all2_cons k
 obtain ⟨d,_,rfl,hd,k⟩:=all2_cons k
 obtain ⟨e,_,rfl,he,k⟩:=all2_cons k
 obtain ⟨f,_,rfl,hf,k⟩:=all2_cons k
 have:=all2_nil k; subst this
 obtain ⟨sv,rfl⟩:=shp_survey ha
 obtain ⟨be,rfl⟩:=shp_benches hb
 obtain ⟨bl,rfl⟩:=shp_blocks hc
 obtain ⟨sa,rfl⟩:=shp_safety hd
 obtain ⟨st,rfl⟩:=shp_stands he
 obtain ⟨de,rfl⟩:=shp_int Tryz.underlying3 hf
 exact ⟨⟨sv,be,bl,sa,st,de⟩,rfl⟩
end Tz.C18
namespace Gs
open Go Go.Proofs
noncomputable def qOf (w:World):Pm:=fun B o=>match w.cell? ⟨B,o,none⟩ with
  | some v=>if v.oneCell'=true then some v else none
  | none=>none
theorem qOf_spec (w:World)(B o:Nat)(v:Value)(h:w.cell? ⟨B,o,none⟩=some v)(h1:v.oneCell'=true):qOf w B o=some v:=by
 simp [qOf,h,h1]
theorem qOf_cell {w:World}{B o:Nat}{v:Value}(h:qOf w B o=some v):w.cell? ⟨B,o,none⟩=some v∧v.oneCell'=true:=by
 unfold qOf at h
 cases hc:w.cell? ⟨B,o,none⟩ with
 | none=>rw [hc] at h; cases h
 | some u=>
   rw [hc] at h
   simp only at h
   by_cases h1:u.oneCell'=true
   · rw [if_pos h1] at h; injection h with h; subst h; exact ⟨rfl,h1⟩
   · rw [if_neg h1] at h; cases h
theorem core_of (w:World):Core (fun _=>none) (qOf w) [] w:=
 ⟨fun B o v h=>.inl (qOf_cell h),fun b x h=>(by cases h),fun b i h=>(by cases h),fun b b' i i' B o n o' n' h=>(by cases h)⟩
theorem below_of {w w':World}{q:Pm}{K':Km}{Q':Pm}{H':Heap}(h:Sim ⟨w,q⟩ (fun _=>none) K' Q' H' w'):RowKit.Below w.heap.size w w':=
 ⟨h.kept.os,h.kept.tape,h.kept.output,h.kept.size,fun k hk=>h.kept.block k hk (by rintro ⟨b,i,o,n,hh,_⟩; cases hh)⟩
theorem calls_of [GlobTab] {P:Program}{T:Tab}(h:TabOk P T){g:Nat}{args:List D}{r:D}(hc:(lim T).call g args []=some (r,[])){w:World}(hg:GlobOk (qOf w)){vs:List Value}(ha:RelL (fun _=>none) (qOf w) args vs) :
   Calls P g vs.toArray w fun e w'=>∃ v,e = .returned v∧RowKit.Below w.heap.size w w'∧∃ K' Q',Rel K' Q' r v:=
 ((gives h hc).2 _ _ w vs (by intro b hb; cases hb) hg (core_of w) ha).mono fun e w' ⟨v,he,K',Q',hs,_,hr⟩=>⟨v,he,below_of hs,K',Q',hr⟩
theorem relL_one {K:Km}{Q:Pm}{d:D}{v:Value}(h:RelL K Q [d] [v]):Rel K Q d v:=by cases h with | cons h _=>exact h
theorem find_mem {α:Type} : ∀ {l:List (Nat×α)} {i:Nat} {x:α},Tz.find l i=some x→(i,x)∈l
 | [],_,_,h=>by cases h
 | (k,y) :: r,i,x,h=>by
   unfold Tz.find at h
   cases hk:k == i with
   | true=>rw [hk] at h; injection h with h; subst h; have:=eq_of_beq hk; subst this; exact List.mem_cons_self
   | false=>rw [hk] at h; exact List.mem_cons_of_mem _ (find_mem h)
end Gs
namespace Tz
open Gs Go Go.Proofs
theorem glob_any (Q:Pm):GlobOk Q:=by
 intro g cs hg
 cases hg
theorem tab_ok:TabOk Tryz.prog T where
 mixed:=mixed_ok
 ext:=by
   intro g s hs args H r H' h
   have hs':find exts g=some s:=hs
   have hm:=find_mem hs'
   simp only [exts,List.mem_cons,List.not_mem_nil,or_false,Prod.mk.injEq] at hm
   rcases hm with ⟨rfl,rfl⟩ | ⟨rfl,rfl⟩ | ⟨rfl,rfl⟩
   · exact gives_sortStr args H r H' h
   · exact gives_sortIv args H r H' h
   · exact gives_delStr args H r H' h
 fn:=by
   intro g f _ hf
   have hf':find fns g=some f:=hf
   have h:=List.all_eq_true.1 all_ok (g,f) (find_mem hf')
   unfold chk1 at h
   simp only at h
   split at h
   · rename_i fn hfn; exact ⟨fn,hfn,h⟩
   · cases h
end Tz
