/- span.Normalize; survey.Open; survey.Jointed; Boxes that are clear of each other; Boxes and their errors; support.find; support.LeansOn and Carries; Searches in blocks and benches; boxes; no conditions. -/
import Derived.Test.YtogfagkjndoefaaGreatS8toS13
import Derived.Sort.AssemblyPlain
import Derived.Test.YtogfagkjndoefaaGreatGsF
set_option linter.all false
set_option maxRecDepth 100000
open Gs Go
namespace Tz
end Tz
set_option maxRecDepth 100000
open Gs Go
namespace Tz
def outOf (b p:Box):Bool:=decide (b.x0 < p.x0) || decide (b.y0 < p.y0) || decide (b.z0 < p.z0) || decide (p.x1 < b.x1) || decide (p.y1 < b.y1) || decide (p.z1 < b.z1)
def boxedErr (s:Survey)(b:Box):Int:=bif !b.ok then 1 else bif outOf b s.pit then 12 else 0
theorem e_boxed (s:Survey)(b:Box):L.call 109 [s.enc,b.enc] []=some (int (boxedErr s b),[]):=
 call_eq rfl rfl (by
   unfold boxedErr
   cases h1:b.ok with
   | false=>simp only [↓eA,eB,seval,c109,e_proper,h1]
   | true=>
     cases h2:outOf b s.pit with
     | true=>have h2':=h2; simp only [outOf] at h2'; simp only [↓eA,eB,seval,c109,e_proper,h1,h2']
     | false=>have h2':=h2; simp only [outOf] at h2'; simp only [↓eA,eB,seval,c109,e_proper,h1,h2'])
theorem q0:IntKind.i64.wrap (Int.tdiv 0 2)=0:=by decide
theorem q1:IntKind.i64.wrap (Int.tdiv 1 2)=0:=by decide
theorem q2:IntKind.i64.wrap (Int.tdiv 2 2)=1:=by decide
theorem q3:IntKind.i64.wrap (Int.tdiv 3 2)=1:=by decide
theorem m1:Int.tmod 1 2=1:=by decide
theorem m2:Int.tmod 2 2=0:=by decide
theorem m3:Int.tmod 3 2=1:=by decide
theorem n0:inb 0 4=true:=by decide
theorem n1:inb 1 4=true:=by decide
theorem n2:inb 2 4=true:=by decide
theorem n3:inb 3 4=true:=by decide
end Tz
set_option maxRecDepth 100000
open Gs Go
namespace Tz
structure JB (s:Survey) (b:Box):Prop where
 z0 : -1000000≤b.z0
 z1 : -1000000≤b.z1∧b.z1≤1000000
 j:∀ j∈s.joints,-1000000≤j.hi
abbrev bx (b:Box):List D:=[int b.x0,int b.y0,int b.z0,int b.x1,int b.y1,int b.z1]
theorem boxed_ok {s:Survey}{b:Box}(h:boxedErr s b=0):b.ok=true∧outOf b s.pit=false:=by
 unfold boxedErr at h
 cases h1:b.ok with
 | false=>rw [h1] at h; cases h
 | true=>
   rw [h1] at h
   cases h2:outOf b s.pit with
   | false=>exact ⟨rfl,rfl⟩
   | true=>rw [h2] at h; cases h
structure SurveyOk (s:Survey):Prop where
 size:sizeBad s=false
 far:s.pit.six.any far6=false
 ok:s.pit.ok=true
 nm:s.names.any (fun n=>!pName n)=false
 jb:s.joints.any jbad=false
 fb:s.flaws.any fbad=false
 pe:∀ f∈s.flaws,polyErr f.base=0
 cv:s.flaws.any (fun f=>!convex f.base)=false
 out:outB s=false
 dis:disordered s=false
theorem polyErr_find {s:Survey}(h:s.flaws.find? (fun f=>!decide (polyErr f.base=0))=none):∀ f∈s.flaws,polyErr f.base=0:=by
 intro f hm; have:=List.find?_eq_none.1 h f hm; simpa using this
theorem survey_ok {s:Survey}(h:surveyErr s=0):SurveyOk s:=by
 unfold surveyErr at h
 cases h1:sizeBad s<;>rw [h1] at h<;>simp only [cond_true,cond_false] at h<;>try (cases h; done)
 cases h2:s.pit.six.any far6<;>rw [h2] at h<;>simp only [cond_true,cond_false] at h<;>try (cases h; done)
 cases h3:s.pit.ok<;>rw [h3] at h<;>simp only [Bool.not_true,Bool.not_false,cond_true,cond_false] at h<;>try (cases h; done)
 cases h4:s.names.any (fun n=>!pName n)<;>rw [h4] at h<;>simp only [cond_true,cond_false] at h<;>try (cases h; done)
 cases h5:(s.joints.any jbad || s.flaws.any fbad)<;>rw [h5] at h<;>simp only [cond_true,cond_false] at h<;>try (cases h; done)
 cases h6:s.flaws.find? (fun f=>!decide (polyErr f.base=0)) with
 | some f=>
   rw [h6] at h; simp only at h
   have:=List.find?_some h6
   rw [h] at this; simp at this
 | none=>
 rw [h6] at h; simp only at h
 cases h7:s.flaws.any (fun f=>!convex f.base)<;>rw [h7] at h<;>simp only [cond_true,cond_false] at h<;>try (cases h; done)
 cases h8:outB s<;>rw [h8] at h<;>simp only [cond_true,cond_false] at h<;>try (cases h; done)
 cases h9:disordered s<;>rw [h9] at h<;>simp only [cond_true,cond_false] at h<;>try (cases h; done)
 rw [Bool.or_eq_false_iff] at h5
 exact ⟨h1,h2,h3,h4,h5.1,h5.2,polyErr_find h6,h7,h8,h9⟩
theorem far6_no {n:Int}(h:far6 n=false) : -1000000≤n∧n≤1000000:=by
 simp only [far6,Bool.or_eq_false_iff,decide_eq_false_iff_not] at h; omega
theorem six_in {b:Box}(h:b.six.any far6=false):∀ n∈b.six,-1000000≤n∧n≤1000000:=fun n hn=>far6_no (by simpa using List.any_eq_false.1 h n hn)
end Tz
set_option maxRecDepth 100000
open Gs Go
namespace Tz.C18
structure Safety where
 batter:Int
 width:Int
abbrev Safety.enc (s:Safety):D:=.agg [int s.batter,int s.width]
def inr (n:Int):Bool:=decide (-1000000≤n) && decide (n≤1000000)
theorem e_rAt (x y z a:Int):L.call 22 [.agg [int x,int y,int z],int a] []=some (int (if a=0 then x else if a=1 then y else z),[]):=
 call_eq rfl rfl (by
   by_cases h0:a=0
   · simp only [↓eA,eB,seval,c22,h0]
   · by_cases h1:a=1
     · simp only [↓eA,eB,seval,c22,h0,h1]
     · simp only [↓eA,eB,seval,c22,h0,h1])
def bad3 (x y z:Int):Bool:=(!inr x || !inr y) || !inr z
def _root_.Tz.Box.near (b:Box):Bool:=!bad3 b.x0 b.y0 b.z0 && !bad3 b.x1 b.y1 b.z1
def bad4 (p q:Int):Bool:=((decide (p < -1000000) || decide (1000000 < p)) || decide (q < -1000000)) || decide (1000000 < q)
end Tz.C18
namespace Gs
open Go
variable [GlobTab]
theorem loop_findH {T:Tab}{key:Nat}{li:LI}(hl:T.lp key=some li){α:Type}(xs:List α)(bad:α→Bool)(St:Nat→Env→Heap→Prop)(R:α→X→Env→Heap→Prop)(E:X→Env→Heap→Prop)
   (step:∀ i x e H,xs[i]?=some x→i < xs.length→St i e H→Good (round (lim T) li e H) fun X e' H'=>match bad x with | false=>isNor X=true∧St (i + 1) e' H' | true=>isNor X=false∧R x X e' H')
   (fin:∀ e H,St xs.length e H→Good (round (lim T) li e H) fun X e' H'=>isNor X=false∧E X e' H') (e:Env) (H:Heap) (h0:St 0 e H) :
   Ends T key e H (fun X e' H'=>match xs.find? bad with | some x=>R x X e' H' | none=>E X e' H'):=by
 refine (loop_thru hl (S:=Unit) (R:=α) (fun s x=>bif bad x then .inl x else .inr s) xs (fun i _ e H'=>St i e H') (fun x X e' H'=>R x X e' H') (fun _ X e' H'=>E X e' H') ?_ ?_ ?_ xs [] () e H rfl h0).mono fun X e' H' h=>?_
 · rintro i x s s' e H' hi hs hf
   have hb:bad x=false:=by cases hb:bad x<;>simp_all
   have:=step i x e H' hi (List.getElem?_eq_some_iff.1 hi).1 hs
   simpa only [hb] using this
 · rintro i x s r e H' hi hs hf
   have hb:bad x=true:=by cases hb:bad x<;>simp_all
   have hr:r=x:=by simp [hb] at hf; exact hf.symm
   have:=step i x e H' hi (List.getElem?_eq_some_iff.1 hi).1 hs
   rw [hr]
   simpa only [hb] using this
 · rintro s e H' hs
   exact fin e H' hs
 · rw [thru_find] at h
   cases hx:xs.find? bad with
   | some x=>rw [hx] at h; exact h
   | none=>rw [hx] at h; exact h
end Gs
set_option maxRecDepth 100000
open Gs Go
namespace Tz.C18
structure Block where
 name:ByteArray
 box:Box
abbrev Block.enc (b:Block):D:=.agg [.str b.name,int b.box.x0,int b.box.y0,int b.box.z0,int b.box.x1,int b.box.y1,int b.box.z1]
theorem e_bin (n:Int):L.call 129 [int n] []=some (.bool (inr n),[]):=
 call_eq rfl rfl (by simp only [↓eA,eB,seval,c129]; rfl)
theorem e_bsides (b:Box):L.call 89 [b.enc] []=some (.agg [int b.x0,int b.x1,int b.y0,int b.y1,int b.z0,int b.z1],[]):=
 call_eq rfl rfl (by simp only [↓eA,eB,seval,c89])
theorem i30:inb 0 3=true:=rfl
theorem i31:inb 1 3=true:=rfl
theorem i32:inb 2 3=true:=rfl
theorem i20:inb 0 2=true:=rfl
theorem i21:inb 1 2=true:=rfl
def far2 (p q:Int):Bool:=!inr p || !inr q
def boxErr (b:Box):Int:=bif far2 b.x0 b.x1 || (far2 b.y0 b.y1 || far2 b.z0 b.z1) then 6 else bif decide (b.x1≤b.x0) || (decide (b.y1≤b.y0) || decide (b.z1≤b.z0)) then 1 else 0
theorem e_bCheck (b:Box):L.call 75 [b.enc] []=some (int (boxErr b),[]):=
 call_eq rfl rfl (by
   simp only [↓eA,eB,seval,c75,e_bsides]
   rw [loop_unfold_c (T:=T) (k:=75002) rfl]
   simp only [↓eA,eB,seval,l75002,e_bin,i30,i20,i21]
   unfold boxErr far2
   cases h0:(!inr b.x0 || !inr b.x1) with
   | true=>simp only [↓eA,eB,seval]
   | false=>
   simp only [↓eA,eB,seval]
   rw [loop_unfold_c (T:=T) (k:=75002) rfl]
   simp only [↓eA,eB,seval,l75002,e_bin,i31,i20,i21]
   cases h1:(!inr b.y0 || !inr b.y1) with
   | true=>simp only [↓eA,eB,seval]
   | false=>
   simp only [↓eA,eB,seval]
   rw [loop_unfold_c (T:=T) (k:=75002) rfl]
   simp only [↓eA,eB,seval,l75002,e_bin,i32,i20,i21]
   cases h2:(!inr b.z0 || !inr b.z1) with
   | true=>simp only [↓eA,eB,seval]
   | false=>
   simp only [↓eA,eB,seval]
   rw [loop_unfold_c (T:=T) (k:=75002) rfl]
   simp only [↓eA,eB,seval,l75002,e_bsides]
   rw [loop_unfold_c (T:=T) (k:=75008) rfl]
   simp only [↓eA,eB,seval,l75008,i30,i20,i21]
   cases h3:decide (b.x1≤b.x0) with
   | true=>simp only [↓eA,eB,seval]
   | false=>
   simp only [↓eA,eB,seval]
   rw [loop_unfold_c (T:=T) (k:=75008) rfl]
   simp only [↓eA,eB,seval,l75008,i31,i20,i21]
   cases h4:decide (b.y1≤b.y0) with
   | true=>simp only [↓eA,eB,seval]
   | false=>
   simp only [↓eA,eB,seval]
   rw [loop_unfold_c (T:=T) (k:=75008) rfl]
   simp only [↓eA,eB,seval,l75008,i32,i20,i21]
   cases h5:decide (b.z1≤b.z0) with
   | true=>simp only [↓eA,eB,seval]
   | false=>
   simp only [↓eA,eB,seval]
   rw [loop_unfold_c (T:=T) (k:=75008) rfl]
   simp only [↓eA,eB,seval,l75008])
theorem bad4_far (p q:Int):bad4 p q=far2 p q:=by
 unfold bad4 far2 inr
 rw [Bool.eq_iff_iff]; simp; omega
theorem e_rbCheck (b:Box):L.call 30 [b.enc] []=some (int (boxErr b),[]):=
 call_eq rfl rfl (by
   simp only [↓eA,eB,seval,c30]
   rw [loop_unfold_c (T:=T) (k:=30002) rfl]
   simp only [↓eA,eB,seval,l30002,e_rAt]
   unfold boxErr
   rw [←bad4_far,←bad4_far,←bad4_far]
   unfold bad4
   cases h0:(((decide (b.x0 < -1000000) || decide (1000000 < b.x0)) || decide (b.x1 < -1000000)) || decide (1000000 < b.x1)) with
   | true=>simp only [↓eA,eB,seval]
   | false=>
   simp only [↓eA,eB,seval]
   rw [loop_unfold_c (T:=T) (k:=30002) rfl]
   simp only [↓eA,eB,seval,l30002,e_rAt]
   cases h1:(((decide (b.y0 < -1000000) || decide (1000000 < b.y0)) || decide (b.y1 < -1000000)) || decide (1000000 < b.y1)) with
   | true=>simp only [↓eA,eB,seval]
   | false=>
   simp only [↓eA,eB,seval]
   rw [loop_unfold_c (T:=T) (k:=30002) rfl]
   simp only [↓eA,eB,seval,l30002,e_rAt]
   cases h2:(((decide (b.z0 < -1000000) || decide (1000000 < b.z0)) || decide (b.z1 < -1000000)) || decide (1000000 < b.z1)) with
   | true=>simp only [↓eA,eB,seval]
   | false=>
   simp only [↓eA,eB,seval]
   rw [loop_unfold_c (T:=T) (k:=30002) rfl]
   simp only [↓eA,eB,seval,l30002]
   rw [loop_unfold_c (T:=T) (k:=30008) rfl]
   simp only [↓eA,eB,seval,l30008,e_rAt]
   cases h3:decide (b.x1≤b.x0) with
   | true=>simp only [↓eA,eB,seval]
   | false=>
   simp only [↓eA,eB,seval]
   rw [loop_unfold_c (T:=T) (k:=30008) rfl]
   simp only [↓eA,eB,seval,l30008,e_rAt]
   cases h4:decide (b.y1≤b.y0) with
   | true=>simp only [↓eA,eB,seval]
   | false=>
   simp only [↓eA,eB,seval]
   rw [loop_unfold_c (T:=T) (k:=30008) rfl]
   simp only [↓eA,eB,seval,l30008,e_rAt]
   cases h5:decide (b.z1≤b.z0) with
   | true=>simp only [↓eA,eB,seval]
   | false=>
   simp only [↓eA,eB,seval]
   rw [loop_unfold_c (T:=T) (k:=30008) rfl]
   simp only [↓eA,eB,seval,l30008])
end Tz.C18
set_option maxRecDepth 100000
open Gs Go
namespace Tz.C18
def named (n:ByteArray)(b:Block):Bool:=seq n b.name
def dupF:List Block→List Block→Bool
 | _,[]=>false
 | s,b :: r=>s.any (named b.name) || dupF (s ++ [b]) r
theorem thru_dup:∀ (r s:List Block),thru (R:=Unit) (fun (s:List Block) b=>bif s.any (named b.name) then .inl () else .inr (s ++ [b])) r s=bif dupF s r then .inl () else .inr (s ++ r)
 | [],s=>by simp [thru,dupF]
 | b :: r,s=>by
   simp only [thru,dupF]
   cases h:s.any (named b.name) with
   | true=>rfl
   | false=>simp only [cond_false,Bool.false_or]; rw [thru_dup r (s ++ [b])]; simp
end Tz.C18
set_option maxRecDepth 100000
open Gs Go
namespace Tz.C18
abbrev Block.cells (b:Block):List D:=[.str b.name,int b.box.x0,int b.box.y0,int b.box.z0,int b.box.x1,int b.box.y1,int b.box.z1]
theorem e_sort (nz:Bool)(l:List ByteArray)(hb:l.length < 4611686018427387904):L.call 139 [.ow 500000] [(500000,.row nz 1 (l.map .str) 0 false)]=some (.tup [],[(500000,.row nz 1 ((sortB l).map .str) 0 false)]):=
 ext_eq (s:=sortStrX) rfl (by simp [sortStrX,hget,strs_map,hset,hb])
end Tz.C18
set_option maxRecDepth 100000
open Gs Go
namespace Tz.C18
structure Bench where
 name:ByteArray
 lo:Int
 hi:Int
abbrev Bench.enc (b:Bench):D:=.agg [.str b.name,int b.lo,int b.hi]
theorem e_bCommon (a b:Box):L.call 152 [a.enc,b.enc] []=some (.agg [int (max a.x0 b.x0),int (min a.x1 b.x1),int (max a.y0 b.y0),int (min a.y1 b.y1),int (max a.z0 b.z0),int (min a.z1 b.z1)],[]):=
 call_eq rfl rfl (by
   simp only [↓eA,eB,seval,c152,e_bsides a,e_bsides b]
   rw [loop_unfold_c (T:=T) (k:=152003) rfl]
   simp only [↓eA,eB,seval,l152003,i30,i20,i21]
   rw [loop_unfold_c (T:=T) (k:=152003) rfl]
   simp only [↓eA,eB,seval,l152003,i31,i20,i21]
   rw [loop_unfold_c (T:=T) (k:=152003) rfl]
   simp only [↓eA,eB,seval,l152003,i32,i20,i21]
   rw [loop_unfold_c (T:=T) (k:=152003) rfl]
   simp only [↓eA,eB,seval,l152003])
def apart (a b:Box):Bool:=decide (min a.x1 b.x1≤max a.x0 b.x0) || (decide (min a.y1 b.y1≤max a.y0 b.y0) || decide (min a.z1 b.z1≤max a.z0 b.z0))
theorem e_bOverlap (a b:Box):L.call 100 [a.enc,b.enc] []=some (.bool (!apart a b),[]):=
 call_eq rfl rfl (by
   simp only [↓eA,eB,seval,c100,e_bCommon a b]
   unfold apart
   rw [loop_unfold_c (T:=T) (k:=100002) rfl]
   simp only [↓eA,eB,seval,l100002,i30,i20,i21]
   cases h0:decide (min a.x1 b.x1≤max a.x0 b.x0) with
   | true=>simp only [↓eA,eB,seval]
   | false=>
   simp only [↓eA,eB,seval]
   rw [loop_unfold_c (T:=T) (k:=100002) rfl]
   simp only [↓eA,eB,seval,l100002,i31,i20,i21]
   cases h1:decide (min a.y1 b.y1≤max a.y0 b.y0) with
   | true=>simp only [↓eA,eB,seval]
   | false=>
   simp only [↓eA,eB,seval]
   rw [loop_unfold_c (T:=T) (k:=100002) rfl]
   simp only [↓eA,eB,seval,l100002,i32,i20,i21]
   cases h2:decide (min a.z1 b.z1≤max a.z0 b.z0) with
   | true=>simp only [↓eA,eB,seval]
   | false=>
   simp only [↓eA,eB,seval]
   rw [loop_unfold_c (T:=T) (k:=100002) rfl]
   simp only [↓eA,eB,seval,l100002])
def insideB (a b:Box):Bool:=!((decide (a.x0 < b.x0) || decide (b.x1 < a.x1)) || ((decide (a.y0 < b.y0) || decide (b.y1 < a.y1)) || (decide (a.z0 < b.z0) || decide (b.z1 < a.z1))))
theorem e_bInside (a b:Box):L.call 47 [a.enc,b.enc] []=some (.bool (insideB a b),[]):=
 call_eq rfl rfl (by
   simp only [↓eA,eB,seval,c47,e_bsides a,e_bsides b]
   unfold insideB
   rw [loop_unfold_c (T:=T) (k:=47003) rfl]
   simp only [↓eA,eB,seval,l47003,i30,i20,i21]
   cases h0:(decide (a.x0 < b.x0) || decide (b.x1 < a.x1)) with
   | true=>simp only [↓eA,eB,seval]
   | false=>
   simp only [↓eA,eB,seval]
   rw [loop_unfold_c (T:=T) (k:=47003) rfl]
   simp only [↓eA,eB,seval,l47003,i31,i20,i21]
   cases h1:(decide (a.y0 < b.y0) || decide (b.y1 < a.y1)) with
   | true=>simp only [↓eA,eB,seval]
   | false=>
   simp only [↓eA,eB,seval]
   rw [loop_unfold_c (T:=T) (k:=47003) rfl]
   simp only [↓eA,eB,seval,l47003,i32,i20,i21]
   cases h2:(decide (a.z0 < b.z0) || decide (b.z1 < a.z1)) with
   | true=>simp only [↓eA,eB,seval]
   | false=>
   simp only [↓eA,eB,seval]
   rw [loop_unfold_c (T:=T) (k:=47003) rfl]
   simp only [↓eA,eB,seval,l47003])
end Tz.C18
