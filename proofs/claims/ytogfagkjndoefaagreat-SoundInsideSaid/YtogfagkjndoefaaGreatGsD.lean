/- The checker of regions and the orders that their edges allow; no conditions. -/
import Derived.Test.YtogfagkjndoefaaGreatGsC
import Derived.Orders
set_option linter.all false
namespace Gs
open Go
variable [GlobTab]
theorem arr_eq {α:Type}{a:Array α}{l:List α}(h:a.toList=l):a=l.toArray:=by rw [←h]
def intT (P:Program)(t:TypeId)(k:IntKind):Bool:=match P.underlying t with | some (.int j)=>decide (j=k) | _=>false
def strT (P:Program)(t:TypeId):Bool:=match P.underlying t with | some .string=>true | _=>false
def boolT (P:Program)(t:TypeId):Bool:=match P.underlying t with | some .bool=>true | _=>false
def isSlice (P:Program)(t:TypeId):Bool:=match P.underlying t with | some (.slice _)=>true | _=>false
def isT (P:Program)(t:TypeId):Bool:=match P.underlying t with | some _=>true | _=>false
def elT (P:Program)(t:TypeId)(esz:Nat):Bool:=match P.underlying t with | some (.slice el)=>sizeT P el == some esz | _=>false
def arrT (P:Program)(t:TypeId)(m esz:Nat):Bool:=match P.underlying t with | some (.array k el)=>k == m && sizeT P el == some esz | _=>false
theorem intT_eq {P:Program}{t:TypeId}{k:IntKind}(h:intT P t k=true):P.underlying t=some (.int k):=by
 unfold intT at h; split at h<;>simp_all
theorem strT_eq {P:Program}{t:TypeId}(h:strT P t=true):P.underlying t=some .string:=by
 unfold strT at h; split at h<;>simp_all
theorem boolT_eq {P:Program}{t:TypeId}(h:boolT P t=true):P.underlying t=some .bool:=by
 unfold boolT at h; split at h<;>simp_all
theorem isSlice_eq {P:Program}{t:TypeId}(h:isSlice P t=true):∃ e,P.underlying t=some (.slice e):=by
 unfold isSlice at h; split at h<;>simp_all
theorem isT_eq {P:Program}{t:TypeId}(h:isT P t=true):∃ e,P.underlying t=some e:=by
 unfold isT at h; split at h<;>simp_all
theorem elT_eq {P:Program}{t:TypeId}{esz:Nat}(h:elT P t esz=true):∃ e,P.underlying t=some (.slice e)∧sizeT P e=some esz:=by
 unfold elT at h; split at h<;>simp_all
theorem arrT_eq {P:Program}{t:TypeId}{m esz:Nat}(h:arrT P t m esz=true):∃ e,P.underlying t=some (.array m e)∧sizeT P e=some esz:=by
 unfold arrT at h; split at h<;>simp_all
def isMap (P:Program)(t:TypeId):Bool:=match P.underlying t with | some (.map _ _)=>true | _=>false
theorem isMap_eq {P:Program}{t:TypeId}(h:isMap P t=true):∃ k e,P.underlying t=some (.map k e):=by
 unfold isMap at h; split at h<;>simp_all
def okOp (P : Program) (n : Nat) (op : Op) : RO → Bool
 | .mov x=>(match op with
   | .move y=>okX n y x
   | .assign y=>okX n y x
   | .call ⟨.builtin .len,args,ats⟩=>(match args.toList,ats.toList,x with
     | [_],[t],.c (.int .i64 m)=>(match P.underlying t with
       | some (.array k _)=>decide ((k:Int)=m)
       | _=>false)
     | _,_,_=>false)
   | _=>false)
 | .pick c x y=>(match op with
   | .pick c' x' y'=>okX n c' c && okX n x' x && okX n y' y
   | _=>false)
 | .box _ x=>(match op with
   | .box _ y=>okX n y x
   | .alloc t=>(match zeroT P t,x with
     | some z,.c d=>okC d z
     | _,_=>false)
   | _=>false)
 | .ld sz ag x=>(match op with
   | .load t y=>sizeT P t == some sz && aggT P t == some ag && okX n y x
   | _=>false)
 | .st sz x v=>(match op with
   | .store t y u=>sizeT P t == some sz && okX n y x && okX n u v
   | _=>false)
 | .bin b x y=>(match op with
   | .binOp b' _ x' y' _=>decide (b'=b) && okX n x' x && okX n y' y
   | _=>false)
 | .eqA neg ks x y=>(match op with
   | .binOp b t x' y' _=>decide (b=if neg then .neq else .eql) && kindsT P t == some ks && okX n x' x && okX n y' y
   | _=>false)
 | .eqB neg x y=>(match op with
   | .binOp b t x' y' _=>decide (b=if neg then .neq else .eql) && boolT P t && okX n x' x && okX n y' y
   | _=>false)
 | .eqN neg k x=>(match op with
   | .binOp b t x' (.const z) _=>decide (b=if neg then .neq else .eql) && nilT P t k z && okX n x' x
   | _=>false)
 | .not x=>(match op with
   | .unOp .not _ y=>okX n y x
   | _=>false)
 | .neg x=>(match op with
   | .unOp .neg _ y=>okX n y x
   | _=>false)
 | .fld off x=>(match op with
   | .fieldAddr t y f=>okX n y x && (match fieldT P t f with
     | some (o,ft)=>o == off && (match sizeT P ft with | some (_ + 1)=>true | _=>false)
     | none=>false)
   | _=>false)
 | .iadS esz x i=>(match op with
   | .indexAddr t y j=>elT P t esz && okX n y x && okX n j i
   | _=>false)
 | .iadA m esz x i=>(match op with
   | .indexAddr t y j=>arrT P t m esz && okX n y x && okX n j i
   | _=>false)
 | .fldv off sz ag x=>(match op with
   | .field t y f=>okX n y x && (match fieldT P t f with
     | some (o,ft)=>o == off && sizeT P ft == some sz && aggT P ft == some ag
     | none=>false)
   | _=>false)
 | .idxA m esz ag x i=>(match op with
   | .index t y j=>okX n y x && okX n j i && (match P.underlying t with
     | some (.array k el)=>k == m && sizeT P el == some esz && aggT P el == some ag
     | _=>false)
   | _=>false)
 | .idxS x i=>(match op with
   | .index t y j=>strT P t && okX n y x && okX n j i
   | _=>false)
 | .build zs ps=>(match op with
   | .build t qs=>(match zeroT P t,placeT P t with
     | some z,some place=>okCs zs z.cells.toList && okParts n place qs.toList ps
     | _,_=>false)
   | _=>false)
 | .bsl esz ps=>(match op with
   | .buildSlice t m qs=>(match P.underlying t with
     | some (.slice el)=>sizeT P el == some esz && (match zeroT P el with
       | some z=>z.cells.size == esz && oneCs z.cells.toList && ps.length == m && decide (m * esz≤2 ^ 24) && okSeq n 0 qs.toList ps
       | none=>false)
     | _=>false)
   | _=>false)
 | .app _ esz bytes x y=>(match op with
   | .call ⟨.builtin .append,args,ats⟩=>(match args.toList,ats.toList with
     | [x',y'],[t,t']=>t == t' && okX n x' x && okX n y' y && (match P.underlying t with
       | some (.slice el)=>(match P.info? el with
         | some i=>i.size == esz && i.bytes == bytes && decide (0 < i.bytes) && (match i.zero with
           | some z=>z.cells.size == i.size && oneCs z.cells.toList
           | none=>false)
         | none=>false)
       | _=>false)
     | _,_=>false)
   | _=>false)
 | .len str x=>(match op with
   | .call ⟨.builtin .len,args,ats⟩=>(match args.toList,ats.toList with
     | [y],[t]=>okX n y x && (bif str then strT P t else isSlice P t)
     | _,_=>false)
   | _=>false)
 | .slc str esz x lo hi=>(match op with
   | .slice t y lo' hi' none=>okX n y x && okO n lo' lo && okO n hi' hi && (bif str then strT P t else elT P t esz)
   | _=>false)
 | .ext x i=>(match op with
   | .extract y j=>i == j && okX n y x
   | _=>false)
 | .mkfn g cs=>(match op with
   | .makeFunc (.func f) first caps=>f == g && first.isEmpty && okXs n caps.toList cs
   | _=>false)
 | .nilchk x=>(match op with
   | .nilCheck y=>okX n y x
   | _=>false)
 | .call f args bs _=>(match op with
   | .call ⟨.value f',args',_⟩=>okX n f' f && okXs n args'.toList args && decide (bs.length < 100000)
   | _=>false)
 | .callb f args bs=>(match op with
   | .call ⟨.value f',args',_⟩=>okX n f' f && okXs n args'.toList args && decide (bs.length < 100000)
   | _=>false)
 | .callc f args bs=>(match op with
   | .call ⟨.value f',args',_⟩=>okX n f' f && okXs n args'.toList args
   | _=>false)
 | .callq f args=>(match op with
   | .call ⟨.value f',args',_⟩=>okX n f' f && okXs n args'.toList args
   | _=>false)
 | .callf f args=>(match op with
   | .call ⟨.value f',args',_⟩=>okX n f' f && okXs n args'.toList args
   | _=>false)
 | .mx args=>(match op with
   | .call ⟨.builtin .max,args',_⟩=>okXs n args'.toList args
   | _=>false)
 | .mn args=>(match op with
   | .call ⟨.builtin .min,args',_⟩=>okXs n args'.toList args
   | _=>false)
 | .conv k x=>(match op with
   | .convert s t y=>okX n y x && isT P s && intT P t k
   | _=>false)
 | .convS x=>(match op with
   | .convert s t y=>okX n y x && strT P s && strT P t
   | _=>false)
 | .mks _ esz bytes z x=>(match op with
   | .makeSlice t l c=>okX n l x && okX n c x && (match P.underlying t with
     | some (.slice el)=>(match P.info? el with
       | some i=>i.size == esz && i.bytes == bytes && decide (0 < bytes) && (match i.zero with
         | some zv=>zv.cells.size == i.size && oneCs zv.cells.toList && okC z zv
         | none=>false)
       | none=>false)
     | _=>false)
   | _=>false)
 | .capz x=>(match op with
   | .call ⟨.builtin .cap,args,ats⟩=>(match args.toList,ats.toList with
     | [y],[t]=>okX n y x && isSlice P t
     | _,_=>false)
   | _=>false)
 | .apz _ esz bytes z x len=>(match op with
   | .call ⟨.builtin .append,args,ats⟩=>(match args.toList,ats.toList with
     | [x',y'],[t,t']=>okX n x' x && okX n y' len && (match P.underlying t' with
       | some (.int _)=>(match P.underlying t with
         | some (.slice el)=>(match P.info? el with
           | some i=>i.size == esz && i.bytes == bytes && decide (0 < bytes) && (match i.zero with
             | some zv=>zv.cells.size == i.size && oneCs zv.cells.toList && okC z zv
             | none=>false)
           | none=>false)
         | _=>false)
       | _=>false)
     | _,_=>false)
   | _=>false)
 | .bso _ esz ps=>(match op with
   | .buildSlice t m qs=>(match P.underlying t with
     | some (.slice el)=>sizeT P el == some esz && (match zeroT P el with
       | some z=>z.cells.size == esz && oneCs z.cells.toList && ps.length == m && decide (m * esz≤2 ^ 24) && okSeq n 0 qs.toList ps
       | none=>false)
     | _=>false)
   | _=>false)
 | .clr esz z x=>(match op with
   | .call ⟨.builtin .clear,args,ats⟩=>(match args.toList,ats.toList with
     | [y],[t]=>okX n y x && (match P.underlying t with
       | some (.slice el)=>(match zeroT P el with
         | some zv=>oneCs zv.cells.toList && okC z zv
         | none=>false)
       | _=>false)
     | _,_=>false)
   | _=>false)
 | .rng _ x=>(match op with
   | .range t y=>strT P t && okX n y x
   | _=>false)
 | .nxt x=>(match op with
   | .next y true=>okX n y x
   | _=>false)
 | .mkm _ r=>(match op with
   | .makeMap t r'=>isMap P t && okO n r' r
   | _=>false)
 | .lku kd z x k ok=>(match op with
   | .lookup t x' k' ok'=>ok' == ok && okX n x' x && okX n k' k && (match mapT P t kd with
     | some el=>(match zeroT P el with
       | some zv=>okC z zv
       | none=>false)
     | none=>false)
   | _=>false)
 | .mup kd x k v=>(match op with
   | .mapUpdate t x' k' v'=>(mapT P t kd).isSome && okX n x' x && okX n k' k && okX n v' v
   | .insert t x' k' v'=>(mapT P t kd).isSome && okX n x' x && okX n k' k && okX n v' v
   | _=>false)
 | .mdl kd x k=>(match op with
   | .call ⟨.builtin .delete,args,ats⟩=>(match args.toList,ats.toList with
     | [x',k'],[t,_]=>(mapT P t kd).isSome && okX n x' x && okX n k' k
     | _,_=>false)
   | _=>false)
section
variable {P:Program} {w0:World0} {w w':World} {K0 K K':Km} {Q Q':Pm} {H H':Heap} {n:Nat} {e e':Env} {a:Act} {o:Oper}
theorem killM_nil:killM []=some:=by funext b; simp [killM,mem]
theorem OpWp.quiet {d:D}(h:OpWp P w0 K0 K Q w n o a d (killE (turned H' []) e) (catH (killH (turned H' []) (without [] H)) [])):OpWp P w0 K0 K Q w n o a d e H:=fun next Qx hn=>h next Qx fun v K' Q' w' h1 h2 h3 h4=>by
 refine hn v K' Q' w' (h1.congr fun c=>?_) ⟨h2.1,fun t ht=>?_⟩ h3 h4
 · rw [hget_cat,turned,hget_killH,hget_without,if_neg (by simp),hget]
   cases hget H c with
   | none=>rfl
   | some x=>cases x<;>simp [killB,killL_eq,killM_nil,mapL_some]
 · have:=h2.2 t ht
   rw [get_killE,turned,killD_eq,killM_nil,mapD_some] at this
   exact this
def fzCall (O:Ora)(g:Nat)(args:List D)(H:Heap):Option (D×Heap):=match O.call g args H with
  | some (r,Ho)=>frz deep r Ho
  | none=>none
theorem fzCall_ok {O:Ora}(hO:∀ g as Hc r Ho,O.call g as Hc=some (r,Ho)→Gives P g as Hc r Ho)(g:Nat)(as:List D)(Hc:Heap)(r:D)(Ho:Heap)(h:fzCall O g as Hc=some (r,Ho)):Gives P g as Hc r Ho:=by
 unfold fzCall at h
 split at h<;>try (cases h; done)
 rename_i r1 H1 h1
 obtain ⟨g1,g2⟩:=hO g as Hc r1 H1 h1
 refine ⟨g1,fun K Q w vs hi hg hc ha=>(g2 K Q w vs hi hg hc ha).mono fun en w' ⟨v,hv,K',Q',hs,hq,hr⟩=>?_⟩
 obtain ⟨Q2,q1,q2,q3,_,_⟩:=(frz_ok (w0:=⟨w,Q⟩) (K0:=K) (K:=K') (w:=w') deep).1 hs hr h
 exact ⟨v,hv,K',Q2,q2,fun B o u h=>q1 B o u (hq B o u h),q3⟩
theorem plainL_rel {K1 K2:Km}{Q1 Q2:Pm} : ∀ {l:List D} {vs:List Value},plainL l=true→RelL K1 Q1 l vs→RelL K2 Q2 l vs
 | [],_,_,.nil=>.nil
 | d :: r,_,h,.cons hd ht=>by
   cases d<;>simp only [plainL] at h<;>try (cases h; done)
   all_goals exact .cons (by cases hd; first | exact .int _ _ | exact .bool _ | exact .str _) (plainL_rel h ht)
theorem plainR_rel {K1 K2:Km}{Q1 Q2:Pm}{d:D}{v:Value}(h:plainR d=true)(hr:Rel K1 Q1 d v):Rel K2 Q2 d v:=by
 cases d<;>simp only [plainR] at h<;>try (cases h; done)
 all_goals cases hr; first | exact .int _ _ | exact .bool _ | exact .str _ | (rename_i hl; exact .tup (plainL_rel h hl))
theorem bzCall_ok {O:Ora}(hO:∀ g as Hc r Ho,O.call g as Hc=some (r,Ho)→Gives P g as Hc r Ho)(g:Nat)(as:List D)(Hc:Heap)(r:D)(Ho:Heap)(h:bzCall O g as Hc=some (r,Ho)):Gives P g as Hc r Ho:=by
 unfold bzCall at h
 split at h<;>try (cases h; done)
 rename_i as' H1 h1
 split at h<;>try (cases h; done)
 rename_i r1 hcall
 split at h<;>try (cases h; done)
 rename_i hpl
 injection h with h; injection h with e1 e2; subst e1; subst e2
 obtain ⟨g1,g2⟩:=hO g as' [] r1 [] hcall
 refine ⟨g1,fun K Q w vs hi hg hc ha=>?_⟩
 have hs0:Sim ⟨w,Q⟩ K K Q Hc w:=⟨hc,⟨rfl,rfl,rfl,Nat.le_refl _,fun _ _ _=>rfl,fun _=>Nat.le_refl _⟩,fun b i B o n hk hl=>.inl ⟨b,i,o,n,hk,hl⟩,fun _ _ _ _ _ _=>rfl,fun _ _ _ _=>rfl,fun _ _ _ h=>h⟩
 obtain ⟨Q1,q1,q2,q3,q4,_⟩:=(frz_ok (w0:=⟨w,Q⟩) (K0:=K) (K:=K) (w:=w) deep).2 hs0 ha h1
 have hc1:Core (fun _=>none) Q1 [] w:=⟨q2.val,fun b x h=>(by cases h),fun b i h=>(by cases h),fun b b' i i' B o n o' n' h=>(by cases h)⟩
 refine (g2 (fun _=>none) Q1 w vs (by intro b hb; cases hb) (hg.mono q1) hc1 (q3.shut q4 (fun _ _ _ h=>h))).mono fun en w' ⟨v,hv,K',Q',hs,hq,hr⟩=>?_
 have hblk:∀ k,k < w.heap.size→w'.heap[k]?=w.heap[k]?:=fun k hk=>hs.kept.block k hk (by rintro ⟨b,i,o,n,hh,_⟩; cases hh)
 refine ⟨v,hv,K,Q,⟨⟨fun B o u hu=>(hc.val B o u hu).congr (hblk B (hc.qlt hu)),fun b x hx=>(hc.blk b x hx).heap (fun _ h=>h) (fun _ _ h _=>h) (fun B o n k hk=>hblk B (hc.lt hk rfl)) (fun _ _ _ h=>h) (fun _ _ _ _ _ _=>rfl),hc.dom,hc.inj⟩,⟨hs.kept.os,hs.kept.tape,hs.kept.output,hs.kept.size,fun k hk _=>hblk k hk,hs.kept.drawn⟩,fun b i B o n hk hl=>.inl ⟨b,i,o,n,hk,hl⟩,fun _ _ _ _ _ _=>rfl,fun _ _ _ _=>rfl,fun _ _ _ h=>h⟩,fun _ _ _ h=>h,?_⟩
 exact plainR_rel hpl hr
theorem look_ok {O:Ora}(hO:∀ g as Hc r Ho,O.call g as Hc=some (r,Ho)→Gives P g as Hc r Ho){g:Nat}{as:List D}{Hc Ho:Heap}{r:D}(h:bzCall O g as Hc=some (r,Ho)) :
    (∃ fn, P.funcs[g]? = some fn ∧ fn.body.isNone = false ∧ (fn.name == "runtime.NumGoroutine") = false) ∧ ∀ (K1 : Km) (w : World) (vs : List Value), GlobOk Q → Core K1 Q Hc w → RelL K1 Q as vs →
      Calls P g vs.toArray w fun en w'=>∃ v,en = .returned v∧Kept ⟨w,Q⟩ (fun _=>none) w'∧∀ K2 Q2,Rel K2 Q2 r v:=by
  unfold bzCall at h
  split at h<;>try (cases h; done)
  rename_i as' H1 h1
  split at h<;>try (cases h; done)
  rename_i r1 hcall
  split at h<;>try (cases h; done)
  rename_i hpl
  injection h with h; injection h with e1 e2; subst e1; subst e2
  obtain ⟨g1,g2⟩:=hO g as' [] r1 [] hcall
  refine ⟨g1,fun K1 w vs hg hc ha=>?_⟩
  have hs0:Sim ⟨w,Q⟩ K1 K1 Q Hc w:=⟨hc,⟨rfl,rfl,rfl,Nat.le_refl _,fun _ _ _=>rfl,fun _=>Nat.le_refl _⟩,fun b i B o n hk hl=>.inl ⟨b,i,o,n,hk,hl⟩,fun _ _ _ _ _ _=>rfl,fun _ _ _ _=>rfl,fun _ _ _ h=>h⟩
  obtain ⟨Q1,q1,q2,q3,q4,_⟩:=(frz_ok (w0:=⟨w,Q⟩) (K0:=K1) (K:=K1) (w:=w) deep).2 hs0 ha h1
  have hc1:Core (fun _=>none) Q1 [] w:=⟨q2.val,fun b x h=>(by cases h),fun b i h=>(by cases h),fun b b' i i' B o n o' n' h=>(by cases h)⟩
  refine (g2 (fun _=>none) Q1 w vs (by intro b hb; cases hb) (hg.mono q1) hc1 (q3.shut q4 (fun _ _ _ h=>h))).mono fun en w' ⟨v,hv,K',Q',hs,hq,hr⟩=>?_
  refine ⟨v,hv,⟨hs.kept.os,hs.kept.tape,hs.kept.output,hs.kept.size,fun k hk hn=>hs.kept.block k hk hn,hs.kept.drawn⟩,fun K2 Q2=>?_⟩
  exact plainR_rel hpl hr
theorem op_callc {O:Ora}{f:Operand}{args:Array Operand}{ats:Array TypeId}{f':Opd}{args':List Opd}{bs:List Nat}{g:Nat}{caps:List D}{r:D}{Ho:Heap}(ho:o.op = .call ⟨.value f,args,ats⟩)(h1:okX n f f'=true)(h2:okXs n args.toList args'=true)
   (hO:∀ g as Hc r Ho,O.call g as Hc=some (r,Ho)→Gives P g as Hc r Ho) (hf:rho e f' = .fn g caps) (hb:bs.Nodup) (h:bzCall O g (renL (names bs parId) (rhos e args' ++ caps)) (pickH (names bs parId) (fun _ _=>false) H (names bs parId))=some (r,Ho)) (hs:Sim w0 K0 K Q H w) (he:RelE K Q n e a.tmps):OpWp P w0 K0 K Q w n o a r e H:=by
 have rf:=okX_rel he h1
 have ra:=okXs_rel he h2
 rw [hf] at rf
 obtain ⟨cvs,hv,rc⟩:=rf.fn_inv
 obtain ⟨⟨fn,g1,g2,g3⟩,hg⟩:=look_ok (Q:=Q) hO h
 have hm1d:((names bs parId).map (·.1)).Nodup:=by rw [names_dom]; exact hb
 obtain ⟨c1,c2⟩:=hs.toCore.pick (names bs parId) (fun _ _=>false) hm1d (names_nodup _ _)
 have hc:=hg _ w _ he.1.2 c1 (by rw [renL_eq]; exact (ra.app rc).map c2)
 intro next Qx hn
 unfold Oper.wp
 have hrun:(execOp a.eval o).run P w = .ok (.enter g (args.toList.map a.eval ++ cvs).toArray) w:=by
   have harr:(#[]:Array Value) ++ args.map a.eval ++ cvs.toArray=(args.toList.map a.eval ++ cvs).toArray:=by
     apply Array.ext'; simp
   simp only [execOp,ho,resolve,hv,Deferred.ofValue,Sem.run_bind,Sem.run_pure,Result.andThen_ok,invoke,callFunc,Go.run_program,g1,g3,g2,Bool.false_eq_true,if_false]
   rw [harr]
 rw [hrun,Oper.upon_enter]
 refine hc.mono fun en w' hen=>?_
 obtain ⟨v,rfl,hk,hr⟩:=hen
 simp only
 have hblk:∀ k,k < w.heap.size→w'.heap[k]?=w.heap[k]?:=fun k hk'=>hk.block k hk' (by rintro ⟨b,i,o,n,hh,_⟩; cases hh)
 have hc:=hs.toCore
 refine hn v K Q w' ⟨⟨fun B o u hu=>(hc.val B o u hu).congr (hblk B (hc.qlt hu)),fun b x hx=>(hc.blk b x hx).heap (fun _ h=>h) (fun _ _ h _=>h) (fun B o n k hk=>hblk B (hc.lt hk rfl)) (fun _ _ _ h=>h) (fun _ _ _ _ _ _=>rfl),hc.dom,hc.inj⟩,⟨hk.os.trans hs.kept.os,hk.tape.trans hs.kept.tape,hk.output.trans hs.kept.output,Nat.le_trans hs.kept.size hk.size,fun k hk' hn'=>(hblk k (Nat.lt_of_lt_of_le hk' hs.kept.size)).trans (hs.kept.block k hk' hn'),fun hm=>Nat.le_trans (hs.kept.drawn hm) (hk.drawn hm)⟩,hs.low,hs.clean,hs.qk,hs.grow⟩ he (hr K Q) (fun _ _ _ h=>h)
theorem evOp_ok {O:Ora}(hO:∀ g as Hc r Ho,O.call g as Hc=some (r,Ho)→Gives P g as Hc r Ho){ro:RO}{d:D}(hok:okOp P n o.op ro=true)(h:evOp O e H ro=some (d,e',H'))(hs:Sim w0 K0 K Q H w)(he:RelE K Q n e a.tmps) :
   OpWp P w0 K0 K Q w n o a d e' H':=by
 cases ro with
 | mov x=>
   simp only [evOp] at h
   injection h with h; injection h with h1 h; injection h with h2 h3; subst h1; subst h2; subst h3
   simp only [okOp] at hok
   split at hok<;>try (cases hok; done)
   · rename_i y hop; exact (op_mov (.inl hop) hok hs he).wp
   · rename_i y hop; exact (op_mov (.inr hop) hok hs he).wp
   · rename_i args ats hop
     split at hok<;>try (cases hok; done)
     rename_i y t m ha hb
     split at hok<;>try (cases hok; done)
     rename_i k el ht
     rw [arr_eq ha,arr_eq hb] at hop
     refine (OpOk.val hs he (v:=goInt k) ?_ ?_).wp
     · rw [execOp_builtin hop]
       simp only [builtin,List.map_toArray,List.map_cons,List.map_nil,Builtin.len_]
       simp [Go.run_underlying ht]
     · have:(k:Int)=m:=by simpa using hok
       rw [←this]; exact .int _ _
 | pick c x y=>
   simp only [okOp] at hok
   split at hok<;>try (cases hok; done)
   rename_i c' x' y' hop
   simp only [Bool.and_eq_true] at hok
   simp only [evOp] at h
   split at h<;>try (cases h; done)
   rename_i p hc
   have hv:=(op_pick (P:=P) hop hok.1.1 hok.1.2 hok.2 hc hs he)
   split at h
   · rename_i u v hu hv'
     injection h with h; injection h with h1 h; injection h with h2 h3; subst h1; subst h2; subst h3
     rw [hu,hv'] at hv
     cases p<;>exact hv.wp
   · cases p
     · injection h with h; injection h with h1 h; injection h with h2 h3; subst h1; subst h2; subst h3; exact hv.wp
     · injection h with h; injection h with h1 h; injection h with h2 h3; subst h1; subst h2; subst h3; exact hv.wp
 | box id x=>
   simp only [evOp] at h
   split at h<;>try (cases h; done)
   rename_i hc
   simp only [Bool.and_eq_true] at hc
   injection h with h; injection h with h1 h; injection h with h2 h3; subst h1; subst h2; subst h3
   simp only [okOp] at hok
   split at hok<;>try (cases hok; done)
   · rename_i t y hop
     exact (op_box hop hok hc.1.1 hc.1.2 hc.2 hs he).wp
   · rename_i t hop
     split at hok<;>try (cases hok; done)
     rename_i z d hz
     exact (op_alloc hop hz hok hc.1.1 hc.1.2 hc.2 hs he).wp
 | ld sz ag x=>
   simp only [okOp] at hok
   split at hok<;>try (cases hok; done)
   rename_i t y hop
   simp only [Bool.and_eq_true,beq_iff_eq] at hok
   simp only [evOp] at h
   split at h<;>try (cases h; done)
   rename_i r hr
   injection h with h; injection h with h1 h; injection h with h2 h3; subst h1; subst h2; subst h3
   exact (op_ld hop hok.1.1 hok.1.2 hok.2 hr hs he).wp
 | st sz x v=>
   simp only [okOp] at hok
   split at hok<;>try (cases hok; done)
   rename_i t y u hop
   simp only [Bool.and_eq_true,beq_iff_eq] at hok
   simp only [evOp] at h
   split at h<;>try (cases h; done)
   rename_i H1 hr
   injection h with h; injection h with h1 h; injection h with h2 h3; subst h1; subst h2; subst h3
   exact (op_st hop hok.1.1 hok.1.2 hok.2 hr hs he).wp
 | bin b x y=>
   simp only [okOp] at hok
   split at hok<;>try (cases hok; done)
   rename_i b' t x' y' t' hop
   simp only [Bool.and_eq_true,decide_eq_true_eq] at hok
   obtain ⟨⟨rfl,k1⟩,k2⟩:=hok
   simp only [evOp] at h
   split at h<;>try (cases h; done)
   rename_i r hr
   injection h with h; injection h with h1 h; injection h with h2 h3; subst h1; subst h2; subst h3
   exact (op_bin hop k1 k2 hr hs he).wp
 | eqA neg ks x y=>
   simp only [okOp] at hok
   split at hok<;>try (cases hok; done)
   rename_i b t x' y' t' hop
   simp only [Bool.and_eq_true,decide_eq_true_eq,beq_iff_eq] at hok
   obtain ⟨⟨⟨rfl,k1⟩,k2⟩,k3⟩:=hok
   simp only [evOp] at h
   split at h<;>try (cases h; done)
   rename_i cs ds hc hd
   split at h<;>try (cases h; done)
   rename_i r hr
   injection h with h; injection h with h1 h; injection h with h2 h3; subst h1; subst h2; subst h3
   exact (op_eqA hop k1 k2 k3 hc hd hr hs he).wp
 | eqB neg x y=>
   simp only [okOp] at hok
   split at hok<;>try (cases hok; done)
   rename_i b t x' y' t' hop
   simp only [Bool.and_eq_true,decide_eq_true_eq,beq_iff_eq] at hok
   obtain ⟨⟨⟨rfl,k1⟩,k2⟩,k3⟩:=hok
   simp only [evOp] at h
   split at h<;>try (cases h; done)
   rename_i p q hp hq
   injection h with h; injection h with h1 h; injection h with h2 h3; subst h1; subst h2; subst h3
   exact (op_eqB hop (boolT_eq k1) k2 k3 hp hq hs he).wp
 | eqN neg k x=>
   simp only [okOp] at hok
   split at hok<;>try (cases hok; done)
   rename_i b t x' z t' hop
   simp only [Bool.and_eq_true,decide_eq_true_eq,beq_iff_eq] at hok
   obtain ⟨⟨rfl,k1⟩,k2⟩:=hok
   simp only [evOp] at h
   split at h<;>try (cases h; done)
   rename_i r hr
   injection h with h; injection h with h1 h; injection h with h2 h3; subst h1; subst h2; subst h3
   exact (op_eqN hop k1 k2 hr hs he).wp
 | not x=>
   simp only [okOp] at hok
   split at hok<;>try (cases hok; done)
   rename_i t y hop
   simp only [evOp] at h
   split at h<;>try (cases h; done)
   rename_i p hp
   injection h with h; injection h with h1 h; injection h with h2 h3; subst h1; subst h2; subst h3
   exact (op_not hop hok hp hs he).wp
 | neg x=>
   simp only [okOp] at hok
   split at hok<;>try (cases hok; done)
   rename_i t y hop
   simp only [evOp] at h
   split at h<;>try (cases h; done)
   rename_i k p hp
   injection h with h; injection h with h1 h; injection h with h2 h3; subst h1; subst h2; subst h3
   exact (op_neg hop hok hp hs he).wp
 | fld off x=>
   simp only [okOp] at hok
   split at hok<;>try (cases hok; done)
   rename_i t y f hop
   simp only [Bool.and_eq_true] at hok
   obtain ⟨k1,k2⟩:=hok
   split at k2<;>try (cases k2; done)
   rename_i of ft hf
   simp only [Bool.and_eq_true,beq_iff_eq] at k2
   obtain ⟨rfl,k2⟩:=k2
   split at k2<;>try (cases k2; done)
   rename_i m hm
   simp only [evOp] at h
   split at h<;>try (cases h; done)
   all_goals
     injection h with h; injection h with h1 h; injection h with h2 h3; subst h1; subst h2; subst h3
   · rename_i b i hx; exact (op_fld hop hf hm k1 (.inl ⟨b,i,hx,rfl⟩) hs he).wp
   · rename_i b i j hx; exact (op_fld hop hf hm k1 (.inr (.inl ⟨b,i,j,hx,rfl⟩)) hs he).wp
   · rename_i b i hx; exact (op_fld hop hf hm k1 (.inr (.inr ⟨b,i,hx,rfl⟩)) hs he).wp
 | iadS esz x i=>
   simp only [okOp] at hok
   split at hok<;>try (cases hok; done)
   rename_i t y j hop
   simp only [Bool.and_eq_true] at hok
   obtain ⟨⟨k1,k2⟩,k3⟩:=hok
   obtain ⟨el,g1,g2⟩:=elT_eq k1
   simp only [evOp] at h
   split at h<;>try (cases h; done)
   rename_i k m hm
   split at h<;>try (cases h; done)
   rename_i r hr
   injection h with h; injection h with h1 h; injection h with h2 h3; subst h1; subst h2; subst h3
   exact (op_iadS hop g1 g2 k2 k3 hm hr hs he).wp
 | iadA m esz x i=>
   simp only [okOp] at hok
   split at hok<;>try (cases hok; done)
   rename_i t y j hop
   simp only [Bool.and_eq_true] at hok
   obtain ⟨⟨k1,k2⟩,k3⟩:=hok
   obtain ⟨el,g1,g2⟩:=arrT_eq k1
   simp only [evOp] at h
   split at h<;>try (cases h; done)
   rename_i k m hm
   split at h<;>try (cases h; done)
   rename_i hb
   split at h<;>try (cases h; done)
   all_goals
     injection h with h; injection h with h1 h; injection h with h2 h3; subst h1; subst h2; subst h3
   · rename_i b i hx; exact (op_iadA hop g1 g2 k2 k3 hm hb (.inl ⟨b,i,hx,rfl⟩) hs he).wp
   · rename_i b i j hx; exact (op_iadA hop g1 g2 k2 k3 hm hb (.inr (.inl ⟨b,i,j,hx,rfl⟩)) hs he).wp
   · rename_i b i hx; exact (op_iadA hop g1 g2 k2 k3 hm hb (.inr (.inr ⟨b,i,hx,rfl⟩)) hs he).wp
 | fldv off sz ag x=>
   simp only [okOp] at hok
   split at hok<;>try (cases hok; done)
   rename_i t y f hop
   simp only [Bool.and_eq_true] at hok
   obtain ⟨k1,k2⟩:=hok
   split at k2<;>try (cases k2; done)
   rename_i of ft hf
   simp only [Bool.and_eq_true,beq_iff_eq] at k2
   obtain ⟨⟨rfl,k2⟩,k3⟩:=k2
   simp only [evOp] at h
   split at h<;>try (cases h; done)
   rename_i cs hx
   split at h<;>try (cases h; done)
   rename_i r hr
   injection h with h; injection h with h1 h; injection h with h2 h3; subst h1; subst h2; subst h3
   exact (op_fldv hop hf k2 k3 k1 hx hr hs he).wp
 | idxA m esz ag x i=>
   simp only [okOp] at hok
   split at hok<;>try (cases hok; done)
   rename_i t y j hop
   simp only [Bool.and_eq_true] at hok
   obtain ⟨⟨k1,k2⟩,k3⟩:=hok
   split at k3<;>try (cases k3; done)
   rename_i m' el hel
   simp only [Bool.and_eq_true,beq_iff_eq] at k3
   obtain ⟨⟨rfl,k3⟩,k4⟩:=k3
   simp only [evOp] at h
   split at h<;>try (cases h; done)
   rename_i cs k jj hx hj
   split at h<;>try (cases h; done)
   rename_i hb
   split at h<;>try (cases h; done)
   rename_i r hr
   injection h with h; injection h with h1 h; injection h with h2 h3; subst h1; subst h2; subst h3
   exact (op_idxA hop hel k3 k4 k1 k2 hx hj hb hr hs he).wp
 | idxS x i=>
   simp only [okOp] at hok
   split at hok<;>try (cases hok; done)
   rename_i t y j hop
   simp only [Bool.and_eq_true] at hok
   obtain ⟨⟨k1,k2⟩,k3⟩:=hok
   simp only [evOp] at h
   split at h<;>try (cases h; done)
   rename_i s k jj hx hj
   split at h<;>try (cases h; done)
   rename_i hb
   injection h with h; injection h with h1 h; injection h with h2 h3; subst h1; subst h2; subst h3
   exact (op_idxS hop (strT_eq k1) k2 k3 hx hj hb hs he).wp
 | build zs ps=>
   simp only [okOp] at hok
   split at hok<;>try (cases hok; done)
   rename_i t qs hop
   split at hok<;>try (cases hok; done)
   rename_i z place hz hp
   simp only [Bool.and_eq_true] at hok
   simp only [evOp] at h
   split at h<;>try (cases h; done)
   rename_i cs hcs
   injection h with h; injection h with h1 h; injection h with h2 h3; subst h1; subst h2; subst h3
   exact (op_build hop hz hok.1 hp hok.2 hcs hs he).wp
 | bsl esz ps=>
   simp only [okOp] at hok
   split at hok<;>try (cases hok; done)
   rename_i t m qs hop
   split at hok<;>try (cases hok; done)
   rename_i el hel
   simp only [Bool.and_eq_true,beq_iff_eq] at hok
   obtain ⟨k1,k2⟩:=hok
   split at k2<;>try (cases k2; done)
   rename_i z hz
   simp only [Bool.and_eq_true,beq_iff_eq,decide_eq_true_eq] at k2
   obtain ⟨⟨⟨⟨k2,k3⟩,k4⟩,k5⟩,k6⟩:=k2
   simp only [evOp] at h
   split at h<;>try (cases h; done)
   rename_i hc
   simp only [Bool.and_eq_true] at hc
   injection h with h; injection h with h1 h; injection h with h2 h3; subst h1; subst h2; subst h3
   exact (op_bsl hop hel k1 hz k2 k3 k4 k5 k6 hc.1.1 hc.1.2 hc.2 hs he).wp
 | app tid esz bytes x y=>
   simp only [okOp] at hok
   split at hok<;>try (cases hok; done)
   rename_i args ats hop
   split at hok<;>try (cases hok; done)
   rename_i x' y' t t' ha hb
   simp only [Bool.and_eq_true,beq_iff_eq] at hok
   obtain ⟨⟨⟨rfl,k1⟩,k2⟩,k3⟩:=hok
   rw [arr_eq ha,arr_eq hb] at hop
   split at k3<;>try (cases k3; done)
   rename_i el hel
   split at k3<;>try (cases k3; done)
   rename_i i hi
   simp only [Bool.and_eq_true,beq_iff_eq,decide_eq_true_eq] at k3
   obtain ⟨⟨⟨k3,k4⟩,k5⟩,k6⟩:=k3
   split at k6<;>try (cases k6; done)
   rename_i z hz
   simp only [Bool.and_eq_true,beq_iff_eq] at k6
   simp only [evOp] at h
   exact (op_app hop hel hi hz k6.1 k6.2 k5 k3 k4 k1 k2 h hs he).wp
 | len str x=>
   simp only [okOp] at hok
   split at hok<;>try (cases hok; done)
   rename_i args ats hop
   split at hok<;>try (cases hok; done)
   rename_i y t ha hb
   simp only [Bool.and_eq_true] at hok
   rw [arr_eq ha,arr_eq hb] at hop
   simp only [evOp] at h
   split at h<;>try (cases h; done)
   rename_i r hr
   injection h with h; injection h with h1 h; injection h with h2 h3; subst h1; subst h2; subst h3
   refine (op_len hop ?_ hok.1 hr hs he).wp
   cases str
   · exact isSlice_eq hok.2
   · exact strT_eq hok.2
 | slc str esz x lo hi=>
   simp only [okOp] at hok
   split at hok<;>try (cases hok; done)
   rename_i t y lo' hi' hop
   simp only [Bool.and_eq_true] at hok
   obtain ⟨⟨⟨k1,k2⟩,k3⟩,k4⟩:=hok
   simp only [evOp] at h
   split at h<;>try (cases h; done)
   rename_i k l j hh' hl hh
   split at h<;>try (cases h; done)
   rename_i r hr
   injection h with h; injection h with h1 h; injection h with h2 h3; subst h1; subst h2; subst h3
   refine (op_slc hop ?_ k1 k2 k3 hl hh hr hs he).wp
   cases str
   · exact elT_eq k4
   · exact strT_eq k4
 | ext x i=>
   simp only [okOp] at hok
   split at hok<;>try (cases hok; done)
   rename_i y j hop
   simp only [Bool.and_eq_true,beq_iff_eq] at hok
   obtain ⟨rfl,k1⟩:=hok
   simp only [evOp] at h
   split at h<;>try (cases h; done)
   rename_i vs hv
   split at h<;>try (cases h; done)
   rename_i r hr
   injection h with h; injection h with h1 h; injection h with h2 h3; subst h1; subst h2; subst h3
   exact (op_ext hop k1 hv hr hs he).wp
 | mkfn g cs=>
   simp only [okOp] at hok
   split at hok<;>try (cases hok; done)
   rename_i f first caps hop
   simp only [Bool.and_eq_true,beq_iff_eq,Array.isEmpty_iff] at hok
   obtain ⟨⟨rfl,rfl⟩,k1⟩:=hok
   simp only [evOp] at h
   injection h with h; injection h with h1 h; injection h with h2 h3; subst h1; subst h2; subst h3
   exact (op_mkfn hop k1 hs he).wp
 | nilchk x=>
   simp only [okOp] at hok
   split at hok<;>try (cases hok; done)
   rename_i y hop
   simp only [evOp] at h
   split at h<;>try (cases h; done)
   all_goals
     injection h with h; injection h with h1 h; injection h with h2 h3; subst h1; subst h2; subst h3
     rename_i hx
     rw [←hx]
     refine (op_nil (d:=rho e x) hop hok ?_ hs he).wp
     rw [hx]
     simp
 | call f args bs tids=>
   simp only [okOp] at hok
   split at hok<;>try (cases hok; done)
   rename_i f' args' ats hop
   simp only [Bool.and_eq_true,decide_eq_true_eq] at hok
   simp only [evOp] at h
   exact op_call hop hok.1.1 hok.1.2 hok.2 hO h hs he
 | callb f args bs=>
   simp only [okOp] at hok
   split at hok<;>try (cases hok; done)
   rename_i f' args' ats hop
   simp only [Bool.and_eq_true,decide_eq_true_eq] at hok
   simp only [evOp] at h
   exact op_call (O:=⟨bzCall O,fun _ _ _=>none⟩) hop hok.1.1 hok.1.2 hok.2 (bzCall_ok hO) h hs he
 | callc f args bs=>
   simp only [okOp] at hok
   split at hok<;>try (cases hok; done)
   rename_i f' args' ats hop
   simp only [Bool.and_eq_true] at hok
   simp only [evOp] at h
   split at h<;>try (cases h; done)
   rename_i g caps hf
   split at h<;>try (cases h; done)
   rename_i hb
   simp only [Bool.and_eq_true,distinct_iff] at hb
   split at h<;>try (cases h; done)
   rename_i r Ho hr
   injection h with h; injection h with h1 h; injection h with h2 h3; subst h1; subst h2; subst h3
   exact op_callc hop hok.1 hok.2 hO hf hb.1.1 hr hs he
 | callq f args=>
   simp only [okOp] at hok
   split at hok<;>try (cases hok; done)
   rename_i f' args' ats hop
   simp only [Bool.and_eq_true] at hok
   simp only [evOp] at h
   split at h<;>try (cases h; done)
   rename_i g caps hf
   split at h<;>try (cases h; done)
   rename_i r Ho hr
   injection h with h; injection h with h1 h; injection h with h2 h3; subst h1; subst h2; subst h3
   have h2:callOp O (rho e f) (rhos e args) [] [] e H=some (renD [] r,killE (turned Ho []) e,catH (killH (turned Ho []) (without [] H)) []):=by
     simp only [callOp,hf,distinct,noMem,smallL,names,pickH,Bool.and_self,hr,joinM,back]
   exact (op_call (bs:=[]) (tids:=[]) hop hok.1 hok.2 (by simp) hO h2 hs he).quiet
 | callf f args=>
   simp only [okOp] at hok
   split at hok<;>try (cases hok; done)
   rename_i f' args' ats hop
   simp only [Bool.and_eq_true] at hok
   simp only [evOp] at h
   split at h<;>try (cases h; done)
   rename_i g caps hf
   split at h<;>try (cases h; done)
   rename_i r Ho hr
   split at h<;>try (cases h; done)
   rename_i r' Ho' hfr
   injection h with h; injection h with h1 h; injection h with h2 h3; subst h1; subst h2; subst h3
   have hfz:fzCall O g (renL [] (rhos e args ++ caps)) []=some (r',Ho'):=by simp only [fzCall,hr,hfr]
   have h2:callOp ⟨fzCall O,fun _ _ _=>none⟩ (rho e f) (rhos e args) [] [] e H=some (renD [] r',killE (turned Ho' []) e,catH (killH (turned Ho' []) (without [] H)) []):=by
     simp only [callOp,hf,distinct,noMem,smallL,names,pickH,Bool.and_self,hfz,joinM,back]
   exact (op_call (O:=⟨fzCall O,fun _ _ _=>none⟩) (bs:=[]) (tids:=[]) hop hok.1 hok.2 (by simp) (fzCall_ok hO) h2 hs he).quiet
 | mx args=>
   simp only [okOp] at hok
   split at hok<;>try (cases hok; done)
   rename_i args' ats hop
   simp only [evOp] at h
   split at h<;>try (cases h; done)
   rename_i k x l hx
   split at h<;>try (cases h; done)
   rename_i r hr
   injection h with h; injection h with h1 h; injection h with h2 h3; subst h1; subst h2; subst h3
   exact (op_mx hop hok hx hr hs he).wp
 | mn args=>
   simp only [okOp] at hok
   split at hok<;>try (cases hok; done)
   rename_i args' ats hop
   simp only [evOp] at h
   split at h<;>try (cases h; done)
   rename_i k x l hx
   split at h<;>try (cases h; done)
   rename_i r hr
   injection h with h; injection h with h1 h; injection h with h2 h3; subst h1; subst h2; subst h3
   exact (op_mn hop hok hx hr hs he).wp
 | conv k x=>
   simp only [okOp] at hok
   split at hok<;>try (cases hok; done)
   rename_i s t y hop
   simp only [Bool.and_eq_true] at hok
   obtain ⟨⟨k1,k2⟩,k3⟩:=hok
   obtain ⟨ds,hds⟩:=isT_eq k2
   simp only [evOp] at h
   split at h<;>try (cases h; done)
   rename_i j m hm
   injection h with h; injection h with h1 h; injection h with h2 h3; subst h1; subst h2; subst h3
   exact (op_conv hop hds (intT_eq k3) k1 hm hs he).wp
 | convS x=>
   simp only [okOp] at hok
   split at hok<;>try (cases hok; done)
   rename_i s t y hop
   simp only [Bool.and_eq_true] at hok
   obtain ⟨⟨k1,k2⟩,k3⟩:=hok
   simp only [evOp] at h
   split at h<;>try (cases h; done)
   rename_i m hm
   injection h with h; injection h with h1 h; injection h with h2 h3; subst h1; subst h2; subst h3
   exact (op_convS hop (strT_eq k2) (strT_eq k3) k1 hm hs he).wp
 | mks tid esz bytes z x=>
   simp only [okOp] at hok
   split at hok<;>try (cases hok; done)
   rename_i t l c hop
   simp only [Bool.and_eq_true] at hok
   obtain ⟨⟨k1,k2⟩,hok⟩:=hok
   split at hok<;>try (cases hok; done)
   rename_i el hel
   split at hok<;>try (cases hok; done)
   rename_i i hi
   simp only [Bool.and_eq_true,beq_iff_eq,decide_eq_true_eq] at hok
   obtain ⟨⟨⟨k3,k4⟩,k5⟩,hok⟩:=hok
   split at hok<;>try (cases hok; done)
   rename_i zv hz
   simp only [Bool.and_eq_true,beq_iff_eq] at hok
   obtain ⟨⟨k6,k7⟩,k8⟩:=hok
   simp only [evOp] at h
   split at h<;>try (cases h; done)
   rename_i k m hm
   split at h<;>try (cases h; done)
   rename_i hc
   simp only [Bool.and_eq_true,beq_iff_eq,decide_eq_true_eq,clen_eq] at hc
   obtain ⟨⟨⟨⟨⟨c1,c2⟩,c3⟩,c4⟩,c5⟩,c6⟩:=hc
   injection h with h; injection h with h1 h; injection h with h2 h3; subst h1; subst h2; subst h3
   exact (op_mks hop hel hi hz k3 k4 k5 (k6.trans k3) k7 k1 k2 hm k8 c1 c2 c3 c4 c5 c6 hs he).wp
 | capz x=>
   simp only [okOp] at hok
   split at hok<;>try (cases hok; done)
   rename_i args ats hop
   split at hok<;>try (cases hok; done)
   rename_i y t ha hb
   simp only [Bool.and_eq_true] at hok
   obtain ⟨el,hel⟩:=isSlice_eq hok.2
   rw [arr_eq ha,arr_eq hb] at hop
   simp only [evOp] at h
   split at h<;>try (cases h; done)
   rename_i sz hx
   injection h with h; injection h with h1 h; injection h with h2 h3; subst h1; subst h2; subst h3
   exact (op_capz hop hel hok.1 hx hs he).wp
 | apz tid esz bytes z x len=>
   simp only [okOp] at hok
   split at hok<;>try (cases hok; done)
   rename_i args ats hop
   split at hok<;>try (cases hok; done)
   rename_i x' y' t t' ha hb
   simp only [Bool.and_eq_true] at hok
   obtain ⟨⟨k1,k2⟩,hok⟩:=hok
   split at hok<;>try (cases hok; done)
   rename_i ki hti
   split at hok<;>try (cases hok; done)
   rename_i el hel
   split at hok<;>try (cases hok; done)
   rename_i i hi
   simp only [Bool.and_eq_true,beq_iff_eq,decide_eq_true_eq] at hok
   obtain ⟨⟨⟨k3,k4⟩,k5⟩,hok⟩:=hok
   split at hok<;>try (cases hok; done)
   rename_i zv hz
   simp only [Bool.and_eq_true,beq_iff_eq] at hok
   obtain ⟨⟨k6,k7⟩,k8⟩:=hok
   rw [arr_eq ha,arr_eq hb] at hop
   simp only [evOp] at h
   split at h<;>try (cases h; done)
   rename_i sz k m hx hm
   split at h<;>try (cases h; done)
   rename_i hc
   simp only [Bool.and_eq_true,beq_iff_eq,decide_eq_true_eq,clen_eq] at hc
   obtain ⟨⟨⟨⟨⟨c1,c2⟩,c3⟩,c4⟩,c5⟩,c6⟩:=hc
   injection h with h; injection h with h1 h; injection h with h2 h3; subst h1; subst h2; subst h3
   exact (op_apz hop hel hti hi hz k3 k4 k5 (k6.trans k3) k7 k1 k2 hx hm k8 c1 c2 c3 c4 c5 c6 hs he).wp
 | bso tid esz ps=>
   simp only [okOp] at hok
   split at hok<;>try (cases hok; done)
   rename_i t m qs hop
   split at hok<;>try (cases hok; done)
   rename_i el hel
   simp only [Bool.and_eq_true,beq_iff_eq] at hok
   obtain ⟨k1,hok⟩:=hok
   split at hok<;>try (cases hok; done)
   rename_i z hz
   simp only [Bool.and_eq_true,beq_iff_eq,decide_eq_true_eq] at hok
   obtain ⟨⟨⟨⟨k2,k3⟩,k4⟩,k5⟩,k6⟩:=hok
   simp only [evOp] at h
   split at h<;>try (cases h; done)
   rename_i hc
   simp only [Bool.and_eq_true] at hc
   injection h with h; injection h with h1 h; injection h with h2 h3; subst h1; subst h2; subst h3
   exact (op_bso hop hel k1 hz k2 k3 k4 k5 k6 hc.1.1.1 hc.1.1.2 hc.1.2 hc.2 hs he).wp
 | clr esz z x=>
   simp only [okOp] at hok
   split at hok<;>try (cases hok; done)
   rename_i args ats hop
   split at hok<;>try (cases hok; done)
   rename_i y t ha hb
   simp only [Bool.and_eq_true] at hok
   obtain ⟨k1,hok⟩:=hok
   split at hok<;>try (cases hok; done)
   rename_i el hel
   split at hok<;>try (cases hok; done)
   rename_i zv hz
   simp only [Bool.and_eq_true] at hok
   rw [arr_eq ha,arr_eq hb] at hop
   simp only [evOp] at h
   split at h<;>try (cases h; done)
   rename_i b off l hx hc
   simp only [Bool.and_eq_true,beq_iff_eq,clen_eq] at hc
   split at h<;>try (cases h; done)
   rename_i nz sz xs p dy hbx
   split at h<;>try (cases h; done)
   rename_i hd
   simp only [Bool.and_eq_true,beq_iff_eq,decide_eq_true_eq] at hd
   obtain ⟨⟨hd1,hd2⟩,rfl⟩:=hd
   injection h with h; injection h with h1 h; injection h with h2 h3; subst h1; subst h2; subst h3
   exact (op_clr hop hel hz hok.1 k1 hx hok.2 hc.1.1 hc.1.2 hc.2 hbx hd1 hd2 hs he).wp
 | rng id x=>
   simp only [okOp] at hok
   split at hok<;>try (cases hok; done)
   rename_i t y hop
   simp only [Bool.and_eq_true] at hok
   simp only [evOp] at h
   split at h<;>try (cases h; done)
   rename_i s hx hc
   simp only [Bool.and_eq_true] at hc
   injection h with h; injection h with h1 h; injection h with h2 h3; subst h1; subst h2; subst h3
   exact (op_rng hop (strT_eq hok.1) hok.2 hx hc.1 hc.2 hs he).wp
 | nxt x=>
   simp only [okOp] at hok
   split at hok<;>try (cases hok; done)
   rename_i y hop
   simp only [evOp] at h
   split at h<;>try (cases h; done)
   rename_i b hx
   split at h<;>try (cases h; done)
   rename_i s pos hb
   obtain ⟨k1,k2⟩:=op_nxt (P:=P) hop hok hx hb hs he
   split at h
   · rename_i hp
     injection h with h; injection h with h1 h; injection h with h2 h3; subst h1; subst h2; subst h3
     exact (k1 (of_decide_eq_true hp)).wp
   · rename_i hp
     injection h with h; injection h with h1 h; injection h with h2 h3; subst h1; subst h2; subst h3
     exact (k2 (of_decide_eq_false hp)).wp
 | mkm id r=>
   simp only [okOp] at hok
   split at hok<;>try (cases hok; done)
   rename_i t r' hop
   simp only [Bool.and_eq_true] at hok
   obtain ⟨k,el,ht⟩:=isMap_eq hok.1
   simp only [evOp] at h
   split at h<;>try (cases h; done)
   rename_i hc
   simp only [Bool.and_eq_true] at hc
   injection h with h; injection h with h1 h; injection h with h2 h3; subst h1; subst h2; subst h3
   exact (op_mkm hop ht hok.2 hc.2 hc.1.1 hc.1.2 hs he).wp
 | lku kd z x k ok=>
   simp only [okOp] at hok
   split at hok<;>try (cases hok; done)
   rename_i t x' k' ok' hop
   simp only [Bool.and_eq_true,beq_iff_eq] at hok
   obtain ⟨⟨⟨rfl,k1⟩,k2⟩,hok⟩:=hok
   split at hok<;>try (cases hok; done)
   rename_i el hel
   split at hok<;>try (cases hok; done)
   rename_i zv hz
   simp only [evOp] at h
   split at h<;>try (cases h; done)
   rename_i cs hm hkd
   split at h<;>try (cases h; done)
   · rename_i v hf
     injection h with h; injection h with h1 h; injection h with h2 h3; subst h1; subst h2; subst h3
     exact (op_lku hop hel hz hok k1 k2 hm hkd hf hs he).wp
   · rename_i hf
     injection h with h; injection h with h1 h; injection h with h2 h3; subst h1; subst h2; subst h3
     exact (op_lku hop hel hz hok k1 k2 hm hkd hf hs he).wp
 | mup kd x k v=>
   have go:∀ t x' k' v',(o.op = .mapUpdate t x' k' v'∨o.op = .insert t x' k' v')→((mapT P t kd).isSome && okX n x' x && okX n k' k && okX n v' v)=true→OpWp P w0 K0 K Q w n o a d e' H':=fun t x' k' v' hop hok=>by
     simp only [Bool.and_eq_true,Option.isSome_iff_exists] at hok
     obtain ⟨⟨⟨⟨el,hel⟩,k1⟩,k2⟩,k3⟩:=hok
     simp only [evOp] at h
     split at h<;>try (cases h; done)
     rename_i b hx hc
     simp only [Bool.and_eq_true] at hc
     split at h<;>try (cases h; done)
     rename_i cs hb
     split at h<;>try (cases h; done)
     rename_i cs' hp
     injection h with h; injection h with h1 h; injection h with h2 h3; subst h1; subst h2; subst h3
     exact (op_mup hop hel k1 k2 k3 hx hc.1 hc.2 hb hp hs he).wp
   simp only [okOp] at hok
   split at hok<;>try (cases hok; done)
   · rename_i hop; exact go _ _ _ _ (.inl hop) hok
   · rename_i hop; exact go _ _ _ _ (.inr hop) hok
 | mdl kd x k=>
   simp only [okOp] at hok
   split at hok<;>try (cases hok; done)
   rename_i args ats hop
   split at hok<;>try (cases hok; done)
   rename_i x' k' t tk ha hb
   simp only [Bool.and_eq_true,Option.isSome_iff_exists] at hok
   obtain ⟨⟨⟨el,hel⟩,k1⟩,k2⟩:=hok
   rw [arr_eq ha,arr_eq hb] at hop
   simp only [evOp] at h
   split at h<;>try (cases h; done)
   rename_i b hx hc
   split at h<;>try (cases h; done)
   rename_i cs hbx
   split at h<;>try (cases h; done)
   rename_i cs' hp
   injection h with h; injection h with h1 h; injection h with h2 h3; subst h1; subst h2; subst h3
   exact (op_mdl hop hel k1 k2 hx hc hbx hp hs he).wp
end
end Gs
namespace Gs
open Go
variable [GlobTab]
abbrev Path:=List (Nat×Bool×Bool)
inductive Leaf where
 | op (ro:RO)
 | pk (c:Nat) (want strict:Bool) (res alt:Opd) (wl:List Nat)
structure Atom where
 path:Path
 d:Nat
 leaf:Leaf
mutual
def flatI (π:Path):RI→List Atom
 | .op d o=>[⟨π,d,.op o⟩]
 | .sc d c want strict blk res alt=>flatIs ((c,want,strict) :: π) blk ++ [⟨π,d,.pk c want strict res alt (dsts blk)⟩]
def flatIs (π:Path):List RI→List Atom
 | []=>[]
 | i :: r=>flatI π i ++ flatIs π r
end
mutual
def wfI:RI→Bool
 | .op _ o=>quietO o
 | .sc _ c _ _ blk _ _=>!mem c (dsts blk) && wfIs blk
def wfIs:List RI→Bool
 | []=>true
 | i :: r=>wfI i && wfIs r
end
theorem rhos_congr {e e':Env} : ∀ {l:List Opd},(∀ x∈l,rho e' x=rho e x)→rhos e' l=rhos e l
 | [],_=>rfl
 | x :: r,h=>by simp only [rhos]; rw [h x (by simp),rhos_congr fun y hy=>h y (by simp [hy])]
theorem parts_congr {e e':Env} : ∀ {l:List (Nat×Nat×Opd)} {cs:List D},(∀ x∈l.map (·.2.2),rho e' x=rho e x)→parts e' l cs=parts e l cs
 | [],_,_=>rfl
 | (o,n,x) :: r,cs,h=>by
   simp only [parts]
   rw [h x (by simp)]
   split
   · exact parts_congr fun y hy=>h y (by simp at hy ⊢; exact .inr hy)
   · rfl
theorem low_congr {e e':Env}{lo:Option Opd}(h:∀ x∈optX lo,rho e' x=rho e x):lowOf e' lo=lowOf e lo:=by
 cases lo with
 | none=>rfl
 | some x=>exact h x (by simp [optX])
theorem high_congr {e e':Env}{str:Bool}{H:Heap}{d:D}{lo:Option Opd}(h:∀ x∈optX lo,rho e' x=rho e x):highOf str e' H d lo=highOf str e H d lo:=by
 cases lo with
 | none=>rfl
 | some x=>simp only [highOf]; rw [h x (by simp [optX])]
theorem quiet_eq {O:Ora}{e e1:Env}{H H1:Heap}{ro:RO}{d:D}(hq:quietO ro=true)(h:evOp O e H ro=some (d,e1,H1)):e1=e∧H1=H:=by
 cases ro<;>simp only [quietO] at hq<;>try (cases hq; done)
 all_goals simp only [evOp] at h
 all_goals repeat' (first | (cases h; done) | (injection h with h; injection h with h1 h; injection h with h2 h3; exact ⟨h2.symm,h3.symm⟩) | split at h)
 all_goals (first | (cases h; done) | (cases hp:(‹Bool› : Bool)<;>simp_all))
theorem evOp_congr {O:Ora}{e e':Env}{H:Heap}{ro:RO}{d:D}(hq:quietO ro=true)(hx:∀ x∈opds ro,rho e' x=rho e x)(h:evOp O e H ro=some (d,e,H)):evOp O e' H ro=some (d,e',H):=by
 cases ro<;>simp only [quietO] at hq<;>try (cases hq; done)
 all_goals simp only [opds,List.mem_cons,List.not_mem_nil,or_false,forall_eq_or_imp,forall_eq] at hx
 all_goals simp only [evOp] at h ⊢
 case pick=>
   rw [hx.1,hx.2.1,hx.2.2]
   split at h<;>try (cases h; done)
   rename_i p _
   split at h
   · simp_all
   · cases p<;>simp_all
 case build=>rw [parts_congr hx]; split at h<;>simp_all
 case bsl=>rw [rhos_congr hx]; split at h<;>simp_all
 case slc=>
   rw [hx.1,low_congr fun x hx'=>hx.2 x (List.mem_append_left _ hx'),high_congr fun x hx'=>hx.2 x (List.mem_append_right _ hx')]
   split at h<;>try (cases h; done)
   split at h<;>simp_all
 case mkfn=>rw [rhos_congr hx]; simp_all
 case callq=>
   rw [hx.1,rhos_congr hx.2]
   split at h<;>try (cases h; done)
   split at h<;>simp_all
 case callf=>
   rw [hx.1,rhos_congr hx.2]
   split at h<;>try (cases h; done)
   split at h<;>try (cases h; done)
   split at h<;>simp_all
 case callc=>
   rw [hx.1,rhos_congr hx.2]
   split at h<;>try (cases h; done)
   split at h<;>try (cases h; done)
   split at h<;>simp_all
 case mx=>
   rw [rhos_congr hx]
   split at h<;>try (cases h; done)
   split at h<;>simp_all
 case mn=>
   rw [rhos_congr hx]
   split at h<;>try (cases h; done)
   split at h<;>simp_all
 all_goals (simp only [hx]; repeat' (first | (cases h; done) | (injection h with h; injection h with h1 h; injection h with h2 h3; subst h1; simp_all; done) | split at h))
theorem get_wipe (l:List Nat)(e:Env)(t:Nat):get (wipe l e) t=if t∈l then .dead else get e t:=by
 induction e with
 | nil=>simp [wipe,get]
 | cons p r ih=>
   obtain ⟨k,d⟩:=p
   simp only [wipe]
   cases hm:mem k l with
   | true=>
     have:=(mem_iff k l).1 hm
     simp only [cond_true,ih,get]
     by_cases h:k=t
     · subst h; simp [this]
     · rw [nbeq h]; rfl
   | false=>
     have hn:k∉l:=fun hh=>by rw [(mem_iff k l).2 hh] at hm; cases hm
     simp only [cond_false,get,ih]
     by_cases h:k=t
     · subst h; simp [hn]
     · rw [nbeq h]; rfl
theorem catL_eq (a b:List Nat):catL a b=a ++ b:=by induction a with | nil=>rfl | cons x r ih=>simp [catL,ih]
def Same (e e':Env):Prop:=∀ t,get e t=get e' t
theorem Same.rho {e e':Env}(h:Same e e')(x:Opd):rho e x=rho e' x:=by cases x with | t n=>exact h n | c d=>rfl
theorem Same.refl (e:Env):Same e e:=fun _=>rfl
theorem Same.symm {e e':Env}(h:Same e e'):Same e' e:=fun t=>(h t).symm
theorem Same.trans {a b c:Env}(h:Same a b)(h':Same b c):Same a c:=fun t=>(h t).trans (h' t)
theorem Same.set {e e':Env}(h:Same e e')(t:Nat)(d:D):Same (set e t d) (set e' t d):=fun u=>by rw [get_set,get_set,h u]
theorem Same.wipe {e e':Env}(h:Same e e')(l:List Nat):Same (wipe l e) (wipe l e'):=fun u=>by rw [get_wipe,get_wipe,h u]
def actv (e:Env):Path→Option Bool
 | []=>some true
 | (c,w,s) :: π=>(match actv e π with
   | some true=>(match get e c with
     | .bool p=>some (s || (p == w))
     | _=>none)
   | x=>x)
def evA (O:Ora)(H:Heap)(e:Env)(x:Atom):Option Env:=
 match actv e x.path with
 | some true=>(match x.leaf with
   | .op ro=>(match evOp O e H ro with
     | some (v,_,_)=>some (set e x.d v)
     | none=>none)
   | .pk c want strict res alt wl=>(match get e c with
     | .bool p=>scEnd want strict p x.d res alt (wipe wl e) (some e)
     | _=>none))
 | some false=>some e
 | none=>none
def foldA (O:Ora)(H:Heap):Env→List Atom→Option Env
 | e,[]=>some e
 | e,x :: r=>(match evA O H e x with
   | some e'=>foldA O H e' r
   | none=>none)
theorem foldA_app {O:Ora}{H:Heap} : ∀ {l l':List Atom} {e:Env},foldA O H e (l ++ l')=(match foldA O H e l with | some e'=>foldA O H e' l' | none=>none)
 | [],l',e=>rfl
 | x :: r,l',e=>by
   simp only [List.cons_append,foldA]
   cases evA O H e x with
   | none=>rfl
   | some e'=>exact foldA_app
theorem actv_off {e:Env}{π:Path}(h:actv e π=some false):∀ ρ,actv e (ρ ++ π)=some false
 | []=>h
 | (c,w,s) :: ρ=>by simp only [List.cons_append,actv]; rw [actv_off h ρ]
theorem flat_path:∀ (i:RI) (π:Path),∀ x∈flatI π i,∃ ρ,x.path=ρ ++ π
 | .op d o,π,x,hx=>by simp only [flatI,List.mem_singleton] at hx; subst hx; exact ⟨[],rfl⟩
 | .sc d c want strict blk res alt,π,x,hx=>by
   simp only [flatI,List.mem_append,List.mem_singleton] at hx
   rcases hx with hx | rfl
   · obtain ⟨ρ,h⟩:=go blk _ x hx
     exact ⟨ρ ++ [(c,want,strict)],by rw [h]; simp⟩
   · exact ⟨[],rfl⟩
where go:∀ (l:List RI) (π:Path),∀ x∈flatIs π l,∃ ρ,x.path=ρ ++ π
 | [],π,x,hx=>by simp [flatIs] at hx
 | i :: r,π,x,hx=>by
   simp only [flatIs,List.mem_append] at hx
   rcases hx with hx | hx
   · exact flat_path i π x hx
   · exact go r π x hx
theorem foldA_off {O:Ora}{H:Heap}{e:Env} : ∀ {l:List Atom},(∀ x∈l,actv e x.path=some false)→foldA O H e l=some e
 | [],_=>rfl
 | x :: r,h=>by
   simp only [foldA,evA]
   rw [h x (by simp)]
   exact foldA_off fun y hy=>h y (by simp [hy])
theorem actv_frame {e e':Env} : ∀ {π:Path},(∀ q∈π,get e' q.1=get e q.1)→actv e' π=actv e π
 | [],_=>rfl
 | (c,w,s) :: π,h=>by simp only [actv]; rw [actv_frame fun q hq=>h q (by simp [hq]),h (c,w,s) (by simp)]
theorem jn_want (want p:Bool):jn want p true false=(p == want):=by cases want<;>cases p<;>rfl
theorem scEnd_same {want strict p:Bool}{d:Nat}{res alt:Opd}{e1 e1' a b x:Env}(h1:Same e1 e1')(h2:Same a b)(h:scEnd want strict p d res alt e1 (some a)=some x):∃ y,scEnd want strict p d res alt e1' (some b)=some y∧Same x y:=by
 unfold scEnd at h ⊢
 cases strict with
 | true=>
   simp only at h ⊢
   rw [←h2.rho res,←h1.rho alt]
   split at h<;>try (cases h; done)
   injection h with h; subst h
   exact ⟨_,rfl,h1.set _ _⟩
 | false=>
   simp only at h ⊢
   split at h
   · injection h with h; subst h
     rw [←h2.rho res]
     exact ⟨_,rfl,h1.set _ _⟩
   · injection h with h; subst h
     rw [←h1.rho alt]
     exact ⟨_,rfl,h1.set _ _⟩
theorem scEnd_frame {want strict p:Bool}{d:Nat}{res alt:Opd}{e1 x:Env}{r:Option Env}(h:scEnd want strict p d res alt e1 r=some x)(t:Nat)(ht:t≠d):get x t=get e1 t:=by
 unfold scEnd at h
 split at h
 · split at h<;>try (cases h; done)
   split at h<;>try (cases h; done)
   injection h with h; subst h; rw [get_set,if_neg (Ne.symm ht)]
 · split at h
   · split at h<;>try (cases h; done)
     injection h with h; subst h; rw [get_set,if_neg (Ne.symm ht)]
   · injection h with h; subst h; rw [get_set,if_neg (Ne.symm ht)]
mutual
theorem evI_flat (O:Ora)(H:Heap):∀ (i:RI) (π:Path) (e e' ê:Env),wfI i=true→actv ê π=some true→(∀ q∈π,q.1∉dstsI i)→Same e ê→evI O H i e=some e'→
   ∃ ê',foldA O H ê (flatI π i)=some ê'∧Same e' ê'∧(∀ t,t∉dstsI i→get ê' t=get ê t)
 | .op d o,π,e,e',ê,hw,ha,hπ,hse,h=>by
   simp only [evI] at h
   split at h<;>try (cases h; done)
   rename_i v e2 H2 ho
   injection h with h; subst h
   obtain ⟨rfl,rfl⟩:=quiet_eq hw ho
   have:=evOp_congr (e':=ê) hw (fun x _=>(hse.rho x).symm) ho
   refine ⟨set ê d v,by simp only [flatI,foldA,evA,ha,this],hse.set _ _,fun t ht=>?_⟩
   simp only [dstsI,List.mem_singleton] at ht
   rw [get_set,if_neg (Ne.symm ht)]
 | .sc d c want strict blk res alt,π,e,e',ê,hw,ha,hπ,hse,h=>by
   simp only [wfI,Bool.and_eq_true,Bool.not_eq_true'] at hw
   obtain ⟨hc,hw⟩:=hw
   have hc:c∉dsts blk:=fun hh=>by rw [(mem_iff c _).2 hh] at hc; cases hc
   simp only [dstsI,catL_eq,List.mem_append,List.mem_singleton,not_or] at hπ
   simp only [evI] at h
   split at h<;>try (cases h; done)
   rename_i p hp
   have hpc:get ê c = .bool p:=by rw [←hse c]; exact hp
   have fr:∀ {ê1:Env} {x:Env} {r:Option Env},(∀ t,t∉dsts blk→get ê1 t=get ê t)→scEnd want strict p d res alt (wipe (dsts blk) ê1) r=some x→∀ t,t∉dstsI (.sc d c want strict blk res alt)→get x t=get ê t:=fun hf hx t ht=>by
     simp only [dstsI,catL_eq,List.mem_append,List.mem_singleton,not_or] at ht
     rw [scEnd_frame hx t ht.2,get_wipe,if_neg ht.1,hf t ht.1]
   by_cases hgo:(strict || (p == want))=true
   ·
     have hact:actv ê ((c,want,strict) :: π)=some true:=by simp only [actv,ha,hpc,hgo]
     have hblk:∃ e1,evIs O H blk e=some e1∧scEnd want strict p d res alt (wipe (dsts blk) e) (some e1)=some e':=by
       cases hb:evIs O H blk e with
       | none=>
         rw [hb] at h
         unfold scEnd at h
         split at h
         · cases h
         · rw [jn_want] at h
           have:(p == want)=true:=by simpa using hgo
           rw [this] at h; cases h
       | some e1=>rw [hb] at h; exact ⟨e1,rfl,h⟩
     obtain ⟨e1,hb,h⟩:=hblk
     obtain ⟨ê1,g1,g2,g3⟩:=evIs_flat O H blk ((c,want,strict) :: π) e e1 ê hw hact (fun q hq=>by
       simp only [List.mem_cons] at hq
       rcases hq with rfl | hq
       · exact hc
       · exact (hπ q hq).1) hse hb
     have hs1:Same (wipe (dsts blk) e) (wipe (dsts blk) ê1):=fun t=>by
       rw [get_wipe,get_wipe]
       by_cases ht:t∈dsts blk
       · simp [ht]
       · rw [if_neg ht,if_neg ht,g3 t ht,hse t]
     obtain ⟨y,k1,k2⟩:=scEnd_same hs1 g2 h
     have ha1:actv ê1 π=some true:=by rw [actv_frame fun q hq=>g3 q.1 (hπ q hq).1]; exact ha
     refine ⟨y,?_,k2,fr g3 k1⟩
     simp only [flatI]
     rw [foldA_app,g1]
     simp only [foldA,evA,ha1,g3 c hc,hpc,k1]
   · have hst:strict=false:=by cases strict<;>simp_all
     have hpw:(p == want)=false:=by cases h:(p == want)<;>simp_all
     subst hst
     have hoff:foldA O H ê (flatIs ((c,want,false) :: π) blk)=some ê:=foldA_off fun x hx=>by
       obtain ⟨ρ,hρ⟩:=flat_path.go blk _ x hx
       rw [hρ]
       exact actv_off (by simp only [actv,ha,hpc,hpw,Bool.or_false]) ρ
     have h':scEnd want false p d res alt (wipe (dsts blk) e) (some ê)=some e':=by
       unfold scEnd at h ⊢
       rw [jn_want,hpw] at h ⊢
       exact h
     obtain ⟨y,k1,k2⟩:=scEnd_same (hse.wipe (dsts blk)) (Same.refl ê) h'
     refine ⟨y,?_,k2,fr (fun _ _=>rfl) k1⟩
     simp only [flatI]
     rw [foldA_app,hoff]
     simp only [foldA,evA,ha,hpc,k1]
theorem evIs_flat (O:Ora)(H:Heap):∀ (l:List RI) (π:Path) (e e' ê:Env),wfIs l=true→actv ê π=some true→(∀ q∈π,q.1∉dsts l)→Same e ê→evIs O H l e=some e'→
   ∃ ê',foldA O H ê (flatIs π l)=some ê'∧Same e' ê'∧(∀ t,t∉dsts l→get ê' t=get ê t)
 | [],π,e,e',ê,hw,ha,hπ,hse,h=>by
   simp only [evIs] at h
   injection h with h; subst h
   exact ⟨ê,rfl,hse,fun _ _=>rfl⟩
 | i :: r,π,e,e',ê,hw,ha,hπ,hse,h=>by
   simp only [wfIs,Bool.and_eq_true] at hw
   simp only [dsts,catL_eq,List.mem_append,not_or] at hπ
   simp only [evIs] at h
   split at h<;>try (cases h; done)
   rename_i e1 h1
   obtain ⟨ê1,g1,g2,g3⟩:=evI_flat O H i π e e1 ê hw.1 ha (fun q hq=>(hπ q hq).1) hse h1
   have ha1:actv ê1 π=some true:=by rw [actv_frame fun q hq=>g3 q.1 (hπ q hq).1]; exact ha
   obtain ⟨ê2,k1,k2,k3⟩:=evIs_flat O H r π e1 e' ê1 hw.2 ha1 (fun q hq=>(hπ q hq).2) g2 h
   refine ⟨ê2,?_,k2,fun t ht=>?_⟩
   · simp only [flatIs]
     rw [foldA_app,g1]; exact k1
   · simp only [dsts,catL_eq,List.mem_append,not_or] at ht
     rw [k3 t ht.2,g3 t ht.1]
end
mutual
theorem flatI_d:∀ (i:RI) (π:Path),(flatI π i).map (·.d)=dstsI i
 | .op d o,π=>rfl
 | .sc d c want strict blk res alt,π=>by simp only [flatI,List.map_append,flatIs_d blk,dstsI,catL_eq]; rfl
theorem flatIs_d:∀ (l:List RI) (π:Path),(flatIs π l).map (·.d)=dsts l
 | [],π=>rfl
 | i :: r,π=>by simp only [flatIs,List.map_append,flatI_d i,flatIs_d r,dsts,catL_eq]
end
theorem evI_frame {O:Ora}{H:Heap} : ∀ {i:RI} {e e':Env},evI O H i e=some e'→∀ t,t∉dstsI i→get e' t=get e t
 | .op d o,e,e',h,t,ht=>by
   simp only [evI] at h
   split at h<;>try (cases h; done)
   injection h with h; subst h
   simp only [dstsI,List.mem_singleton] at ht
   rw [get_set,if_neg (Ne.symm ht)]
 | .sc d c want strict blk res alt,e,e',h,t,ht=>by
   simp only [evI] at h
   split at h<;>try (cases h; done)
   simp only [dstsI,catL_eq,List.mem_append,List.mem_singleton,not_or] at ht
   rw [scEnd_frame h t ht.2,get_wipe,if_neg ht.1]
theorem evIs_frame {O:Ora}{H:Heap} : ∀ {l:List RI} {e e':Env},evIs O H l e=some e'→∀ t,t∉dsts l→get e' t=get e t
 | [],e,e',h,t,ht=>by simp only [evIs] at h; injection h with h; subst h; rfl
 | i :: r,e,e',h,t,ht=>by
   simp only [evIs] at h
   split at h<;>try (cases h; done)
   rename_i e1 h1
   simp only [dsts,catL_eq,List.mem_append,not_or] at ht
   rw [evIs_frame h t ht.2,evI_frame h1 t ht.1]
theorem evIs_dead {O:Ora}{H:Heap}{π:Path} : ∀ {l:List RI} {e e':Env},(dsts l).Nodup→evIs O H l e=some e'→∀ x∈flatIs π l,x.path≠π→get e' x.d = .dead
 | [],e,e',hn,h,x,hx,hp=>by simp [flatIs] at hx
 | i :: r,e,e',hn,h,x,hx,hp=>by
   simp only [dsts,catL_eq,List.nodup_append] at hn
   obtain ⟨n1,n2,n3⟩:=hn
   simp only [evIs] at h
   split at h<;>try (cases h; done)
   rename_i e1 h1
   simp only [flatIs,List.mem_append] at hx
   rcases hx with hx | hx
   · have hd:x.d∈dstsI i:=by rw [←flatI_d i π]; exact List.mem_map_of_mem hx
     rw [evIs_frame h x.d fun hh=>n3 _ hd _ hh rfl]
     cases i with
     | op d o=>simp only [flatI,List.mem_singleton] at hx; subst hx; exact absurd rfl hp
     | sc d c want strict blk res alt=>
       simp only [flatI,List.mem_append,List.mem_singleton] at hx
       rcases hx with hx | rfl
       · have hb:x.d∈dsts blk:=by rw [←flatIs_d blk ((c,want,strict) :: π)]; exact List.mem_map_of_mem hx
         simp only [evI] at h1
         split at h1<;>try (cases h1; done)
         simp only [dstsI,catL_eq,List.nodup_append] at n1
         rw [scEnd_frame h1 x.d fun e=>n1.2.2 _ hb d (by simp) e,get_wipe,if_pos hb]
       · exact absurd rfl hp
   · exact evIs_dead n2 h x hx hp
end Gs
namespace Gs
open Go
variable [GlobTab]
def pEq:Path→Path→Bool
 | [],[]=>true
 | (a,b,c) :: r,(a',b',c') :: r'=>(a == a') && (b == b') && (c == c') && pEq r r'
 | _,_=>false
theorem pEq_eq:∀ {a b:Path},pEq a b=true→a=b
 | [],[],_=>rfl
 | [],_ :: _,h=>by simp [pEq] at h
 | _ :: _,[],h=>by simp [pEq] at h
 | (a,b,c) :: r,(a',b',c') :: r',h=>by
   simp only [pEq,Bool.and_eq_true,beq_iff_eq] at h
   obtain ⟨⟨⟨rfl,rfl⟩,rfl⟩,h⟩:=h
   rw [pEq_eq h]
def sufB (a:Path):Path→Bool
 | []=>pEq a []
 | q :: b=>pEq a (q :: b) || sufB a b
theorem sufB_mem {a:Path} : ∀ {b:Path},sufB a b=true→∀ q∈a,q∈b
 | [],h,q,hq=>by have:=pEq_eq (show pEq a []=true from h); subst this; exact hq
 | p :: b,h,q,hq=>by
   simp only [sufB,Bool.or_eq_true] at h
   rcases h with h | h
   · have:=pEq_eq h; subst this; exact hq
   · exact List.mem_cons_of_mem _ (sufB_mem h q hq)
abbrev Told:=List (Nat×Nat×Path)
def look:Told→Nat→Option (Nat×Path)
 | [],_=>none
 | (t,m,π) :: r,u=>bif (t == u) then some (m,π) else look r u
theorem look_mem:∀ {S:Told} {u m:Nat} {π:Path},look S u=some (m,π)→(u,m,π)∈S
 | [],u,m,π,h=>by simp [look] at h
 | (t,k,ρ) :: r,u,m,π,h=>by
   simp only [look] at h
   by_cases e:t=u
   · subst e; simp at h; obtain ⟨rfl,rfl⟩:=h; simp
   · rw [nbeq e] at h; exact List.mem_cons_of_mem _ (look_mem h)
section
variable (all:List Nat) (n:Nat) (bef:Nat→Nat→Bool)
def okUse (S:Told)(k:Nat)(π:Path)(t:Nat):Bool:=
 decide (t < n) && (match look S t with
   | some (m,ρ)=>bef k m && sufB ρ π
   | none=>!mem t all)
def okOpd (S:Told)(k:Nat)(π:Path):Opd→Bool
 | .t t=>okUse all n bef S k π t
 | .c _=>true
def okOpds (S:Told)(k:Nat)(π:Path):List Opd→Bool
 | []=>true
 | x :: r=>okOpd all n bef S k π x && okOpds S k π r
def okPath (S:Told)(k:Nat):Path→Bool
 | []=>true
 | (c,_,_) :: π=>decide (c < n) && (match look S c with
   | some (m,ρ)=>bef k m && pEq ρ π
   | none=>!mem c all && pEq π []) && okPath S k π
def notIn (wl:List Nat):Opd→Bool
 | .t t=>!mem t wl
 | .c _=>true
def chkA (S:Told)(k:Nat)(x:Atom):Bool:=
 okPath all n bef S k x.path && (match x.leaf with
   | .op ro=>quietO ro && okOpds all n bef S k x.path (opds ro)
   | .pk c want strict res alt wl=>okPath all n bef S k ((c,want,strict) :: x.path) && okOpd all n bef S k ((c,want,strict) :: x.path) res && okOpd all n bef S k x.path alt && notIn wl alt && allMem all wl)
def drop (wl:List Nat):Told→Told
 | []=>[]
 | (t,m,π) :: r=>bif mem t wl then drop wl r else (t,m,π) :: drop wl r
def nextS (S:Told)(k:Nat)(x:Atom):Told:=
 match x.leaf with
 | .op _=>(x.d,k,x.path) :: S
 | .pk _ _ _ _ _ wl=>(x.d,k,x.path) :: drop wl S
def chkAll:Told→Nat→List Atom→Bool
 | _,_,[]=>true
 | S,k,x :: r=>chkA all n bef S k x && chkAll (nextS S k x) (k + 1) r
variable (atoms:List Atom)
def Seen (k:Nat)(π:Path)(t:Nat):Prop:=t < n∧(t∉all∨∃ m y,atoms[m]?=some y∧y.d=t∧(∀ q∈y.path,q∈π)∧bef k m=true)
def SeenX (k:Nat)(π:Path):Opd→Prop
 | .t t=>Seen all n bef atoms k π t
 | .c _=>True
def SeenP (V:Nat→D)(k:Nat):Path→Prop
 | []=>True
 | (c,w,s) :: π=>c < n∧((∀ q∈π,V q.1 = .bool q.2.1)→∃ p,V c = .bool p)∧((c∉all∧π=[])∨∃ m y,atoms[m]?=some y∧y.d=c∧y.path=π∧bef k m=true)
def rhoV (V:Nat→D):Opd→D
 | .t t=>V t
 | .c d=>d
def RA (V:Nat→D)(π:Path):Prop:=∀ q∈π,V q.1 = .bool q.2.1
def GoodAt (O:Ora)(H:Heap)(V:Nat→D)(k:Nat)(x:Atom):Prop:=
 SeenP all n bef atoms V k x.path∧(match x.leaf with
   | .op ro=>quietO ro=true∧(∀ y∈opds ro,SeenX all n bef atoms k x.path y)∧(RA V x.path→∀ ê:Env,(∀ y∈opds ro,rho ê y=rhoV V y)→evOp O ê H ro=some (V x.d,ê,H))
   | .pk c want strict res alt wl=>SeenP all n bef atoms V k ((c,want,strict) :: x.path)∧SeenX all n bef atoms k ((c,want,strict) :: x.path) res∧SeenX all n bef atoms k x.path alt∧
       (RA V x.path→∀ p,V c = .bool p→(p=want→V x.d=rhoV V res)∧(p≠want→V x.d=rhoV V alt)))
end
theorem actv_RA {E:Env} : ∀ {π:Path},(∀ q∈π,get E q.1 = .bool q.2.1)→actv E π=some true
 | [],_=>rfl
 | (c,w,s) :: π,h=>by
   simp only [actv]
   rw [actv_RA fun q hq=>h q (by simp [hq]),h (c,w,s) (by simp)]
   simp
theorem drop_mem {wl:List Nat}{S:Told}{t m:Nat}{π:Path}(h:(t,m,π)∈drop wl S):(t,m,π)∈S∧t∉wl:=by
 induction S with
 | nil=>simp [drop] at h
 | cons p r ih=>
   obtain ⟨a,b,c⟩:=p
   simp only [drop] at h
   cases hm:mem a wl with
   | true=>rw [hm] at h; exact ⟨List.mem_cons_of_mem _ (ih h).1,(ih h).2⟩
   | false=>
     rw [hm] at h
     simp only [cond_false,List.mem_cons,Prod.mk.injEq] at h
     rcases h with ⟨rfl,rfl,rfl⟩ | h
     · exact ⟨by simp,fun hh=>by rw [(mem_iff _ _).2 hh] at hm; cases hm⟩
     · exact ⟨List.mem_cons_of_mem _ (ih h).1,(ih h).2⟩
theorem evA_frame {O:Ora}{H:Heap}{E E1:Env}{x:Atom}(h:evA O H E x=some E1){t:Nat}(ht:t≠x.d)(hw:∀ c want strict res alt wl,x.leaf = .pk c want strict res alt wl→t∉wl):get E1 t=get E t:=by
 unfold evA at h
 split at h
 · split at h
   · split at h<;>try (cases h; done)
     injection h with h; subst h; rw [get_set,if_neg (Ne.symm ht)]
   · rename_i c want strict res alt wl hl
     split at h<;>try (cases h; done)
     rw [scEnd_frame h t ht,get_wipe,if_neg (hw _ _ _ _ _ _ hl)]
 · injection h with h; subst h; rfl
 · cases h
section
variable {all:List Nat} {n:Nat} {bef:Nat→Nat→Bool} {atoms:List Atom} {O:Ora} {H:Heap}
theorem not_mem_of {l:List Nat}{t:Nat}(h:(!mem t l)=true):t∉l:=fun hh=>by rw [(mem_iff _ _).2 hh] at h; cases h
theorem good (hnd:(atoms.map (·.d)).Nodup)(hall:∀ x∈atoms,x.d∈all)(e:Env):∀ (rest pre:List Atom) (S:Told) (E E':Env) (V:Nat→D),pre ++ rest=atoms→
   (∀ t m π,(t,m,π)∈S→(∃ y,atoms[m]?=some y∧y.d=t∧y.path=π)∧t∉rest.map (·.d)∧get E t=V t)→(∀ t,t∉all→V t=get e t∧get E t=get e t)→(∀ t,get E t=V t∨get E t = .dead)→
   chkAll all n bef S pre.length rest=true→foldA O H E rest=some E'→
   ∃ V',(∀ t,t∉rest.map (·.d)→V' t=V t)∧(∀ t,get E' t=V' t∨get E' t = .dead)∧∀ j x,rest[j]?=some x→GoodAt all n bef atoms O H V' (pre.length + j) x
 | [],pre,S,E,E',V,_,_,_,i3,_,hf=>by
   simp only [foldA] at hf
   injection hf with hf; subst hf
   exact ⟨V,fun _ _=>rfl,i3,fun j x h=>by simp at h⟩
 | x :: r, pre, S, E, E', V, hp, i1, i2, i3, hc, hf => by
   simp only [chkAll,Bool.and_eq_true] at hc
   obtain ⟨hx,hc⟩:=hc
   simp only [foldA] at hf
   split at hf<;>try (cases hf; done)
   rename_i E1 hE
   have hxa:atoms[pre.length]?=some x:=by rw [←hp]; simp
   have hxall:x.d∈all:=hall x (List.mem_of_getElem? hxa)
   have hnd':x.d∉r.map (·.d):=by
     rw [←hp,List.map_append,List.nodup_append] at hnd
     simpa using (List.nodup_cons.1 hnd.2.1).1
   have hrall:∀ t,t∈r.map (·.d)→t∈all:=fun t ht=>by
     obtain ⟨y,hy,rfl⟩:=List.mem_map.1 ht
     exact hall y (by rw [←hp]; simp [hy])
   have hwl:∀ c want strict res alt wl,x.leaf = .pk c want strict res alt wl→∀ t,t∈wl→t∈all:=fun c want strict res alt wl hl t ht=>by
     simp only [chkA,hl,Bool.and_eq_true] at hx
     exact (allMem_iff _ _).1 hx.2.2 t ht
   let V1:Nat→D:=fun t=>if t=x.d then get E1 x.d else V t
   obtain ⟨V',v1,v3,v2⟩:=good hnd hall e r (pre ++ [x]) (nextS S pre.length x) E1 E' V1 (by rw [←hp]; simp) (fun t m π h=>by
       have hold:(t,m,π)∈S→(∀ c want strict res alt wl,x.leaf = .pk c want strict res alt wl→t∉wl)→(∃ y,atoms[m]?=some y∧y.d=t∧y.path=π)∧t∉r.map (·.d)∧get E1 t=V1 t:=fun h hw=>by
         obtain ⟨g1,g2,g3⟩:=i1 t m π h
         simp only [List.map_cons,List.mem_cons,not_or] at g2
         exact ⟨g1,g2.2,by simp only [V1]; rw [if_neg g2.1,evA_frame hE g2.1 hw,g3]⟩
       have hnew:(t,m,π)=(x.d,pre.length,x.path)→(∃ y,atoms[m]?=some y∧y.d=t∧y.path=π)∧t∉r.map (·.d)∧get E1 t=V1 t:=fun h=>by
         injection h with h1 h2; injection h2 with h2 h3; subst h1; subst h2; subst h3
         exact ⟨⟨x,hxa,rfl,rfl⟩,hnd',by simp [V1]⟩
       unfold nextS at h
       split at h
       · rename_i ro hl
         rcases List.mem_cons.1 h with h | h
         · exact hnew h
         · exact hold h fun c want strict res alt wl hl'=>by rw [hl] at hl'; cases hl'
       · rename_i c want strict res alt wl hl
         rcases List.mem_cons.1 h with h | h
         · exact hnew h
         · exact hold (drop_mem h).1 fun c' want' strict' res' alt' wl' hl'=>by rw [hl] at hl'; injection hl' with _ _ _ _ _ e; subst e; exact (drop_mem h).2) (fun t ht=>by
       have hne:t≠x.d:=fun e=>ht (e ▸ hxall)
       refine ⟨by simp only [V1]; rw [if_neg hne]; exact (i2 t ht).1,?_⟩
       rw [evA_frame hE hne fun c want strict res alt wl hl hh=>ht (hwl _ _ _ _ _ _ hl t hh)]
       exact (i2 t ht).2) (fun t=>by
       by_cases hne:t=x.d
       · subst hne; exact .inl (by simp [V1])
       · simp only [V1]; rw [if_neg hne]
         by_cases hw:∀ c want strict res alt wl,x.leaf = .pk c want strict res alt wl→t∉wl
         · rw [evA_frame hE hne hw]; exact i3 t
         · simp only [Classical.not_forall,Classical.not_not] at hw
           obtain ⟨c,want,strict,res,alt,wl,hl,hwt⟩:=hw
           unfold evA at hE
           split at hE
           · rw [hl] at hE
             simp only at hE
             split at hE<;>try (cases hE; done)
             exact .inr (by rw [scEnd_frame hE t hne,get_wipe,if_pos hwt])
           · injection hE with hE; subst hE; exact i3 t
           · cases hE) (by simpa using hc) hf
   have hV:∀ t,t∉r.map (·.d)→t≠x.d→V' t=V t:=fun t h1 h2=>by rw [v1 t h1]; simp only [V1]; rw [if_neg h2]
   have hVx:V' x.d=get E1 x.d:=by rw [v1 x.d hnd']; simp [V1]
   have hVold:∀ t m π,(t,m,π)∈S→V' t=get E t:=fun t m π h=>by
     obtain ⟨_,g2,g3⟩:=i1 t m π h
     simp only [List.map_cons,List.mem_cons,not_or] at g2
     rw [hV t g2.2 g2.1,g3]
   have hVout:∀ t,t∉all→V' t=get E t:=fun t ht=>by
     rw [hV t (fun h=>ht (hrall t h)) fun e=>ht (e ▸ hxall),(i2 t ht).1,(i2 t ht).2]
   have use:∀ π t,okUse all n bef S pre.length π t=true→V' t=get E t∧Seen all n bef atoms pre.length π t:=fun π t h=>by
     simp only [okUse,Bool.and_eq_true,decide_eq_true_eq] at h
     obtain ⟨h0,h⟩:=h
     split at h
     · rename_i m ρ hl
       simp only [Bool.and_eq_true] at h
       have hm:=look_mem hl
       obtain ⟨⟨y,y1,y2,y3⟩,_⟩:=i1 t m ρ hm
       exact ⟨hVold t m ρ hm,h0,.inr ⟨m,y,y1,y2,by rw [y3]; exact sufB_mem h.2,h.1⟩⟩
     · have ht:=not_mem_of h
       exact ⟨hVout t ht,h0,.inl ht⟩
   have useX:∀ π y,okOpd all n bef S pre.length π y=true→rhoV V' y=rho E y∧SeenX all n bef atoms pre.length π y:=fun π y h=>by
     cases y with
     | t t=>exact use π t h
     | c d=>exact ⟨rfl,trivial⟩
   have useXs:∀ π l,okOpds all n bef S pre.length π l=true→∀ y∈l,rhoV V' y=rho E y∧SeenX all n bef atoms pre.length π y:=fun π l=>by
     induction l with
     | nil=>intro _ y hy; simp at hy
     | cons z r ih=>
       intro h y hy
       simp only [okOpds,Bool.and_eq_true] at h
       rcases List.mem_cons.1 hy with rfl | hy
       · exact useX π _ h.1
       · exact ih h.2 y hy
   have usePv:∀ π,okPath all n bef S pre.length π=true→∀ q∈π,V' q.1=get E q.1:=fun π=>by
     induction π with
     | nil=>intro _ q hq; simp at hq
     | cons p π ih=>
       obtain ⟨c,w,s⟩:=p
       intro h q hq
       simp only [okPath,Bool.and_eq_true] at h
       obtain ⟨⟨_,h1⟩,h2⟩:=h
       rcases List.mem_cons.1 hq with rfl | hq
       · split at h1
         · rename_i m ρ hl; exact hVold _ m ρ (look_mem hl)
         · simp only [Bool.and_eq_true] at h1; exact hVout _ (not_mem_of h1.1)
       · exact ih h2 q hq
   have usePs:∀ π,okPath all n bef S pre.length π=true→(∀ c w s π',π=(c,w,s) :: π'→(∀ q∈π',V' q.1 = .bool q.2.1)→∃ p,V' c = .bool p)→SeenP all n bef atoms V' pre.length π:=fun π h hb=>by
     cases π with
     | nil=>trivial
     | cons p π=>
       obtain ⟨c,w,s⟩:=p
       simp only [okPath,Bool.and_eq_true,decide_eq_true_eq] at h
       obtain ⟨⟨h0,h1⟩,h2⟩:=h
       refine ⟨h0,hb c w s π rfl,?_⟩
       split at h1
       · rename_i m ρ hl
         simp only [Bool.and_eq_true] at h1
         obtain ⟨⟨y,y1,y2,y3⟩,_⟩:=i1 _ m ρ (look_mem hl)
         exact .inr ⟨m,y,y1,y2,by rw [y3]; exact pEq_eq h1.2,h1.1⟩
       · simp only [Bool.and_eq_true] at h1
         exact .inl ⟨not_mem_of h1.1,pEq_eq h1.2⟩
   have hpath:okPath all n bef S pre.length x.path=true:=by simp only [chkA,Bool.and_eq_true] at hx; exact hx.1
   have hact:RA V' x.path→actv E x.path=some true:=fun h=>actv_RA fun q hq=>by rw [←usePv _ hpath q hq]; exact h q hq
   have hfirst : GoodAt all n bef atoms O H V' pre.length x := by
     refine ⟨usePs _ hpath fun c w s π' hπ hra=>?_,?_⟩
     · have h1:actv E π'=some true:=actv_RA fun q hq=>by
         rw [←usePv _ hpath q (by rw [hπ]; simp [hq])]; exact hra q hq
       rw [usePv _ hpath (c,w,s) (by rw [hπ]; simp)]
       unfold evA at hE
       rw [hπ] at hE
       simp only [actv,h1] at hE
       cases hg:get E c<;>rw [hg] at hE<;>simp at hE
       exact ⟨_,rfl⟩
     · cases hl:x.leaf with
       | op ro=>
         simp only [chkA,hl,Bool.and_eq_true] at hx
         refine ⟨hx.2.1,fun y hy=>(useXs _ _ hx.2.2 y hy).2,fun hra ê hê=>?_⟩
         simp only [evA,hact hra,hl] at hE
         split at hE<;>try (cases hE; done)
         rename_i v e2 H2 hop
         injection hE with hE
         obtain ⟨rfl,rfl⟩:=quiet_eq hx.2.1 hop
         rw [hVx,←hE,get_set,if_pos rfl]
         exact evOp_congr hx.2.1 (fun y hy=>by rw [hê y hy,(useXs _ _ hx.2.2 y hy).1]) hop
       | pk c want strict res alt wl=>
         simp only [chkA,hl,Bool.and_eq_true] at hx
         obtain ⟨_,⟨⟨⟨k1,k2⟩,k3⟩,k4⟩,k5⟩:=hx
         refine ⟨usePs _ k1 fun c' w' s' π' hπ hra=>?_,(useX _ _ k2).2,(useX _ _ k3).2,fun hra p hp=>?_⟩
         · injection hπ with h1 h2; injection h1 with h1 _; subst h1; subst h2
           simp only [evA,hact hra,hl] at hE
           rw [usePv _ k1 (c,want,strict) (by simp)]
           cases hg:get E c<;>rw [hg] at hE<;>simp at hE
           exact ⟨_,rfl⟩
         · simp only [evA,hact hra,hl] at hE
           have hpE:get E c = .bool p:=by rw [←usePv _ k1 (c,want,strict) (by simp)]; exact hp
           rw [hpE] at hE
           simp only at hE
           have ha:rho (wipe wl E) alt=rho E alt:=by
             cases alt with
             | t t=>simp only [rho]; rw [get_wipe,if_neg (not_mem_of k4)]
             | c d=>rfl
           rw [hVx,(useX _ _ k2).1,(useX _ _ k3).1]
           unfold scEnd at hE
           cases strict
           case true=>
             simp only at hE
             split at hE<;>try (cases hE; done)
             rename_i q r' hq hr
             injection hE with hE
             rw [ha] at hr
             rw [←hE,get_set,if_pos rfl]
             refine ⟨fun e=>?_,fun e=>?_⟩
             · subst e; rw [hq]; cases p<;>rfl
             · rw [hr]; cases p<;>cases want<;>first | rfl | exact absurd rfl e
           case false=>
             simp only at hE
             rw [jn_want] at hE
             split at hE
             · rename_i hpw
               injection hE with hE
               rw [←hE,get_set,if_pos rfl]
               exact ⟨fun _=>rfl,fun e=>absurd (by simpa using hpw) e⟩
             · rename_i hpw
               injection hE with hE
               rw [←hE,get_set,if_pos rfl,ha]
               exact ⟨fun e=>by subst e; simp at hpw,fun _=>rfl⟩
   refine ⟨V',fun t ht=>?_,v3,fun j y hj=>?_⟩
   · simp only [List.map_cons,List.mem_cons,not_or] at ht
     exact hV t ht.2 ht.1
   · cases j with
     | zero=>simp at hj; subst hj; exact hfirst
     | succ j=>
       have:=v2 j y (by simpa using hj)
       simpa [Nat.add_assoc,Nat.add_comm 1 j] using this
end
end Gs
namespace Gs
open Go
variable [GlobTab]
def ofFun (f:Nat→D):Nat→Env
 | 0=>[]
 | n + 1=>(n,f n) :: ofFun f n
theorem get_ofFun (f:Nat→D):∀ (n t:Nat),get (ofFun f n) t=if t < n then f t else .dead
 | 0,t=>by simp [ofFun,get]
 | n + 1,t=>by
   simp only [ofFun,get]
   by_cases h:n=t
   · subst h; simp
   · rw [nbeq h,cond_false,get_ofFun f n t]
     by_cases h1:t < n
     · rw [if_pos h1,if_pos (by omega)]
     · rw [if_neg h1,if_neg (by omega)]
def Match (P:Program)(n:Nat)(ops:Array Oper)(i:Nat)(x:Atom):Prop:=
 ∃ o,ops[i]?=some o∧(match o.dst with | some d=>d=x.d∧d < n | none=>n≤x.d)∧
   (match x.path with | []=>o.guard=none | (c,w,_) :: _=>∃ j g,o.guard=some (j,w)∧ops[j]?=some g∧g.dst=some c)∧
   (match x.leaf with
     | .op ro=>okOp P n o.op ro=true
     | .pk c want strict res alt wl=>okOp P n o.op (.pick (.t c) (if want then res else alt) (if want then alt else res))=true)
section
variable {P:Program} {w0:World0} {K0:Km} {n:Nat} {bef:Nat→Nat→Bool} {all:List Nat} {atoms:List Atom} {O:Ora} {H:Heap} {V:Nat→D} {e:Env} {ops:Array Oper} {s:Nat}
open Classical in
noncomputable def fL (all:List Nat) (atoms:List Atom) (V:Nat→D) (e:Env) (L:List Nat) (t:Nat):D:=
 if t∈all then (if ∃ k∈L,∃ x,atoms[k]?=some x∧x.d=t∧RA V x.path then V t else .dead) else get e t
theorem fL_out {L:List Nat}{t:Nat}(h:t∉all):fL all atoms V e L t=get e t:=by simp only [fL]; rw [if_neg h]
theorem fL_in {L:List Nat}{t m:Nat}{y:Atom}(hm:m∈L)(hy:atoms[m]?=some y)(hd:y.d=t)(hr:RA V y.path)(hV:∀ t,t∉all→V t=get e t):fL all atoms V e L t=V t:=by
 simp only [fL]
 by_cases h:t∈all
 · rw [if_pos h,if_pos ⟨m,hm,y,hy,hd,hr⟩]
 · rw [if_neg h,hV t h]
theorem fL_cons_ne {L:List Nat}{t k:Nat}{x:Atom}(hx:atoms[k]?=some x)(ht:t≠x.d):fL all atoms V e (k :: L) t=fL all atoms V e L t:=by
 simp only [fL]
 by_cases h:t∈all
 · rw [if_pos h,if_pos h]
   have:(∃ k'∈k :: L,∃ x,atoms[k']?=some x∧x.d=t∧RA V x.path)↔(∃ k'∈L,∃ x,atoms[k']?=some x∧x.d=t∧RA V x.path):=by
     constructor
     · rintro ⟨k',hk,y,h1,h2,h3⟩
       rcases List.mem_cons.1 hk with rfl | hk
       · rw [hx] at h1; injection h1 with h1; subst h1; exact absurd h2.symm ht
       · exact ⟨k',hk,y,h1,h2,h3⟩
     · rintro ⟨k',hk,y,h⟩; exact ⟨k',List.mem_cons_of_mem _ hk,y,h⟩
   by_cases hh:∃ k'∈L,∃ x,atoms[k']?=some x∧x.d=t∧RA V x.path
   · rw [if_pos (this.2 hh),if_pos hh]
   · rw [if_neg fun h=>hh (this.1 h),if_neg hh]
 · rw [if_neg h,if_neg h]
def Inv (w0:World0)(K0:Km)(n:Nat)(all:List Nat)(atoms:List Atom)(H:Heap)(V:Nat→D)(e:Env)(df:List Deferred)(L:List Nat)(a:Act)(w:World):Prop:=
 a.defers=df∧∃ K Q,Sim w0 K0 K Q H w∧(n≤a.tmps.size∧GlobOk Q)∧(∀ t,t < n→Rel K Q (fL all atoms V e L t) (a.tmps.getD t undef))∧
   ∀ k∈L,∀ x,atoms[k]?=some x→¬ RA V x.path→x.d < n→a.tmps.getD x.d undef=undef
theorem pick_eq {e:Env}{c:Nat}{p:Bool}{X Y:Opd}(h:rho e (.t c) = .bool p):evOp O e H (.pick (.t c) X Y)=some (bif p then rho e X else rho e Y,e,H):=by
 simp only [evOp,h]
 split
 · rename_i u v hu hv; rw [hu,hv]; cases p<;>rfl
 · cases p<;>rfl
theorem put_getD {a:Act}{d:Nat}{v:Value}{t:Nat} : (a.put (some d) v).tmps.getD t undef=if d=t∧t < a.tmps.size then v else a.tmps.getD t undef:=by
 simp only [Act.put]
 by_cases h:d=t
 · subst h
   by_cases h1:d < a.tmps.size
   · simp [h1]
   · simp [h1]
 · simp [h,Array.getElem?_setIfInBounds_ne h]
def boolOf:Value→Option Bool
 | .bool b=>some b
 | _=>none
theorem yield_of {a:Act}{j c:Nat}{g:Oper}(hg:ops[j]?=some g)(hd:g.dst=some c){v:Value}(hv:a.tmps.getD c undef=v)(hc:c < a.tmps.size):yielded ops a.tmps j=boolOf v:=by
 have:a.tmps[c]?=some v:=by simp [hc] at hv ⊢; exact hv
 simp only [yielded,hg,hd,Option.bind_some,this]
 cases v<;>rfl
theorem step_ok (hnd:(atoms.map (·.d)).Nodup)(hall:∀ x∈atoms,x.d∈all)(hV:∀ t,t∉all→V t=get e t)(hO:∀ g as Hc r Ho,O.call g as Hc=some (r,Ho)→Gives P g as Hc r Ho)
   {Hj:Heap} {i k:Nat} {x:Atom} (hx:atoms[k]?=some x) (hg:GoodAt all n bef atoms O H V k x) (hH:∀ ro,x.leaf = .op ro→∀ ê v,evOp O ê H ro=some (v,ê,H)→evOp O ê Hj ro=some (v,ê,Hj)) (hm:Match P n ops i x) {df:List Deferred} {L:List Nat} (hk:k∉L) (hb:∀ m,bef k m=true→m∈L) {a:Act} {w:World}
   (hi:Inv w0 K0 n all atoms Hj V e df L a w) {Kont:Act→World→Prop} {Qx:Exit→Act→World→Prop} (hn:∀ a' w',Inv w0 K0 n all atoms Hj V e df (k :: L) a' w'→Kont a' w'):wpOp P ops Qx i Kont a w:=by
 obtain ⟨o,ho,hdst,hguard,hleaf⟩:=hm
 obtain ⟨hdf,K,Q,hs,hsz,hr,hu⟩:=hi
 have hsz1:=hsz.1
 obtain ⟨hp,hg⟩:=hg
 have hxall:x.d∈all:=hall x (List.mem_of_getElem? hx)
 have seen:∀ π t,Seen all n bef atoms k π t→RA V π→fL all atoms V e L t=V t∧t < n:=fun π t h hra=>by
   obtain ⟨h0,h⟩:=h
   refine ⟨?_,h0⟩
   rcases h with h | ⟨m,y,h1,h2,h3,h4⟩
   · rw [fL_out h,hV t h]
   · exact fL_in (hb m h4) h1 h2 (fun q hq=>hra q (h3 q hq)) hV
 have seenX:∀ π y,SeenX all n bef atoms k π y→RA V π→rho (ofFun (fL all atoms V e L) n) y=rhoV V y:=fun π y h hra=>by
   cases y with
   | t t=>
     obtain ⟨h1,h2⟩:=seen π t h hra
     simp only [rho,rhoV]; rw [get_ofFun,if_pos h2,h1]
   | c d=>rfl
 have seenC:∀ c w' s' π,SeenP all n bef atoms V k ((c,w',s') :: π)→RA V π→∃ p,V c = .bool p∧c < n∧a.tmps.getD c undef = .bool p∧fL all atoms V e L c=V c:=fun c w' s' π h hra=>by
   obtain ⟨h0,h1,h2⟩:=h
   obtain ⟨p,hpv⟩:=h1 hra
   have hf:fL all atoms V e L c=V c:=by
     rcases h2 with ⟨h2,_⟩ | ⟨m,y,y1,y2,y3,y4⟩
     · rw [fL_out h2,hV c h2]
     · exact fL_in (hb m y4) y1 y2 (by rw [y3]; exact hra) hV
   have:=hr c h0
   rw [hf,hpv] at this
   exact ⟨p,hpv,h0,this.bool_inv,hf⟩
 have hE:RelE K Q n (ofFun (fL all atoms V e L) n) a.tmps:=⟨hsz,fun t ht=>by rw [get_ofFun,if_pos ht]; exact hr t ht⟩
 have fin:∀ (v:Value) (K':Km) (Q':Pm) (w':World),Sim w0 K0 K' Q' Hj w'→(∀ t,t < n→t≠x.d→Rel K' Q' (fL all atoms V e L t) (a.tmps.getD t undef))→Rel K' Q' (fL all atoms V e (k :: L) x.d) v→(¬ RA V x.path→v=undef)→GlobOk Q'→Kont (a.put o.dst v) w':=by
   intro v K' Q' w' h1 h2 h3 h4 h5
   have hother:∀ t,t < n→t≠x.d→(a.put o.dst v).tmps.getD t undef=a.tmps.getD t undef:=fun t ht hne=>by
     cases hd:o.dst with
     | none=>rfl
     | some d=>
       rw [hd] at hdst
       rw [put_getD,if_neg fun hh=>hne (hdst.1 ▸ hh.1.symm)]
   have hself:x.d < n→(a.put o.dst v).tmps.getD x.d undef=v:=fun ht=>by
     cases hd:o.dst with
     | none=>rw [hd] at hdst; simp only at hdst; omega
     | some d=>
       rw [hd] at hdst
       rw [put_getD,if_pos ⟨hdst.1,by omega⟩]
   refine hn _ _ ⟨?_,K',Q',h1,?_,fun t ht=>?_,fun k' hk' y hy hra hyn=>?_⟩
   · cases o.dst<;>exact hdf
   · exact ⟨by cases o.dst<;>simp [Act.put,hsz1],h5⟩
   · by_cases e:t=x.d
     · subst e; rw [hself ht]; exact h3
     · rw [hother t ht e,fL_cons_ne hx e]; exact h2 t ht e
   · rcases List.mem_cons.1 hk' with rfl | hk'
     · rw [hx] at hy; injection hy with hy; subst hy
       rw [hself hyn]; exact h4 hra
     · have hne:y.d≠x.d:=fun e=>by
         have h5:(atoms.map (·.d))[k']?=some y.d:=by simp [hy]
         have h6:(atoms.map (·.d))[k]?=some y.d:=by simp [hx,e]
         have hl5:=(List.getElem?_eq_some_iff.1 h5)
         have hl6:=(List.getElem?_eq_some_iff.1 h6)
         have:=(List.getElem_inj hnd (h₀:=hl5.1) (h₁:=hl6.1)).1 (hl5.2.trans hl6.2.symm)
         exact hk (this ▸ hk')
       rw [hother y.d hyn hne]; exact hu k' hk' y hy hra hyn
 unfold wpOp
 simp only [ho]
 by_cases hra:RA V x.path
 · have hwant:Region.wanted o (yielded ops a.tmps)=true:=by
     unfold Region.wanted
     cases hpa:x.path with
     | nil=>rw [hpa] at hguard; simp only at hguard; rw [hguard]
     | cons q π=>
       obtain ⟨c,w',s'⟩:=q
       rw [hpa] at hguard hp hra
       simp only at hguard
       obtain ⟨j,g,g1,g2,g3⟩:=hguard
       obtain ⟨p,p1,p2,p3,_⟩:=seenC c w' s' π hp fun q hq=>hra q (by simp [hq])
       rw [g1]
       simp only
       rw [yield_of g2 g3 p3 (by omega)]
       have:=hra (c,w',s') (by simp)
       simp only at this
       rw [p1] at this; injection this with this; subst this
       simp [boolOf]
   rw [if_pos hwant]
   refine .inl ?_
   have hfx:fL all atoms V e (k :: L) x.d=V x.d:=fL_in (List.mem_cons_self ..) hx rfl hra hV
   have run:∀ ro,okOp P n o.op ro=true→evOp O (ofFun (fL all atoms V e L) n) Hj ro=some (V x.d,ofFun (fL all atoms V e L) n,Hj)→o.wp P a w Kont Qx:=fun ro h1 h2=>by
     refine evOp_ok hO h1 h2 hs hE Kont Qx fun v K' Q' w' k1 k2 k3 k4=>?_
     refine fin v K' Q' w' k1 (fun t ht hne=>?_) (by rw [hfx]; exact k3) (fun h=>absurd hra h) k2.1.2
     have:=k2.2 t ht
     rwa [get_ofFun,if_pos ht] at this
   cases hl:x.leaf with
   | op ro=>
     rw [hl] at hg hleaf
     obtain ⟨_,g2,g3⟩:=hg
     exact run ro hleaf (hH ro hl _ _ (g3 hra _ fun y hy=>seenX _ y (g2 y hy) hra))
   | pk c want strict res alt wl=>
     rw [hl] at hg hleaf
     obtain ⟨g1,g2,g3,g4⟩:=hg
     obtain ⟨p,p1,p2,p3,p4⟩:=seenC c want strict x.path g1 hra
     obtain ⟨v1,v2⟩:=g4 hra p p1
     have hc:rho (ofFun (fL all atoms V e L) n) (.t c) = .bool p:=by simp only [rho]; rw [get_ofFun,if_pos p2,p4,p1]
     refine run _ hleaf ?_
     rw [pick_eq hc]
     by_cases hpw:p=want
     · have hra':RA V ((c,want,strict) :: x.path):=fun q hq=>by
         rcases List.mem_cons.1 hq with rfl | hq
         · simp only; rw [p1,hpw]
         · exact hra q hq
       rw [v1 hpw,←seenX _ res g2 hra']
       subst hpw
       cases p<;>rfl
     · rw [v2 hpw,←seenX _ alt g3 hra]
       cases p<;>cases want<;>first | rfl | exact absurd rfl hpw
 · have hwant:Region.wanted o (yielded ops a.tmps)=false:=by
     unfold Region.wanted
     cases hpa:x.path with
     | nil=>exact absurd (fun q hq=>by rw [hpa] at hq; simp at hq) hra
     | cons q π=>
       obtain ⟨c,w',s'⟩:=q
       rw [hpa] at hguard hp hra
       simp only at hguard
       obtain ⟨j,g,g1,g2,g3⟩:=hguard
       rw [g1]
       simp only
       by_cases hπ:RA V π
       · obtain ⟨p,p1,p2,p3,_⟩:=seenC c w' s' π hp hπ
         rw [yield_of g2 g3 p3 (by omega)]
         have:p≠w':=fun e=>hra fun q hq=>by
           rcases List.mem_cons.1 hq with rfl | hq
           · simp only; rw [p1,e]
           · exact hπ q hq
         simpa [boolOf] using this
       · obtain ⟨h0,_,h2⟩:=hp
         rcases h2 with ⟨_,h2⟩ | ⟨m,y,y1,y2,y3,y4⟩
         · exact absurd (fun q hq=>by rw [h2] at hq; simp at hq) hπ
         · have:=hu m (hb m y4) y y1 (by rw [y3]; exact hπ) (by rw [y2]; exact h0)
           rw [y2] at this
           rw [yield_of g2 g3 this (by omega)]
           rfl
   rw [hwant]
   simp only [Bool.false_eq_true,if_false]
   refine fin undef K Q w hs (fun t ht _=>hr t ht) ?_ (fun _=>rfl) hsz.2
   have:fL all atoms V e (k :: L) x.d = .dead:=by
     simp only [fL]
     rw [if_pos hxall,if_neg]
     rintro ⟨k',_,y,h1,h2,h3⟩
     have h5:(atoms.map (·.d))[k']?=some x.d:=by simp [h1,h2]
     have h6:(atoms.map (·.d))[k]?=some x.d:=by simp [hx]
     have hl5:=(List.getElem?_eq_some_iff.1 h5)
     have hl6:=(List.getElem?_eq_some_iff.1 h6)
     have:=(List.getElem_inj hnd (h₀:=hl5.1) (h₁:=hl6.1)).1 (hl5.2.trans hl6.2.symm)
     subst this
     rw [hx] at h1; injection h1 with h1; subst h1
     exact hra h3
   rw [this]; exact .dead _
end
end Gs
namespace Gs
open Go
variable [GlobTab]
inductive HeadEq:Option Blk→Option Blk→Prop
 | none:HeadEq none none
 | box (cs fr cs' fr'):HeadEq (some (.box cs fr)) (some (.box cs' fr'))
 | itr (s p s' p'):HeadEq (some (.itr s p)) (some (.itr s' p'))
 | mapB (cs fr cs' fr'):HeadEq (some (.mapB cs fr)) (some (.mapB cs' fr'))
 | row (nz esz xs p dy nz' xs' p' dy') (h:xs'.length=xs.length):HeadEq (some (.row nz esz xs p dy)) (some (.row nz' esz xs' p' dy'))
def Heads (H H':Heap):Prop:=∀ b,HeadEq (hget H b) (hget H' b)
theorem HeadEq.refl:∀ x,HeadEq x x
 | Option.none=>HeadEq.none
 | some (.box _ _)=>.box _ _ _ _
 | some (.itr _ _)=>.itr _ _ _ _
 | some (.mapB _ _)=>.mapB _ _ _ _
 | some (.row _ _ _ _ _)=>.row _ _ _ _ _ _ _ _ _ rfl
theorem Heads.refl (H:Heap):Heads H H:=fun b=>.refl _
theorem HeadEq.trans {a b c:Option Blk}(h:HeadEq a b)(h':HeadEq b c):HeadEq a c:=by
 cases h<;>cases h'
 · exact .none
 · exact .box _ _ _ _
 · exact .itr _ _ _ _
 · exact .mapB _ _ _ _
 · rename_i h1 _ _ _ _ h2; exact .row _ _ _ _ _ _ _ _ _ (h2.trans h1)
theorem Heads.trans {a b c:Heap}(h:Heads a b)(h':Heads b c):Heads a c:=fun x=>(h x).trans (h' x)
theorem Heads.row {H H':Heap}(h:Heads H H'){b:Nat}{nz:Bool}{esz:Nat}{xs:List D}{p:Nat}{dy:Bool}(hx:hget H b=some (.row nz esz xs p dy)):∃ nz' xs' p' dy',hget H' b=some (.row nz' esz xs' p' dy')∧xs'.length=xs.length:=by
 have:=h b
 rw [hx] at this
 generalize hget H' b=y at this
 cases this with
 | row _ _ _ _ _ nz' xs' p' dy' hl=>exact ⟨nz',xs',p',dy',rfl,hl⟩
theorem heads_hset {H:Heap}{b:Nat}{x y:Blk}(hx:hget H b=some x)(h:HeadEq (some x) (some y)):Heads H (hset H b y):=fun c=>by
 rw [hget_hset]
 by_cases e:b=c
 · subst e; rw [if_pos rfl,hx]; exact h
 · rw [if_neg e]; exact .refl _
theorem stD_heads {H H':Heap}{sz:Nat}{p v:D}(h:stD H sz p v=some H'):Heads H H':=by
 unfold stD at h
 split at h<;>try (cases h; done)
 split at h<;>try (cases h; done)
 · split at h<;>try (cases h; done)
   rename_i hx
   split at h<;>try (cases h; done)
   injection h with h; subst h
   exact heads_hset hx (.box _ _ _ _)
 · split at h<;>try (cases h; done)
   rename_i hx
   split at h<;>try (cases h; done)
   split at h<;>try (cases h; done)
   injection h with h; subst h
   exact heads_hset hx (.row _ _ _ _ _ _ _ _ _ (by simp))
def reads:RO→Bool
 | .lku _ _ _ _ _=>true
 | .ld _ _ _=>true
 | .callc _ _ _=>true
 | _=>false
theorem lenD_heads {H H':Heap}(h:Heads H H'){d r:D}(hd:lenD H d=some r):lenD H' d=some r:=by
 unfold lenD at hd ⊢
 split at hd<;>try (cases hd; done)
 · exact hd
 · rename_i b
   split at hd<;>try (cases hd; done)
   rename_i hx
   obtain ⟨nz',xs',p',dy',h1,h2⟩:=h.row hx
   simp only [h1,h2]; exact hd
 · exact hd
theorem lenOf_heads {H H':Heap}(h:Heads H H'){s:Bool}{d r:D}(hd:lenOf s H d=some r):lenOf s H' d=some r:=by
 cases s with
 | true=>exact hd
 | false=>exact lenD_heads h hd
theorem iadD_heads {H H':Heap}(h:Heads H H'){esz:Nat}{d r:D}{i:Int}(hd:iadD H esz d i=some r):iadD H' esz d i=some r:=by
 unfold iadD at hd ⊢
 split at hd<;>try (cases hd; done)
 · exact hd
 · split at hd<;>try (cases hd; done)
   rename_i hx
   obtain ⟨nz',xs',p',dy',h1,h2⟩:=h.row hx
   simp only [h1,h2]; exact hd
 · split at hd<;>try (cases hd; done)
   rename_i hx
   obtain ⟨nz',xs',p',dy',h1,h2⟩:=h.row hx
   simp only [h1]; exact hd
theorem slcD_heads {H H':Heap}(h:Heads H H'){s:Bool}{esz:Nat}{d r:D}{lo hi:Int}(hd:slcD s esz H d lo hi=some r):slcD s esz H' d lo hi=some r:=by
 unfold slcD at hd ⊢
 cases s with
 | true=>exact hd
 | false=>
   simp only at hd ⊢
   split at hd<;>try (cases hd; done)
   · exact hd
   · split at hd<;>try (cases hd; done)
     rename_i hx
     obtain ⟨nz',xs',p',dy',h1,h2⟩:=h.row hx
     simp only [h1,h2]; exact hd
   · split at hd<;>try (cases hd; done)
     rename_i hx
     obtain ⟨nz',xs',p',dy',h1,h2⟩:=h.row hx
     simp only [h1]; exact hd
theorem evOp_heads {O:Ora}{e:Env}{H H':Heap}{ro:RO}{v:D}(hq:quietO ro=true)(hr:reads ro=false)(h:Heads H H')(ho:evOp O e H ro=some (v,e,H)):evOp O e H' ro=some (v,e,H'):=by
 cases ro<;>simp only [quietO] at hq<;>try (cases hq; done)
 case ld=>simp [reads] at hr
 case lku=>simp [reads] at hr
 case callc=>simp [reads] at hr
 case pick c x y=>
   simp only [evOp] at ho ⊢
   split at ho<;>try (cases ho; done)
   rename_i p _
   split at ho
   · simp_all
   · cases p<;>simp_all
 case len s x=>
   simp only [evOp] at ho ⊢
   split at ho<;>try (cases ho; done)
   rename_i r hl
   rw [lenOf_heads h hl]; simp_all
 case iadS esz x i=>
   simp only [evOp] at ho ⊢
   split at ho<;>try (cases ho; done)
   split at ho<;>try (cases ho; done)
   rename_i r hl
   rw [iadD_heads h hl]; simp_all
 case slc s esz x lo hi=>
   simp only [evOp] at ho ⊢
   split at ho<;>try (cases ho; done)
   rename_i k l j hh h1 h2
   split at ho<;>try (cases ho; done)
   rename_i r hl
   have:highOf s e H' (rho e x) hi=some (.int j hh):=by
     cases hi with
     | none=>exact lenOf_heads h h2
     | some o=>exact h2
   simp only [h1,this,slcD_heads h hl]; simp_all
 all_goals simp only [evOp] at ho ⊢
 all_goals (repeat' (first | (cases ho; done) | (injection ho with ho; injection ho with h1 ho; subst h1; rfl) | (simp_all; done) | split at ho))
end Gs
