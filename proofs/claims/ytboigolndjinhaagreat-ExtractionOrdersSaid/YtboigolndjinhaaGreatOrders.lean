/- gangsawlaw21.ExtractionOrders returns true at every input and leaves its arguments as they were; no conditions. -/
import Derived.Test.YtboigolndjinhaaGreatX25a
import Derived.Test.YtboigolndjinhaaGreatX25b
import Derived.Test.YtboigolndjinhaaGreatX9toXJ
import Derived.Test.YtboigolndjinhaaGreatS123toS132
import Derived.Carry
import Derived.Test.YtboigolndjinhaaGreatRows
set_option linter.all false
namespace Go.Proofs.YtboigolndjinhaaGreat
open Go.ChangeShapes Go.WideShapes Go.ChangeAt Go.RowKit Gs Tz Tz.C18
theorem Tryz.own:ownKnob Tryz.prog.godebug=none:=by kernel_rfl
theorem Tryz.laidOut:laidOutB Tryz.prog=true:=by kernel_rfl
theorem plain3:plainTy Tryz.prog 10 3=true:=by kernel_rfl
theorem plain38:plainTy Tryz.prog 10 38=true:=by kernel_rfl
theorem plain48:plainTy Tryz.prog 10 48=true:=by kernel_rfl
set_option maxRecDepth 100000 in
theorem extractionOrders_lifted (os:Os)(started:os.Started)(H:Type)(enc:TypeId×Value→H) :
   ReturnsInHanded {} Tryz.checked os 9 .any (Rows.extractionOrdersSpec.pre6 enc Tryz.prog Tryz.f9 Rows.extractionOrdersRow.domain false) (Rows.extractionOrdersSpec.post enc Tryz.prog Tryz.f9 false true false false):=by
 refine returnsInHanded_of_change (C:=Tryz.checked) Tryz.own started (by kernel_rfl) Tryz.func9
   (ChangeSpec.witness6 (enc:=enc) (C:=Tryz.checked) false ⟨#[],#[.agg #[.int .i64 0,.int .i64 0,.int .i64 0,.int .i64 0,.int .i64 0,.int .i64 0,.bool false,.bool false,.bool false,.bool false,.slice none 0 0,.slice none 0 0,.slice none 0 0,.slice none 0 0,.slice none 0 0,.int .i64 0,.int .i64 0,.slice none 0 0,.int .i64 0],.slice none 0 0,.int .i64 0],[]⟩ 8 (by kernel_rfl) (by kernel_rfl) (by kernel_rfl) (by kernel_rfl)) ?_
 intro W base args ds gs before hval0 hW hcnd _
 have hval:∀ (j:Nat) t v,Tryz.f9.params[j]?=some t→args[j]?=some v→Value.okWide Tryz.prog W .any base t v:=hval0
 have hW':=hW
 obtain ⟨p,q,hA0,hV,rfl,hfz,hnd⟩:=hW
 have hA:DataW.TrodAll enc Tryz.prog W 0 (fun _=>true) true Tryz.f9.params.toList args.toList ds p:=hA0
 rw [Tryz.params9] at hA hval
 obtain ⟨v0,v1,v2,d0,d1,d2,p0,p1,p2,rfl,rfl,rfl,h0,h1,h2⟩:=trodAll_three hA
 obtain ⟨rfl,rfl⟩:=trodVars_none hV
 obtain ⟨cs0,rfl,hz0⟩:=okWide_struct Tryz.underlying38 (hval 0 38 v0 rfl rfl)
 obtain ⟨a1,len1,cap1,rfl⟩:=okWide_slice Tryz.underlying48 (hval 1 48 v1 rfl rfl)
 obtain ⟨n2,rfl⟩:=okWide_int Tryz.underlying3 (hval 2 3 v2 rfl rfl)
 clear hA0 hval0
 simp only [List.append_nil] at hW'
 have hlt:∀ x∈p0 ++ (p1 ++ p2),x.block < W.heap.size:=fun x hx=>hW'.lt x (by simpa using hx)
 obtain ⟨fu0,t0⟩:=h0
 obtain ⟨fu1,t1⟩:=h1
 obtain ⟨fu2,t2⟩:=h2
 obtain ⟨ds0,r0,sh0,_,_,_⟩:=told_of (K:=fun _=>none) (Q:=qOf W) (qOf_spec W) fu0 10 38 _ _ plain38 t0
 obtain ⟨ds1,r1,sh1,_,_,_⟩:=told_of (K:=fun _=>none) (Q:=qOf W) (qOf_spec W) fu1 10 48 _ _ plain48 t1
 obtain ⟨ds2,r2,sh2,_,_,_⟩:=told_of (K:=fun _=>none) (Q:=qOf W) (qOf_spec W) fu2 10 3 _ _ plain3 t2
 obtain ⟨s,rfl⟩:=shp_site sh0
 obtain ⟨o,rfl⟩:=shp_strs sh1
 obtain ⟨i,rfl⟩:=shp_int_ sh2
 have rr1:=relL_one r1
 have rr2:=relL_one r2
 have hcall:=calls_of tab_ok (e_xorders s o i) (w:=W) (glob_any _) (vs:=[.agg cs0,.slice a1 len1 cap1,.int .i64 n2]) (.cons (.agg r0) (.cons rr1 (.cons rr2 .nil)))
 refine Calls.mono hcall ?_
 rintro e W' ⟨v,rfl,hB,K',Q',hr⟩
 cases hr
 refine ⟨_,rfl,_,_,_,[],p0 ++ (p1 ++ p2),[],hW',?_,?_,rfl,hB.frame _,fun h=>by cases h⟩
 · exact trodAll_mk1 (shut_bool Tryz.underlying4 true)
 · exact trodAll_mk3 (Below.trod Tryz.laidOut (by kernel_rfl) (of_decide_eq_true (by kernel_rfl)) ⟨fu0,t0⟩ hB (fun x hx=>hlt x (List.mem_append_left _ hx)))
     (Below.trod Tryz.laidOut (by kernel_rfl) (of_decide_eq_true (by kernel_rfl)) ⟨fu1,t1⟩ hB (fun x hx=>hlt x (List.mem_append_right _ (List.mem_append_left _ hx))))
     (Below.trod Tryz.laidOut (by kernel_rfl) (of_decide_eq_true (by kernel_rfl)) ⟨fu2,t2⟩ hB (fun x hx=>hlt x (List.mem_append_right _ (List.mem_append_right _ hx))))
theorem closed9:joinedFacts Tryz.pinned.checked.prog 9 Tryz.f9 Rows.extractionOrdersSpec Rows.extractionOrdersRow=true:=by
 simp only [joinedFacts,Bool.and_eq_true]
 exact ⟨⟨⟨⟨⟨⟨⟨⟨⟨⟨⟨⟨⟨⟨⟨⟨⟨⟨⟨⟨⟨⟨⟨⟨⟨⟨⟨⟨⟨⟨⟨(by kernel_rfl),(by kernel_rfl)⟩,(by kernel_rfl)⟩,(by kernel_rfl)⟩,(by kernel_rfl)⟩,(by kernel_rfl)⟩,(by kernel_rfl)⟩,(by kernel_rfl)⟩,(by kernel_rfl)⟩,closed_inPlace9⟩,closed_unfollowed9⟩,closed_recurses9⟩,closed_varsNamed9⟩,(by kernel_rfl)⟩,(by kernel_rfl)⟩,(by kernel_rfl)⟩,(by kernel_rfl)⟩,(by kernel_rfl)⟩,(by kernel_rfl)⟩,(by kernel_rfl)⟩,(by kernel_rfl)⟩,(by kernel_rfl)⟩,(by kernel_rfl)⟩,(by kernel_rfl)⟩,(by kernel_rfl)⟩,(by kernel_rfl)⟩,(by kernel_rfl)⟩,(by kernel_rfl)⟩,(by kernel_rfl)⟩,(by kernel_rfl)⟩,(by kernel_rfl)⟩,(by kernel_rfl)⟩
theorem extractionOrders_holds:Rows.ExtractionOrdersSaid:=
 OpenClaim.holds_of_wide 9 Tryz.f9 rfl rfl rfl rfl rfl rfl rfl ⟨rfl,rfl,rfl,rfl,rfl⟩ rfl rfl rfl rfl rfl (by kernel_rfl) Tryz.func9 closed9
   (of_decide_eq_true (by kernel_rfl)) (by unfold Func.isWrapper; first | (rw [if_pos (by decide +kernel)]; kernel_rfl) | (rw [if_neg (by decide +kernel)]; exact ⟨rfl,rfl⟩))
   (fun os started H enc _=>extractionOrders_lifted os started H enc)
#print axioms extractionOrders_holds
end Go.Proofs.YtboigolndjinhaaGreat
