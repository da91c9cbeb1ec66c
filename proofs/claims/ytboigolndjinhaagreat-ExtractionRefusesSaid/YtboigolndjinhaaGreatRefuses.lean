/- gangsawlaw21.ExtractionRefuses returns true at every input and leaves its arguments as they were; no conditions. -/
import Derived.Test.YtboigolndjinhaaGreatX22a
import Derived.Test.YtboigolndjinhaaGreatX22b
import Derived.Test.YtboigolndjinhaaGreatX9toXJ
import Derived.Test.YtboigolndjinhaaGreatS98toS124
import Derived.Carry
import Derived.Test.YtboigolndjinhaaGreatRows
set_option linter.unusedVariables false
set_option linter.unusedSimpArgs false
set_option linter.unusedSectionVars false
set_option linter.defProp false
set_option linter.deprecated false
namespace Go.Proofs.YtboigolndjinhaaGreat
open Go.ChangeShapes Go.WideShapes Go.ChangeAt Go.RowKit Gs Tz Tz.C18
theorem Tryz.own:ownKnob Tryz.prog.godebug=none:=by kernel_rfl
theorem Tryz.laidOut:laidOutB Tryz.prog=true:=by kernel_rfl
theorem plain38:plainTy Tryz.prog 10 38=true:=by kernel_rfl
set_option maxRecDepth 100000 in
theorem extractionRefuses_lifted (os:Os)(started:os.Started)(H:Type)(enc:TypeId×Value→H) :
   ReturnsInHanded {} Tryz.checked os 3 .any (Rows.extractionRefusesSpec.pre6 enc Tryz.prog Tryz.f3 Rows.extractionRefusesRow.domain false) (Rows.extractionRefusesSpec.post enc Tryz.prog Tryz.f3 false true false false):=by
 refine returnsInHanded_of_change (C:=Tryz.checked) Tryz.own started (by kernel_rfl) Tryz.func3
   (ChangeSpec.witness6 (enc:=enc) (C:=Tryz.checked) false ⟨#[],#[.agg #[.int .i64 0,.int .i64 0,.int .i64 0,.int .i64 0,.int .i64 0,.int .i64 0,.bool false,.bool false,.bool false,.bool false,.slice none 0 0,.slice none 0 0,.slice none 0 0,.slice none 0 0,.slice none 0 0,.int .i64 0,.int .i64 0,.slice none 0 0,.int .i64 0]],[]⟩ 8 (by kernel_rfl) (by kernel_rfl) (by kernel_rfl) (by kernel_rfl)) ?_
 intro W base args ds gs before hval0 hW hcnd _
 have hval:∀ (j:Nat) t v,Tryz.f3.params[j]?=some t→args[j]?=some v→Value.okWide Tryz.prog W .any base t v:=hval0
 have hW':=hW
 obtain ⟨p,q,hA0,hV,rfl,hfz,hnd⟩:=hW
 have hA:DataW.TrodAll enc Tryz.prog W 0 (fun _=>true) true Tryz.f3.params.toList args.toList ds p:=hA0
 rw [Tryz.params3] at hA hval
 obtain ⟨v0,d0,rfl,rfl,h0⟩:=trodAll_one hA
 obtain ⟨p0,rfl⟩:∃ p0,p0=p:=⟨p,rfl⟩
 obtain ⟨rfl,rfl⟩:=trodVars_none hV
 obtain ⟨cs0,rfl,hz0⟩:=okWide_struct Tryz.underlying38 (hval 0 38 v0 rfl rfl)
 clear hA0 hval0
 simp only [List.append_nil] at hW'
 have hlt:∀ x∈p0,x.block < W.heap.size:=fun x hx=>hW'.lt x (by simpa using hx)
 obtain ⟨fu0,t0⟩:=h0
 obtain ⟨ds0,r0,sh0,_,_,_⟩:=told_of (K:=fun _=>none) (Q:=qOf W) (qOf_spec W) fu0 10 38 _ _ plain38 t0
 obtain ⟨s,rfl⟩:=shp_site sh0
 have hcall:=calls_of tab_ok (e_refuses s) (w:=W) (glob_any _) (vs:=[.agg cs0]) (.cons (.agg r0) .nil)
 refine Calls.mono hcall ?_
 rintro e W' ⟨v,rfl,hB,K',Q',hr⟩
 cases hr
 refine ⟨_,rfl,_,_,_,[],p0,[],hW',?_,?_,rfl,hB.frame _,fun h=>by cases h⟩
 · exact trodAll_mk1 (shut_bool Tryz.underlying4 true)
 · exact trodAll_mk1 (Below.trod Tryz.laidOut (by kernel_rfl) (of_decide_eq_true (by kernel_rfl)) ⟨fu0,t0⟩ hB (fun x hx=>hlt x hx))
theorem closed3:joinedFacts Tryz.pinned.checked.prog 3 Tryz.f3 Rows.extractionRefusesSpec Rows.extractionRefusesRow=true:=by
 simp only [joinedFacts,Bool.and_eq_true]
 exact ⟨⟨⟨⟨⟨⟨⟨⟨⟨⟨⟨⟨⟨⟨⟨⟨⟨⟨⟨⟨⟨⟨⟨⟨⟨⟨⟨⟨⟨⟨⟨(by kernel_rfl),(by kernel_rfl)⟩,(by kernel_rfl)⟩,(by kernel_rfl)⟩,(by kernel_rfl)⟩,(by kernel_rfl)⟩,(by kernel_rfl)⟩,(by kernel_rfl)⟩,(by kernel_rfl)⟩,closed_inPlace3⟩,closed_unfollowed3⟩,closed_recurses3⟩,closed_varsNamed3⟩,(by kernel_rfl)⟩,(by kernel_rfl)⟩,(by kernel_rfl)⟩,(by kernel_rfl)⟩,(by kernel_rfl)⟩,(by kernel_rfl)⟩,(by kernel_rfl)⟩,(by kernel_rfl)⟩,(by kernel_rfl)⟩,(by kernel_rfl)⟩,(by kernel_rfl)⟩,(by kernel_rfl)⟩,(by kernel_rfl)⟩,(by kernel_rfl)⟩,(by kernel_rfl)⟩,(by kernel_rfl)⟩,(by kernel_rfl)⟩,(by kernel_rfl)⟩,(by kernel_rfl)⟩
theorem extractionRefuses_holds:Rows.ExtractionRefusesSaid:=
 OpenClaim.holds_of_wide 3 Tryz.f3 rfl rfl rfl rfl rfl rfl rfl ⟨rfl,rfl,rfl,rfl,rfl⟩ rfl rfl rfl rfl rfl (by kernel_rfl) Tryz.func3 closed3
   (of_decide_eq_true (by kernel_rfl)) (by unfold Func.isWrapper; first | (rw [if_pos (by decide +kernel)]; kernel_rfl) | (rw [if_neg (by decide +kernel)]; exact ⟨rfl,rfl⟩))
   (fun os started H enc _=>extractionRefuses_lifted os started H enc)
#print axioms extractionRefuses_holds
end Go.Proofs.YtboigolndjinhaaGreat
