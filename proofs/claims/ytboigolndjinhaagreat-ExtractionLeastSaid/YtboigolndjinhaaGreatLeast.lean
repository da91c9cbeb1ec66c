/- gangsawlaw21.ExtractionLeast returns true at every input and leaves its arguments as they were; no conditions. -/
import Derived.Test.YtboigolndjinhaaGreatX27a
import Derived.Test.YtboigolndjinhaaGreatX27b
import Derived.Test.YtboigolndjinhaaGreatX9toXJd
import Derived.Test.YtboigolndjinhaaGreatS125toS135
import Derived.Carry
import Derived.Test.YtboigolndjinhaaGreatRows
set_option linter.all false
namespace Go.Proofs.YtboigolndjinhaaGreat
open Go.ChangeShapes Go.WideShapes Go.ChangeAt Go.RowKit Gs Tz Tz.C18
theorem Tryz.own:ownKnob Tryz.prog.godebug=none:=by kernel_rfl
theorem Tryz.laidOut:laidOutB Tryz.prog=true:=by kernel_rfl
theorem plain9:plainTy Tryz.prog 10 9=true:=by kernel_rfl
theorem plain38:plainTy Tryz.prog 10 38=true:=by kernel_rfl
set_option maxRecDepth 100000 in
theorem extractionLeast_lifted (os:Os)(started:os.Started)(H:Type)(enc:TypeId×Value→H) :
   ReturnsInHanded {} Tryz.checked os 7 .any (Rows.extractionLeastSpec.pre6 enc Tryz.prog Tryz.f7 Rows.extractionLeastRow.domain false) (Rows.extractionLeastSpec.post enc Tryz.prog Tryz.f7 false true false false):=by
 refine returnsInHanded_of_change (C:=Tryz.checked) Tryz.own started (by kernel_rfl) Tryz.func7
   (ChangeSpec.witness6 (enc:=enc) (C:=Tryz.checked) false ⟨#[],#[.agg #[.int .i64 0,.int .i64 0,.int .i64 0,.int .i64 0,.int .i64 0,.int .i64 0,.bool false,.bool false,.bool false,.bool false,.slice none 0 0,.slice none 0 0,.slice none 0 0,.slice none 0 0,.slice none 0 0,.int .i64 0,.int .i64 0,.slice none 0 0,.int .i64 0],.string ByteArray.empty],[]⟩ 8 (by kernel_rfl) (by kernel_rfl) (by kernel_rfl) (by kernel_rfl)) ?_
 intro W base args ds gs before hval0 hW hcnd _
 have hval:∀ (j:Nat) t v,Tryz.f7.params[j]?=some t→args[j]?=some v→Value.okWide Tryz.prog W .any base t v:=hval0
 have hW':=hW
 obtain ⟨p,q,hA0,hV,rfl,hfz,hnd⟩:=hW
 have hA:DataW.TrodAll enc Tryz.prog W 0 (fun _=>true) true Tryz.f7.params.toList args.toList ds p:=hA0
 rw [Tryz.params7] at hA hval
 obtain ⟨v0,v1,d0,d1,p0,p1,rfl,rfl,rfl,h0,h1⟩:=trodAll_two hA
 obtain ⟨rfl,rfl⟩:=trodVars_none hV
 obtain ⟨cs0,rfl,hz0⟩:=okWide_struct Tryz.underlying38 (hval 0 38 v0 rfl rfl)
 obtain ⟨s1,rfl⟩:=okWide_string Tryz.underlying9 (hval 1 9 v1 rfl rfl)
 clear hA0 hval0
 simp only [List.append_nil] at hW'
 have hlt:∀ x∈p0 ++ p1,x.block < W.heap.size:=fun x hx=>hW'.lt x (by simpa using hx)
 obtain ⟨fu0,t0⟩:=h0
 obtain ⟨fu1,t1⟩:=h1
 obtain ⟨ds0,r0,sh0,_,_,_⟩:=told_of (K:=fun _=>none) (Q:=qOf W) (qOf_spec W) fu0 10 38 _ _ plain38 t0
 obtain ⟨ds1,r1,sh1,_,_,_⟩:=told_of (K:=fun _=>none) (Q:=qOf W) (qOf_spec W) fu1 10 9 _ _ plain9 t1
 obtain ⟨s,rfl⟩:=shp_site sh0
 obtain ⟨goal,rfl⟩:=shp_string sh1
 have rr1:=relL_one r1
 have hcall:=calls_of tab_ok (e_xleast s goal) (w:=W) (glob_any _) (vs:=[.agg cs0,.string s1]) (.cons (.agg r0) (.cons rr1 .nil))
 refine Calls.mono hcall ?_
 rintro e W' ⟨v,rfl,hB,K',Q',hr⟩
 cases hr
 refine ⟨_,rfl,_,_,_,[],p0 ++ p1,[],hW',?_,?_,rfl,hB.frame _,fun h=>by cases h⟩
 · exact trodAll_mk1 (shut_bool Tryz.underlying4 true)
 · exact trodAll_mk2 (Below.trod Tryz.laidOut (by kernel_rfl) (of_decide_eq_true (by kernel_rfl)) ⟨fu0,t0⟩ hB (fun x hx=>hlt x (List.mem_append_left _ hx)))
     (Below.trod Tryz.laidOut (by kernel_rfl) (of_decide_eq_true (by kernel_rfl)) ⟨fu1,t1⟩ hB (fun x hx=>hlt x (List.mem_append_right _ hx)))
theorem closed7:joinedFacts Tryz.pinned.checked.prog 7 Tryz.f7 Rows.extractionLeastSpec Rows.extractionLeastRow=true:=by
 simp only [joinedFacts,Bool.and_eq_true]
 exact ⟨⟨⟨⟨⟨⟨⟨⟨⟨⟨⟨⟨⟨⟨⟨⟨⟨⟨⟨⟨⟨⟨⟨⟨⟨⟨⟨⟨⟨⟨⟨(by kernel_rfl),(by kernel_rfl)⟩,(by kernel_rfl)⟩,(by kernel_rfl)⟩,(by kernel_rfl)⟩,(by kernel_rfl)⟩,(by kernel_rfl)⟩,(by kernel_rfl)⟩,(by kernel_rfl)⟩,closed_inPlace7⟩,closed_unfollowed7⟩,closed_recurses7⟩,closed_varsNamed7⟩,(by kernel_rfl)⟩,(by kernel_rfl)⟩,(by kernel_rfl)⟩,(by kernel_rfl)⟩,(by kernel_rfl)⟩,(by kernel_rfl)⟩,(by kernel_rfl)⟩,(by kernel_rfl)⟩,(by kernel_rfl)⟩,(by kernel_rfl)⟩,(by kernel_rfl)⟩,(by kernel_rfl)⟩,(by kernel_rfl)⟩,(by kernel_rfl)⟩,(by kernel_rfl)⟩,(by kernel_rfl)⟩,(by kernel_rfl)⟩,(by kernel_rfl)⟩,(by kernel_rfl)⟩
theorem extractionLeast_holds:Rows.ExtractionLeastSaid:=
 OpenClaim.holds_of_wide 7 Tryz.f7 rfl rfl rfl rfl rfl rfl rfl ⟨rfl,rfl,rfl,rfl,rfl⟩ rfl rfl rfl rfl rfl (by kernel_rfl) Tryz.func7 closed7
   (of_decide_eq_true (by kernel_rfl)) (by unfold Func.isWrapper; first | (rw [if_pos (by decide +kernel)]; kernel_rfl) | (rw [if_neg (by decide +kernel)]; exact ⟨rfl,rfl⟩))
   (fun os started H enc _=>extractionLeast_lifted os started H enc)
#print axioms extractionLeast_holds
end Go.Proofs.YtboigolndjinhaaGreat
