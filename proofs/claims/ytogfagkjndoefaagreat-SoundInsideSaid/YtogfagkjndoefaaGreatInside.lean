/- gangsawlaw16.SoundInside returns true at every input and leaves its arguments as they were; no conditions. -/
import Derived.Test.YtogfagkjndoefaaGreatX43a
import Derived.Test.YtogfagkjndoefaaGreatX43b
import Derived.Test.YtogfagkjndoefaaGreatX9toXJ
import Derived.Test.YtogfagkjndoefaaGreatS176toS178
import Derived.Test.YtogfagkjndoefaaGreatXE
import Derived.Carry
import Derived.Test.YtogfagkjndoefaaGreatRows
set_option linter.all false
namespace Go.Proofs.YtogfagkjndoefaaGreat
open Go.ChangeShapes Go.WideShapes Go.ChangeAt Go.RowKit Gs Tz Tz.C18
theorem Tryz.own:ownKnob Tryz.prog.godebug=none:=by kernel_rfl
theorem Tryz.laidOut:laidOutB Tryz.prog=true:=by kernel_rfl
theorem plain25:plainTy Tryz.prog 10 25=true:=by kernel_rfl
theorem plain31:plainTy Tryz.prog 10 31=true:=by kernel_rfl
theorem plain32:plainTy Tryz.prog 10 32=true:=by kernel_rfl
set_option maxRecDepth 100000 in
theorem soundInside_lifted (os:Os)(started:os.Started)(H:Type)(enc:TypeId×Value→H) :
   ReturnsInHanded {} Tryz.checked os 7 .any (Rows.soundInsideSpec.pre6 enc Tryz.prog Tryz.f7 Rows.soundInsideRow.domain false) (Rows.soundInsideSpec.post enc Tryz.prog Tryz.f7 false true false false):=by
 refine returnsInHanded_of_change (C:=Tryz.checked) Tryz.own started (by kernel_rfl) Tryz.func7
   (ChangeSpec.witness6 (enc:=enc) (C:=Tryz.checked) false ⟨#[],#[.agg #[.int .i64 0,.int .i64 0,.int .i64 0,.int .i64 0,.int .i64 0,.int .i64 0,.bool false,.bool false,.bool false,.bool false,.slice none 0 0,.slice none 0 0,.slice none 0 0],.slice none 0 0,.agg #[.int .i64 0,.int .i64 0,.int .i64 0,.int .i64 0,.int .i64 0,.int .i64 0],.agg #[.int .i64 0,.int .i64 0,.int .i64 0,.int .i64 0,.int .i64 0,.int .i64 0]],[]⟩ 8 (by kernel_rfl) (by kernel_rfl) (by kernel_rfl) (by kernel_rfl)) ?_
 intro W base args ds gs before hval0 hW hcnd _
 have hval:∀ (j:Nat) t v,Tryz.f7.params[j]?=some t→args[j]?=some v→Value.okWide Tryz.prog W .any base t v:=hval0
 have hW':=hW
 obtain ⟨p,q,hA0,hV,rfl,hfz,hnd⟩:=hW
 have hA:DataW.TrodAll enc Tryz.prog W 0 (fun _=>true) true Tryz.f7.params.toList args.toList ds p:=hA0
 rw [Tryz.params7] at hA hval
 obtain ⟨v0,v1,v2,v3,d0,d1,d2,d3,p0,p1,p2,p3,rfl,rfl,rfl,h0,h1,h2,h3⟩:=trodAll_four hA
 obtain ⟨rfl,rfl⟩:=trodVars_none hV
 obtain ⟨cs0,rfl,hz0⟩:=okWide_struct Tryz.underlying31 (hval 0 31 v0 rfl rfl)
 obtain ⟨a1,len1,cap1,rfl⟩:=okWide_slice Tryz.underlying32 (hval 1 32 v1 rfl rfl)
 obtain ⟨cs2,rfl,hz2⟩:=okWide_struct Tryz.underlying25 (hval 2 25 v2 rfl rfl)
 obtain ⟨cs3,rfl,hz3⟩:=okWide_struct Tryz.underlying25 (hval 3 25 v3 rfl rfl)
 clear hA0 hval0
 simp only [List.append_nil] at hW'
 have hlt:∀ x∈p0 ++ (p1 ++ (p2 ++ p3)),x.block < W.heap.size:=fun x hx=>hW'.lt x (by simpa using hx)
 obtain ⟨fu0,t0⟩:=h0
 obtain ⟨fu1,t1⟩:=h1
 obtain ⟨fu2,t2⟩:=h2
 obtain ⟨fu3,t3⟩:=h3
 obtain ⟨ds0,r0,sh0,_,_,_⟩:=told_of (K:=fun _=>none) (Q:=qOf W) (qOf_spec W) fu0 10 31 _ _ plain31 t0
 obtain ⟨ds1,r1,sh1,_,_,_⟩:=told_of (K:=fun _=>none) (Q:=qOf W) (qOf_spec W) fu1 10 32 _ _ plain32 t1
 obtain ⟨ds2,r2,sh2,_,_,_⟩:=told_of (K:=fun _=>none) (Q:=qOf W) (qOf_spec W) fu2 10 25 _ _ plain25 t2
 obtain ⟨ds3,r3,sh3,_,_,_⟩:=told_of (K:=fun _=>none) (Q:=qOf W) (qOf_spec W) fu3 10 25 _ _ plain25 t3
 obtain ⟨s,rfl⟩:=shp_survey sh0
 obtain ⟨l,rfl⟩:=shp_evs sh1
 obtain ⟨b,rfl⟩:=shp_box sh2
 obtain ⟨c,rfl⟩:=shp_box sh3
 have rr1:=relL_one r1
 have hcall:=calls_of tab_ok (C18.e_inside16 s l b c) (w:=W) (glob_any _) (vs:=[.agg cs0,.slice a1 len1 cap1,.agg cs2,.agg cs3]) (.cons (.agg r0) (.cons rr1 (.cons (.agg r2) (.cons (.agg r3) .nil))))
 refine Calls.mono hcall ?_
 rintro e W' ⟨v,rfl,hB,K',Q',hr⟩
 cases hr
 refine ⟨_,rfl,_,_,_,[],p0 ++ (p1 ++ (p2 ++ p3)),[],hW',?_,?_,rfl,hB.frame _,fun h=>by cases h⟩
 · exact trodAll_mk1 (shut_bool Tryz.underlying4 true)
 · exact trodAll_mk4 (Below.trod Tryz.laidOut (by kernel_rfl) (of_decide_eq_true (by kernel_rfl)) ⟨fu0,t0⟩ hB (fun x hx=>hlt x (List.mem_append_left _ hx)))
     (Below.trod Tryz.laidOut (by kernel_rfl) (of_decide_eq_true (by kernel_rfl)) ⟨fu1,t1⟩ hB (fun x hx=>hlt x (List.mem_append_right _ (List.mem_append_left _ hx))))
     (Below.trod Tryz.laidOut (by kernel_rfl) (of_decide_eq_true (by kernel_rfl)) ⟨fu2,t2⟩ hB (fun x hx=>hlt x (List.mem_append_right _ (List.mem_append_right _ (List.mem_append_left _ hx)))))
     (Below.trod Tryz.laidOut (by kernel_rfl) (of_decide_eq_true (by kernel_rfl)) ⟨fu3,t3⟩ hB (fun x hx=>hlt x (List.mem_append_right _ (List.mem_append_right _ (List.mem_append_right _ hx)))))
theorem closed7:joinedFacts Tryz.pinned.checked.prog 7 Tryz.f7 Rows.soundInsideSpec Rows.soundInsideRow=true:=by
 simp only [joinedFacts,Bool.and_eq_true]
 exact ⟨⟨⟨⟨⟨⟨⟨⟨⟨⟨⟨⟨⟨⟨⟨⟨⟨⟨⟨⟨⟨⟨⟨⟨⟨⟨⟨⟨⟨⟨⟨(by kernel_rfl),(by kernel_rfl)⟩,(by kernel_rfl)⟩,(by kernel_rfl)⟩,(by kernel_rfl)⟩,(by kernel_rfl)⟩,(by kernel_rfl)⟩,(by kernel_rfl)⟩,(by kernel_rfl)⟩,closed_inPlace7⟩,closed_unfollowed7⟩,closed_recurses7⟩,closed_varsNamed7⟩,(by kernel_rfl)⟩,(by kernel_rfl)⟩,(by kernel_rfl)⟩,(by kernel_rfl)⟩,(by kernel_rfl)⟩,(by kernel_rfl)⟩,(by kernel_rfl)⟩,(by kernel_rfl)⟩,(by kernel_rfl)⟩,(by kernel_rfl)⟩,(by kernel_rfl)⟩,(by kernel_rfl)⟩,(by kernel_rfl)⟩,(by kernel_rfl)⟩,(by kernel_rfl)⟩,(by kernel_rfl)⟩,(by kernel_rfl)⟩,(by kernel_rfl)⟩,(by kernel_rfl)⟩
theorem soundInside_holds:Rows.SoundInsideSaid:=
 OpenClaim.holds_of_wide 7 Tryz.f7 rfl rfl rfl rfl rfl rfl rfl ⟨rfl,rfl,rfl,rfl,rfl⟩ rfl rfl rfl rfl rfl (by kernel_rfl) Tryz.func7 closed7
   (of_decide_eq_true (by kernel_rfl)) (by unfold Func.isWrapper; first | (rw [if_pos (by decide +kernel)]; kernel_rfl) | (rw [if_neg (by decide +kernel)]; exact ⟨rfl,rfl⟩))
   (fun os started H enc _=>soundInside_lifted os started H enc)
#print axioms soundInside_holds
end Go.Proofs.YtogfagkjndoefaaGreat
