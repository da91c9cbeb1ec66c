/- gangsawlaw16.SoundWitness returns true at every input and leaves its arguments as they were; no conditions. -/
import Derived.Test.YtogfagkjndoefaaGreatX41a
import Derived.Test.YtogfagkjndoefaaGreatX41b
import Derived.Test.YtogfagkjndoefaaGreatX9toXJ
import Derived.Test.YtogfagkjndoefaaGreatS167toS172
import Derived.Test.YtogfagkjndoefaaGreatXE
import Derived.Carry
import Derived.Test.YtogfagkjndoefaaGreatRows
set_option linter.all false
namespace Go.Proofs.YtogfagkjndoefaaGreat
open Go.ChangeShapes Go.WideShapes Go.ChangeAt Go.RowKit Gs Tz Tz.C18
theorem Tryz.own:ownKnob Tryz.prog.godebug=none:=by kernel_rfl
theorem Tryz.laidOut:laidOutB Tryz.prog=true:=by kernel_rfl
theorem plain25:plainTy Tryz.prog 10 25=true:=by kernel_rfl
theorem plain31:plainTy Tryz.prog 10 31=true:=by kernel_rfl
theorem plain32:plainTy Tryz.prog 10 32=true:=by kernel_rfl
set_option maxRecDepth 100000 in
theorem soundWitness_lifted (os:Os)(started:os.Started)(H:Type)(enc:TypeId×Value→H) :
   ReturnsInHanded {} Tryz.checked os 10 .any (Rows.soundWitnessSpec.pre6 enc Tryz.prog Tryz.f10 Rows.soundWitnessRow.domain false) (Rows.soundWitnessSpec.post enc Tryz.prog Tryz.f10 false true false false):=by
 refine returnsInHanded_of_change (C:=Tryz.checked) Tryz.own started (by kernel_rfl) Tryz.func10
   (ChangeSpec.witness6 (enc:=enc) (C:=Tryz.checked) false ⟨#[],#[.agg #[.int .i64 0,.int .i64 0,.int .i64 0,.int .i64 0,.int .i64 0,.int .i64 0,.bool false,.bool false,.bool false,.bool false,.slice none 0 0,.slice none 0 0,.slice none 0 0],.slice none 0 0,.agg #[.int .i64 0,.int .i64 0,.int .i64 0,.int .i64 0,.int .i64 0,.int .i64 0]],[]⟩ 8 (by kernel_rfl) (by kernel_rfl) (by kernel_rfl) (by kernel_rfl)) ?_
 intro W base args ds gs before hval0 hW hcnd _
 have hval:∀ (j:Nat) t v,Tryz.f10.params[j]?=some t→args[j]?=some v→Value.okWide Tryz.prog W .any base t v:=hval0
 have hW':=hW
 obtain ⟨p,q,hA0,hV,rfl,hfz,hnd⟩:=hW
 have hA:DataW.TrodAll enc Tryz.prog W 0 (fun _=>true) true Tryz.f10.params.toList args.toList ds p:=hA0
 rw [Tryz.params10] at hA hval
 obtain ⟨v0,v1,v2,d0,d1,d2,p0,p1,p2,rfl,rfl,rfl,h0,h1,h2⟩:=trodAll_three hA
 obtain ⟨rfl,rfl⟩:=trodVars_none hV
 obtain ⟨cs0,rfl,hz0⟩:=okWide_struct Tryz.underlying31 (hval 0 31 v0 rfl rfl)
 obtain ⟨a1,len1,cap1,rfl⟩:=okWide_slice Tryz.underlying32 (hval 1 32 v1 rfl rfl)
 obtain ⟨cs2,rfl,hz2⟩:=okWide_struct Tryz.underlying25 (hval 2 25 v2 rfl rfl)
 clear hA0 hval0
 simp only [List.append_nil] at hW'
 have hlt:∀ x∈p0 ++ (p1 ++ p2),x.block < W.heap.size:=fun x hx=>hW'.lt x (by simpa using hx)
 obtain ⟨fu0,t0⟩:=h0
 obtain ⟨fu1,t1⟩:=h1
 obtain ⟨fu2,t2⟩:=h2
 obtain ⟨ds0,r0,sh0,_,_,_⟩:=told_of (K:=fun _=>none) (Q:=qOf W) (qOf_spec W) fu0 10 31 _ _ plain31 t0
 obtain ⟨ds1,r1,sh1,_,_,_⟩:=told_of (K:=fun _=>none) (Q:=qOf W) (qOf_spec W) fu1 10 32 _ _ plain32 t1
 obtain ⟨ds2,r2,sh2,_,_,_⟩:=told_of (K:=fun _=>none) (Q:=qOf W) (qOf_spec W) fu2 10 25 _ _ plain25 t2
 obtain ⟨s,rfl⟩:=shp_survey sh0
 obtain ⟨l,rfl⟩:=shp_evs sh1
 obtain ⟨b,rfl⟩:=shp_box sh2
 have rr1:=relL_one r1
 have hcall:=calls_of tab_ok (C18.e_witness s l b) (w:=W) (glob_any _) (vs:=[.agg cs0,.slice a1 len1 cap1,.agg cs2]) (.cons (.agg r0) (.cons rr1 (.cons (.agg r2) .nil)))
 refine Calls.mono hcall ?_
 rintro e W' ⟨v,rfl,hB,K',Q',hr⟩
 cases hr
 refine ⟨_,rfl,_,_,_,[],p0 ++ (p1 ++ p2),[],hW',?_,?_,rfl,hB.frame _,fun h=>by cases h⟩
 · exact trodAll_mk1 (shut_bool Tryz.underlying4 true)
 · exact trodAll_mk3 (Below.trod Tryz.laidOut (by kernel_rfl) (of_decide_eq_true (by kernel_rfl)) ⟨fu0,t0⟩ hB (fun x hx=>hlt x (List.mem_append_left _ hx)))
     (Below.trod Tryz.laidOut (by kernel_rfl) (of_decide_eq_true (by kernel_rfl)) ⟨fu1,t1⟩ hB (fun x hx=>hlt x (List.mem_append_right _ (List.mem_append_left _ hx))))
     (Below.trod Tryz.laidOut (by kernel_rfl) (of_decide_eq_true (by kernel_rfl)) ⟨fu2,t2⟩ hB (fun x hx=>hlt x (List.mem_append_right _ (List.mem_append_right _ hx))))
theorem closed10:joinedFacts Tryz.pinned.checked.prog 10 Tryz.f10 Rows.soundWitnessSpec Rows.soundWitnessRow=true:=by
 simp only [joinedFacts,Bool.and_eq_true]
 exact ⟨⟨⟨⟨⟨⟨⟨⟨⟨⟨⟨⟨⟨⟨⟨⟨⟨⟨⟨⟨⟨⟨⟨⟨⟨⟨⟨⟨⟨⟨⟨(by kernel_rfl),(by kernel_rfl)⟩,(by kernel_rfl)⟩,(by kernel_rfl)⟩,(by kernel_rfl)⟩,(by kernel_rfl)⟩,(by kernel_rfl)⟩,(by kernel_rfl)⟩,(by kernel_rfl)⟩,closed_inPlace10⟩,closed_unfollowed10⟩,closed_recurses10⟩,closed_varsNamed10⟩,(by kernel_rfl)⟩,(by kernel_rfl)⟩,(by kernel_rfl)⟩,(by kernel_rfl)⟩,(by kernel_rfl)⟩,(by kernel_rfl)⟩,(by kernel_rfl)⟩,(by kernel_rfl)⟩,(by kernel_rfl)⟩,(by kernel_rfl)⟩,(by kernel_rfl)⟩,(by kernel_rfl)⟩,(by kernel_rfl)⟩,(by kernel_rfl)⟩,(by kernel_rfl)⟩,(by kernel_rfl)⟩,(by kernel_rfl)⟩,(by kernel_rfl)⟩,(by kernel_rfl)⟩
theorem soundWitness_holds:Rows.SoundWitnessSaid:=
 OpenClaim.holds_of_wide 10 Tryz.f10 rfl rfl rfl rfl rfl rfl rfl ⟨rfl,rfl,rfl,rfl,rfl⟩ rfl rfl rfl rfl rfl (by kernel_rfl) Tryz.func10 closed10
   (of_decide_eq_true (by kernel_rfl)) (by unfold Func.isWrapper; first | (rw [if_pos (by decide +kernel)]; kernel_rfl) | (rw [if_neg (by decide +kernel)]; exact ⟨rfl,rfl⟩))
   (fun os started H enc _=>soundWitness_lifted os started H enc)
#print axioms soundWitness_holds
end Go.Proofs.YtogfagkjndoefaaGreat
