/- gangsawlaw13.SurveyParts returns true at every input and leaves its arguments as they were; no conditions. -/
import Derived.Test.YtbdcbppmgbekoaaGreatS152toS153
import Derived.Test.YtbdcbppmgbekoaaGreatX7toXJz
import Derived.Carry
import Derived.Test.YtbdcbppmgbekoaaGreatRows
import Derived.ProofKit
set_option linter.all false
namespace Go.Proofs.YtbdcbppmgbekoaaGreat
open Go.ChangeShapes Go.WideShapes Go.ChangeAt Go.RowKit Gs Tz
theorem Tryz.own:ownKnob Tryz.prog.godebug=none:=by kernel_rfl
theorem Tryz.laidOut:laidOutB Tryz.prog=true:=by kernel_rfl
theorem plain31:plainTy Tryz.prog 10 31=true:=by kernel_rfl
theorem plain25:plainTy Tryz.prog 10 25=true:=by kernel_rfl
set_option maxRecDepth 100000 in
theorem surveyParts_lifted (os:Os)(started:os.Started)(H:Type)(enc:TypeId×Value→H) :
   ReturnsInHanded {} Tryz.checked os 5 .any (Rows.surveyPartsSpec.pre6 enc Tryz.prog Tryz.f5 Rows.surveyPartsRow.domain false) (Rows.surveyPartsSpec.post enc Tryz.prog Tryz.f5 false true false false):=by
 refine returnsInHanded_of_change (C:=Tryz.checked) Tryz.own started (by kernel_rfl) Tryz.func5
   (ChangeSpec.witness6 (enc:=enc) (C:=Tryz.checked) false ⟨#[],#[.agg #[.int .i64 0,.int .i64 0,.int .i64 0,.int .i64 0,.int .i64 0,.int .i64 0,.bool false,.bool false,.bool false,.bool false,.slice none 0 0,.slice none 0 0,.slice none 0 0],.agg #[.int .i64 0,.int .i64 0,.int .i64 0,.int .i64 0,.int .i64 0,.int .i64 0],.int .i64 0,.int .i64 0],[]⟩ 8 (by kernel_rfl) (by kernel_rfl) (by kernel_rfl) (by kernel_rfl)) ?_
 intro W base args ds gs before hval0 hW hcnd _
 have hval:∀ (j:Nat) t v,Tryz.f5.params[j]?=some t→args[j]?=some v→Value.okWide Tryz.prog W .any base t v:=hval0
 have hW':=hW
 obtain ⟨p,q,hA0,hV,rfl,hfz,hnd⟩:=hW
 have hA:DataW.TrodAll enc Tryz.prog W 0 (fun _=>true) true Tryz.f5.params.toList args.toList ds p:=hA0
 rw [Tryz.params5] at hA hval
 obtain ⟨v0,v1,v2,v3,d0,d1,d2,d3,p0,p1,p2,p3,rfl,rfl,rfl,h0,h1,h2,h3⟩:=trodAll_four hA
 obtain ⟨rfl,rfl⟩:=trodVars_none hV
 obtain ⟨cs0,rfl,hz0⟩:=okWide_struct Tryz.underlying31 (hval 0 31 v0 rfl rfl)
 obtain ⟨cs1,rfl,hz1⟩:=okWide_struct Tryz.underlying25 (hval 1 25 v1 rfl rfl)
 obtain ⟨d,rfl,rfl,rfl,wd⟩:=open_int Tryz.underlying3 (hval 2 3 v2 rfl rfl) h2
 obtain ⟨d',rfl,rfl,rfl,wd'⟩:=open_int Tryz.underlying3 (hval 3 3 v3 rfl rfl) h3
 clear hA0 hval0
 simp only [List.append_nil] at hW'
 have hlt:∀ x∈p0 ++ (p1 ++ ([] ++ [])),x.block < W.heap.size:=fun x hx=>hW'.lt x (by simpa using hx)
 obtain ⟨fu0,t0⟩:=h0
 obtain ⟨fu1,t1⟩:=h1
 obtain ⟨ds0,r0,s0,_,_,_⟩:=told_of (K:=fun _=>none) (Q:=qOf W) (qOf_spec W) fu0 10 31 _ _ plain31 t0
 obtain ⟨ds1,r1,s1,_,_,_⟩:=told_of (K:=fun _=>none) (Q:=qOf W) (qOf_spec W) fu1 10 25 _ _ plain25 t1
 obtain ⟨s,rfl⟩:=shp_survey s0
 obtain ⟨b,rfl⟩:=shp_box s1
 have hcall:=calls_of tab_ok (e_parts_all s b d d') (w:=W) (glob_any _) (vs:=[.agg cs0,.agg cs1,.int .i64 d,.int .i64 d']) (.cons (.agg r0) (.cons (.agg r1) (.cons (.int _ _) (.cons (.int _ _) .nil))))
 refine Calls.mono hcall ?_
 rintro e W' ⟨v,rfl,hB,K',Q',hr⟩
 cases hr
 refine ⟨_,rfl,_,_,_,[],p0 ++ (p1 ++ ([] ++ [])),[],hW',?_,?_,rfl,hB.frame _,fun h=>by cases h⟩
 · exact trodAll_mk1 (shut_bool Tryz.underlying4 true)
 · exact trodAll_mk4 (Below.trod Tryz.laidOut (by kernel_rfl) (of_decide_eq_true (by kernel_rfl)) ⟨fu0,t0⟩ hB (fun x hx=>hlt x (List.mem_append_left _ hx)))
     (Below.trod Tryz.laidOut (by kernel_rfl) (of_decide_eq_true (by kernel_rfl)) ⟨fu1,t1⟩ hB (fun x hx=>hlt x (List.mem_append_right _ (List.mem_append_left _ hx)))) (shut_int Tryz.underlying3 wd) (shut_int Tryz.underlying3 wd')
theorem surveyParts_holds:Rows.SurveyPartsSaid:=
 OpenClaim.holds_of_wide 5 Tryz.f5 rfl rfl rfl rfl rfl rfl rfl ⟨rfl,rfl,rfl,rfl,rfl⟩ rfl rfl rfl rfl rfl (by kernel_rfl) Tryz.func5 (by kernel_rfl)
   (of_decide_eq_true (by kernel_rfl)) (by unfold Func.isWrapper; first | (rw [if_pos (by decide +kernel)]; kernel_rfl) | (rw [if_neg (by decide +kernel)]; exact ⟨rfl,rfl⟩))
   (fun os started H enc _=>surveyParts_lifted os started H enc)
#print axioms surveyParts_holds
end Go.Proofs.YtbdcbppmgbekoaaGreat
