/- gangsawlaw21.ExtractionRefuted returns true at every input and leaves its arguments as they were; no conditions. -/
import Derived.Test.YtboigolndjinhaaGreatX28a
import Derived.Test.YtboigolndjinhaaGreatX28b
import Derived.Test.YtboigolndjinhaaGreatX9toXJd
import Derived.Test.YtboigolndjinhaaGreatS125toS136
import Derived.Test.YtboigolndjinhaaGreatX9r
import Derived.Test.YtboigolndjinhaaGreatX5a
import Derived.Carry
import Derived.Test.YtboigolndjinhaaGreatRows
set_option linter.all false
namespace Go.Proofs.YtboigolndjinhaaGreat
open Go.ChangeShapes Go.WideShapes Go.ChangeAt Go.RowKit Gs Tz Tz.C18
theorem Tryz.own:ownKnob Tryz.prog.godebug=none:=by kernel_rfl
theorem Tryz.laidOut:laidOutB Tryz.prog=true:=by kernel_rfl
theorem plain9:plainTy Tryz.prog 10 9=true:=by kernel_rfl
theorem plain38:plainTy Tryz.prog 10 38=true:=by kernel_rfl
theorem plain46:plainTy Tryz.prog 10 46=true:=by kernel_rfl
theorem plain48:plainTy Tryz.prog 10 48=true:=by kernel_rfl
set_option maxRecDepth 100000 in
theorem extractionRefuted_lifted (os:Os)(started:os.Started)(H:Type)(enc:TypeId×Value→H) :
   ReturnsInHanded {} Tryz.checked os 8 .any (Rows.extractionRefutedSpec.pre6 enc Tryz.prog Tryz.f8 Rows.extractionRefutedRow.domain false) (Rows.extractionRefutedSpec.post enc Tryz.prog Tryz.f8 false true false false):=by
 refine returnsInHanded_of_change (C:=Tryz.checked) Tryz.own started (by kernel_rfl) Tryz.func8
   (ChangeSpec.witness6 (enc:=enc) (C:=Tryz.checked) false ⟨#[],#[.agg #[.int .i64 0,.int .i64 0,.int .i64 0,.int .i64 0,.int .i64 0,.int .i64 0,.bool false,.bool false,.bool false,.bool false,.slice none 0 0,.slice none 0 0,.slice none 0 0,.slice none 0 0,.slice none 0 0,.int .i64 0,.int .i64 0,.slice none 0 0,.int .i64 0],.string ByteArray.empty,.slice none 0 0,.slice none 0 0,.slice none 0 0],[]⟩ 8 (by kernel_rfl) (by kernel_rfl) (by kernel_rfl) (by kernel_rfl)) ?_
 intro W base args ds gs before hval0 hW hcnd _
 have hval:∀ (j:Nat) t v,Tryz.f8.params[j]?=some t→args[j]?=some v→Value.okWide Tryz.prog W .any base t v:=hval0
 have hW':=hW
 obtain ⟨p,q,hA0,hV,rfl,hfz,hnd⟩:=hW
 have hA:DataW.TrodAll enc Tryz.prog W 0 (fun _=>true) true Tryz.f8.params.toList args.toList ds p:=hA0
 rw [Tryz.params8] at hA hval
 obtain ⟨v0,v1,v2,v3,v4,d0,d1,d2,d3,d4,p0,p1,p2,p3,p4,rfl,rfl,rfl,h0,h1,h2,h3,h4⟩:=trodAll_five hA
 obtain ⟨rfl,rfl⟩:=trodVars_none hV
 obtain ⟨cs0,rfl,hz0⟩:=okWide_struct Tryz.underlying38 (hval 0 38 v0 rfl rfl)
 obtain ⟨s1,rfl⟩:=okWide_string Tryz.underlying9 (hval 1 9 v1 rfl rfl)
 obtain ⟨a2,len2,cap2,rfl⟩:=okWide_slice Tryz.underlying48 (hval 2 48 v2 rfl rfl)
 obtain ⟨a3,len3,cap3,rfl⟩:=okWide_slice Tryz.underlying46 (hval 3 46 v3 rfl rfl)
 obtain ⟨a4,len4,cap4,rfl⟩:=okWide_slice Tryz.underlying48 (hval 4 48 v4 rfl rfl)
 clear hA0 hval0
 simp only [List.append_nil] at hW'
 have hlt:∀ x∈p0 ++ (p1 ++ (p2 ++ (p3 ++ p4))),x.block < W.heap.size:=fun x hx=>hW'.lt x (by simpa using hx)
 obtain ⟨fu0,t0⟩:=h0
 obtain ⟨fu1,t1⟩:=h1
 obtain ⟨fu2,t2⟩:=h2
 obtain ⟨fu3,t3⟩:=h3
 obtain ⟨fu4,t4⟩:=h4
 obtain ⟨ds0,r0,sh0,_,_,_⟩:=told_of (K:=fun _=>none) (Q:=qOf W) (qOf_spec W) fu0 10 38 _ _ plain38 t0
 obtain ⟨ds1,r1,sh1,_,_,_⟩:=told_of (K:=fun _=>none) (Q:=qOf W) (qOf_spec W) fu1 10 9 _ _ plain9 t1
 obtain ⟨ds2,r2,sh2,_,_,_⟩:=told_of (K:=fun _=>none) (Q:=qOf W) (qOf_spec W) fu2 10 48 _ _ plain48 t2
 obtain ⟨ds3,r3,sh3,_,_,_⟩:=told_of (K:=fun _=>none) (Q:=qOf W) (qOf_spec W) fu3 10 46 _ _ plain46 t3
 obtain ⟨ds4,r4,sh4,_,_,_⟩:=told_of (K:=fun _=>none) (Q:=qOf W) (qOf_spec W) fu4 10 48 _ _ plain48 t4
 obtain ⟨s,rfl⟩:=shp_site sh0
 obtain ⟨goal,rfl⟩:=shp_string sh1
 obtain ⟨fr,rfl⟩:=shp_strs sh2
 obtain ⟨l,rfl⟩:=shp_refusals sh3
 obtain ⟨o,rfl⟩:=shp_strs sh4
 have rr1:=relL_one r1
 have rr2:=relL_one r2
 have rr3:=relL_one r3
 have rr4:=relL_one r4
 have hcall:=calls_of tab_ok (e_xrefuted s goal fr l o) (w:=W) (glob_any _) (vs:=[.agg cs0,.string s1,.slice a2 len2 cap2,.slice a3 len3 cap3,.slice a4 len4 cap4]) (.cons (.agg r0) (.cons rr1 (.cons rr2 (.cons rr3 (.cons rr4 .nil)))))
 refine Calls.mono hcall ?_
 rintro e W' ⟨v,rfl,hB,K',Q',hr⟩
 cases hr
 refine ⟨_,rfl,_,_,_,[],p0 ++ (p1 ++ (p2 ++ (p3 ++ p4))),[],hW',?_,?_,rfl,hB.frame _,fun h=>by cases h⟩
 · exact trodAll_mk1 (shut_bool Tryz.underlying4 true)
 · exact trodAll_mk5 (Below.trod Tryz.laidOut (by kernel_rfl) (of_decide_eq_true (by kernel_rfl)) ⟨fu0,t0⟩ hB (fun x hx=>hlt x (List.mem_append_left _ hx)))
     (Below.trod Tryz.laidOut (by kernel_rfl) (of_decide_eq_true (by kernel_rfl)) ⟨fu1,t1⟩ hB (fun x hx=>hlt x (List.mem_append_right _ (List.mem_append_left _ hx))))
     (Below.trod Tryz.laidOut (by kernel_rfl) (of_decide_eq_true (by kernel_rfl)) ⟨fu2,t2⟩ hB (fun x hx=>hlt x (List.mem_append_right _ (List.mem_append_right _ (List.mem_append_left _ hx)))))
     (Below.trod Tryz.laidOut (by kernel_rfl) (of_decide_eq_true (by kernel_rfl)) ⟨fu3,t3⟩ hB (fun x hx=>hlt x (List.mem_append_right _ (List.mem_append_right _ (List.mem_append_right _ (List.mem_append_left _ hx))))))
     (Below.trod Tryz.laidOut (by kernel_rfl) (of_decide_eq_true (by kernel_rfl)) ⟨fu4,t4⟩ hB (fun x hx=>hlt x (List.mem_append_right _ (List.mem_append_right _ (List.mem_append_right _ (List.mem_append_right _ hx))))))
theorem closed8:joinedFacts Tryz.pinned.checked.prog 8 Tryz.f8 Rows.extractionRefutedSpec Rows.extractionRefutedRow=true:=by
 simp only [joinedFacts,Bool.and_eq_true]
 exact ⟨⟨⟨⟨⟨⟨⟨⟨⟨⟨⟨⟨⟨⟨⟨⟨⟨⟨⟨⟨⟨⟨⟨⟨⟨⟨⟨⟨⟨⟨⟨(by kernel_rfl),(by kernel_rfl)⟩,(by kernel_rfl)⟩,(by kernel_rfl)⟩,(by kernel_rfl)⟩,(by kernel_rfl)⟩,(by kernel_rfl)⟩,(by kernel_rfl)⟩,(by kernel_rfl)⟩,closed_inPlace8⟩,closed_unfollowed8⟩,closed_recurses8⟩,closed_varsNamed8⟩,(by kernel_rfl)⟩,(by kernel_rfl)⟩,(by kernel_rfl)⟩,(by kernel_rfl)⟩,(by kernel_rfl)⟩,(by kernel_rfl)⟩,(by kernel_rfl)⟩,(by kernel_rfl)⟩,(by kernel_rfl)⟩,(by kernel_rfl)⟩,(by kernel_rfl)⟩,(by kernel_rfl)⟩,(by kernel_rfl)⟩,(by kernel_rfl)⟩,(by kernel_rfl)⟩,(by kernel_rfl)⟩,(by kernel_rfl)⟩,(by kernel_rfl)⟩,(by kernel_rfl)⟩
theorem extractionRefuted_holds:Rows.ExtractionRefutedSaid:=
 OpenClaim.holds_of_wide 8 Tryz.f8 rfl rfl rfl rfl rfl rfl rfl ⟨rfl,rfl,rfl,rfl,rfl⟩ rfl rfl rfl rfl rfl (by kernel_rfl) Tryz.func8 closed8
   (of_decide_eq_true (by kernel_rfl)) (by unfold Func.isWrapper; first | (rw [if_pos (by decide +kernel)]; kernel_rfl) | (rw [if_neg (by decide +kernel)]; exact ⟨rfl,rfl⟩))
   (fun os started H enc _=>extractionRefuted_lifted os started H enc)
#print axioms extractionRefuted_holds
end Go.Proofs.YtboigolndjinhaaGreat
