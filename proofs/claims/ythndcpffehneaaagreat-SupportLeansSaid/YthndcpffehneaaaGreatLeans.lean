/- gangsawlaw18.SupportLeans returns true at every input and leaves its arguments as they were; no conditions. -/
import Derived.Test.YthndcpffehneaaaGreatXJ
import Derived.Test.YthndcpffehneaaaGreatS68
import Derived.Test.YthndcpffehneaaaGreatX9
import Derived.Test.YthndcpffehneaaaGreatRows
set_option linter.unusedVariables false
set_option linter.unusedSimpArgs false
set_option linter.unusedSectionVars false
set_option linter.defProp false
set_option linter.deprecated false
namespace Go.Proofs.YthndcpffehneaaaGreat
open Go.ChangeShapes Go.WideShapes Go.ChangeAt Go.RowKit Gs Tz
theorem Tryz.own : ownKnob Tryz.prog.godebug = none := by kernel_rfl
theorem Tryz.laidOut : laidOutB Tryz.prog = true := by kernel_rfl
theorem plain9 : plainTy Tryz.prog 10 9 = true := by kernel_rfl
theorem plain22 : plainTy Tryz.prog 10 22 = true := by kernel_rfl
set_option maxRecDepth 100000 in
theorem supportLeans_lifted (os : Os) (started : os.Started) (H : Type) (enc : TypeId × Value → H) :
    ReturnsInHanded {} Tryz.checked os 3 .any (Rows.supportLeansSpec.pre6 enc Tryz.prog Tryz.f3 Rows.supportLeansRow.domain false) (Rows.supportLeansSpec.post enc Tryz.prog Tryz.f3 false true false false) := by
  refine returnsInHanded_of_change (C := Tryz.checked) Tryz.own started (by kernel_rfl) Tryz.func3
    (ChangeSpec.witness6 (enc := enc) (C := Tryz.checked) false ⟨#[], #[.slice none 0 0, .string ByteArray.empty], []⟩ 8 (by kernel_rfl) (by kernel_rfl) (by kernel_rfl) (by kernel_rfl)) ?_
  intro W base args ds gs before hval0 hW hcnd _
  have hval : ∀ (j : Nat) t v, Tryz.f3.params[j]? = some t → args[j]? = some v → Value.okWide Tryz.prog W .any base t v := hval0
  have hW' := hW
  obtain ⟨p, q, hA0, hV, rfl, hfz, hnd⟩ := hW
  have hA : DataW.TrodAll enc Tryz.prog W 0 (fun _ => true) true Tryz.f3.params.toList args.toList ds p := hA0
  rw [Tryz.params3] at hA hval
  obtain ⟨v0, v1, d0, d1, p0, p1, rfl, rfl, rfl, h0, h1⟩ := trodAll_two hA
  obtain ⟨rfl, rfl⟩ := trodVars_none hV
  obtain ⟨a0, len0, cap0, rfl⟩ := okWide_slice Tryz.underlying22 (hval 0 22 v0 rfl rfl)
  obtain ⟨s1, rfl⟩ := okWide_string Tryz.underlying9 (hval 1 9 v1 rfl rfl)
  clear hA0 hval0
  simp only [List.append_nil] at hW'
  have hlt : ∀ x ∈ p0 ++ p1, x.block < W.heap.size := fun x hx => hW'.lt x (by simpa using hx)
  obtain ⟨fu0, t0⟩ := h0
  obtain ⟨fu1, t1⟩ := h1
  obtain ⟨ds0, r0, sh0, _, _, _⟩ := told_of (K := fun _ => none) (Q := qOf W) (qOf_spec W) fu0 10 22 _ _ plain22 t0
  obtain ⟨ds1, r1, sh1, _, _, _⟩ := told_of (K := fun _ => none) (Q := qOf W) (qOf_spec W) fu1 10 9 _ _ plain9 t1
  obtain ⟨bs, rfl⟩ := shp_blocks sh0
  obtain ⟨nm, rfl⟩ := shp_string sh1
  have rr0 := relL_one r0
  have rr1 := relL_one r1
  have hcall := calls_of tab_ok (leans_true bs nm) (w := W) (glob_any _) (vs := [.slice a0 len0 cap0, .string s1]) (.cons rr0 (.cons rr1 .nil))
  refine Calls.mono hcall ?_
  rintro e W' ⟨v, rfl, hB, K', Q', hr⟩
  cases hr
  refine ⟨_, rfl, _, _, _, [], p0 ++ p1, [], hW', ?_, ?_, rfl, hB.frame _, fun h => by cases h⟩
  · exact trodAll_mk1 (shut_bool Tryz.underlying4 true)
  · exact trodAll_mk2 (Below.trod Tryz.laidOut (by kernel_rfl) (of_decide_eq_true (by kernel_rfl)) ⟨fu0, t0⟩ hB (fun x hx => hlt x (List.mem_append_left _ hx)))
      (Below.trod Tryz.laidOut (by kernel_rfl) (of_decide_eq_true (by kernel_rfl)) ⟨fu1, t1⟩ hB (fun x hx => hlt x (List.mem_append_right _ hx)))
theorem supportLeans_holds : Rows.SupportLeansSaid :=
  OpenClaim.holds_of_wide 3 Tryz.f3 rfl rfl rfl rfl rfl rfl rfl ⟨rfl, rfl, rfl, rfl, rfl⟩ rfl rfl rfl rfl rfl (by kernel_rfl) Tryz.func3 (by kernel_rfl)
    (of_decide_eq_true (by kernel_rfl)) (by unfold Func.isWrapper; first | (rw [if_pos (by decide +kernel)]; kernel_rfl) | (rw [if_neg (by decide +kernel)]; exact ⟨rfl, rfl⟩))
    (fun os started H enc _ => supportLeans_lifted os started H enc)
#print axioms supportLeans_holds
end Go.Proofs.YthndcpffehneaaaGreat
