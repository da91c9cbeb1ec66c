/- gangsawlaw13.SurveySides returns true at every input and leaves its arguments as they were; no conditions. -/
import Derived.Test.YtbdcbppmgbekoaaGreatS24
import Derived.Test.YtbdcbppmgbekoaaGreatK1
import Derived.Test.YtbdcbppmgbekoaaGreatX7
import Derived.Test.YtbdcbppmgbekoaaGreatX9
import Derived.Test.YtbdcbppmgbekoaaGreatRows
import Derived.ProofKit
set_option linter.unusedVariables false
set_option linter.unusedSimpArgs false
set_option linter.unusedSectionVars false
set_option linter.defProp false
set_option linter.deprecated false
namespace Gs
open Go Go.Proofs
/-! A call from a row: nothing handed over. -/
noncomputable def qOf (w : World) : Pm := fun B o => match w.cell? ⟨B, o, none⟩ with
  | some v => if v.oneCell' = true then some v else none
  | none => none
theorem qOf_spec (w : World) (B o : Nat) (v : Value) (h : w.cell? ⟨B, o, none⟩ = some v) (h1 : v.oneCell' = true) : qOf w B o = some v := by
  simp [qOf, h, h1]
theorem core_of (w : World) : Core (fun _ => none) (qOf w) [] w := by
  refine ⟨fun B o v h => ?_, fun b x h => (by cases h), fun b i h => (by cases h), fun b b' i i' B o n o' n' h => (by cases h)⟩
  unfold qOf at h
  cases hc : w.cell? ⟨B, o, none⟩ with
  | none => rw [hc] at h; cases h
  | some u =>
    rw [hc] at h
    simp only at h
    by_cases h1 : u.oneCell' = true
    · rw [if_pos h1] at h; injection h with h; subst h; exact ⟨rfl, h1⟩
    · rw [if_neg h1] at h; cases h
theorem below_of {w w' : World} {q : Pm} {K' : Km} {Q' : Pm} {H' : Heap} (h : Sim ⟨w, q⟩ (fun _ => none) K' Q' H' w') : RowKit.Below w.heap.size w w' :=
  ⟨h.kept.os, h.kept.tape, h.kept.output, h.kept.size, fun k hk => h.kept.block k hk (by rintro ⟨b, i, o, n, hh, _⟩; cases hh)⟩
theorem calls_of {P : Program} {T : Tab} (h : TabOk P T) {g : Nat} {args : List D} {r : D} (hc : (lim T).call g args [] = some (r, [])) {w : World} {vs : List Value} (ha : RelL (fun _ => none) (qOf w) args vs) :
    Calls P g vs.toArray w fun e w' => ∃ v, e = .returned v ∧ RowKit.Below w.heap.size w w' ∧ ∃ K' Q', Rel K' Q' r v :=
  ((gives h hc).2 _ _ w vs (by intro b hb; cases hb) (core_of w) ha).mono fun e w' ⟨v, he, K', Q', hs, _, hr⟩ => ⟨v, he, below_of hs, K', Q', hr⟩
theorem find_mem {α : Type} : ∀ {l : List (Nat × α)} {i : Nat} {x : α}, Tz.find l i = some x → (i, x) ∈ l
  | [], _, _, h => by cases h
  | (k, y) :: r, i, x, h => by
    unfold Tz.find at h
    cases hk : k == i with
    | true => rw [hk] at h; injection h with h; subst h; have := eq_of_beq hk; subst this; exact List.mem_cons_self
    | false => rw [hk] at h; exact List.mem_cons_of_mem _ (find_mem h)
end Gs
namespace Tz
open Gs Go Go.Proofs
theorem tab_ok : TabOk Tryz.prog T where
  mixed := mixed_ok
  ext := by
    intro g s hs args H r H' h
    have hs' : find exts g = some s := hs
    have hm := find_mem hs'
    simp only [exts, List.mem_cons, List.not_mem_nil, or_false, Prod.mk.injEq] at hm
    rcases hm with ⟨rfl, rfl⟩ | ⟨rfl, rfl⟩
    · exact gives_sortStr args H r H' h
    · exact gives_sortIv args H r H' h
  fn := by
    intro g f _ hf
    have hf' : find fns g = some f := hf
    have h := List.all_eq_true.1 all_ok (g, f) (find_mem hf')
    unfold chk1 at h
    simp only at h
    split at h
    · rename_i fn hfn; exact ⟨fn, hfn, h⟩
    · cases h
end Tz
namespace Go.Proofs.YtbdcbppmgbekoaaGreat
open Go.ChangeShapes Go.WideShapes Go.ChangeAt Go.RowKit Gs Tz
theorem Tryz.own : ownKnob Tryz.prog.godebug = none := by kernel_rfl
theorem Tryz.laidOut : laidOutB Tryz.prog = true := by kernel_rfl
theorem plain31 : plainTy Tryz.prog 10 31 = true := by kernel_rfl
theorem plain25 : plainTy Tryz.prog 10 25 = true := by kernel_rfl
set_option maxRecDepth 100000 in
theorem surveySides_lifted (os : Os) (started : os.Started) (H : Type) (enc : TypeId × Value → H) :
    ReturnsInHanded {} Tryz.checked os 3 .any (Rows.surveySidesSpec.pre6 enc Tryz.prog Tryz.f3 Rows.surveySidesRow.domain false) (Rows.surveySidesSpec.post enc Tryz.prog Tryz.f3 false true false false) := by
  refine returnsInHanded_of_change (C := Tryz.checked) Tryz.own started (by kernel_rfl) Tryz.func3
    (ChangeSpec.witness6 (enc := enc) (C := Tryz.checked) false ⟨#[], #[.agg #[.int .i64 0, .int .i64 0, .int .i64 0, .int .i64 0, .int .i64 0, .int .i64 0, .bool false, .bool false, .bool false, .bool false, .slice none 0 0, .slice none 0 0, .slice none 0 0], .agg #[.int .i64 0, .int .i64 0, .int .i64 0, .int .i64 0, .int .i64 0, .int .i64 0], .int .i64 0], []⟩ 8 (by kernel_rfl) (by kernel_rfl) (by kernel_rfl) (by kernel_rfl)) ?_
  intro W base args ds gs before hval0 hW hcnd _
  have hval : ∀ (j : Nat) t v, Tryz.f3.params[j]? = some t → args[j]? = some v → Value.okWide Tryz.prog W .any base t v := hval0
  have hW' := hW
  obtain ⟨p, q, hA0, hV, rfl, hfz, hnd⟩ := hW
  have hA : DataW.TrodAll enc Tryz.prog W 0 (fun _ => true) true Tryz.f3.params.toList args.toList ds p := hA0
  rw [Tryz.params3] at hA hval
  obtain ⟨v0, v1, v2, d0, d1, d2, p0, p1, p2, rfl, rfl, rfl, h0, h1, h2⟩ := trodAll_three hA
  obtain ⟨rfl, rfl⟩ := trodVars_none hV
  obtain ⟨cs0, rfl, hz0⟩ := okWide_struct Tryz.underlying31 (hval 0 31 v0 rfl rfl)
  obtain ⟨cs1, rfl, hz1⟩ := okWide_struct Tryz.underlying25 (hval 1 25 v1 rfl rfl)
  obtain ⟨d, rfl, rfl, rfl, wd⟩ := open_int Tryz.underlying3 (hval 2 3 v2 rfl rfl) h2
  clear hA0 hval0
  simp only [List.append_nil] at hW'
  have hlt : ∀ x ∈ p0 ++ (p1 ++ []), x.block < W.heap.size := fun x hx => hW'.lt x (by simpa using hx)
  obtain ⟨fu0, t0⟩ := h0
  obtain ⟨fu1, t1⟩ := h1
  obtain ⟨ds0, r0, s0, _, _, _⟩ := told_of (K := fun _ => none) (Q := qOf W) (qOf_spec W) fu0 10 31 _ _ plain31 t0
  obtain ⟨ds1, r1, s1, _, _, _⟩ := told_of (K := fun _ => none) (Q := qOf W) (qOf_spec W) fu1 10 25 _ _ plain25 t1
  obtain ⟨s, rfl⟩ := shp_survey s0
  obtain ⟨b, rfl⟩ := shp_box s1
  have hcall := calls_of tab_ok (e_sides_all s b d) (w := W) (vs := [.agg cs0, .agg cs1, .int .i64 d]) (.cons (.agg r0) (.cons (.agg r1) (.cons (.int _ _) .nil)))
  refine Calls.mono hcall ?_
  rintro e W' ⟨v, rfl, hB, K', Q', hr⟩
  cases hr
  refine ⟨_, rfl, _, _, _, [], p0 ++ (p1 ++ []), [], hW', ?_, ?_, rfl, hB.frame _, fun h => by cases h⟩
  · exact trodAll_mk1 (shut_bool Tryz.underlying4 true)
  · exact trodAll_mk3 (Below.trod Tryz.laidOut (by kernel_rfl) (of_decide_eq_true (by kernel_rfl)) ⟨fu0, t0⟩ hB (fun x hx => hlt x (List.mem_append_left _ hx)))
      (Below.trod Tryz.laidOut (by kernel_rfl) (of_decide_eq_true (by kernel_rfl)) ⟨fu1, t1⟩ hB (fun x hx => hlt x (List.mem_append_right _ (List.mem_append_left _ hx)))) (shut_int Tryz.underlying3 wd)
theorem surveySides_holds : Rows.SurveySidesSaid :=
  OpenClaim.holds_of_wide 3 Tryz.f3 rfl rfl rfl rfl rfl rfl rfl ⟨rfl, rfl, rfl, rfl, rfl⟩ rfl rfl rfl rfl rfl (by kernel_rfl) Tryz.func3 (by kernel_rfl)
    (of_decide_eq_true (by kernel_rfl)) (by unfold Func.isWrapper; first | (rw [if_pos (by decide +kernel)]; kernel_rfl) | (rw [if_neg (by decide +kernel)]; exact ⟨rfl, rfl⟩))
    (fun os started H enc _ => surveySides_lifted os started H enc)
#print axioms surveySides_holds
end Go.Proofs.YtbdcbppmgbekoaaGreat
