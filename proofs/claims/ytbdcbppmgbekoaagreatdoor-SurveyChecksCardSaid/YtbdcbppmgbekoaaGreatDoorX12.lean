/- gangsawlaw13.SurveyChecks returns true at every input, where the two listed word tables read as told, and leaves its arguments as they were; no conditions. -/
import Derived.Test.YtbdcbppmgbekoaaGreatDoorS40
import Derived.Test.YtbdcbppmgbekoaaGreatDoorK1
import Derived.Test.YtbdcbppmgbekoaaGreatDoorX7
import Derived.Test.YtbdcbppmgbekoaaGreatDoorX11
import Derived.Test.YtbdcbppmgbekoaaGreatDoorRows
import Derived.ProofKit
import Derived.LaidLaws
import Derived.Handed
set_option linter.unusedVariables false
set_option linter.unusedSimpArgs false
set_option linter.unusedSectionVars false
set_option linter.defProp false
set_option linter.deprecated false
namespace Gs
open Go Go.Proofs
/-! A call from a row: nothing handed over. -/
theorem core_of (w : World) : Core (fun _ => none) (qOf w) [] w :=
  ⟨fun B o v h => qOf_cell h, fun b x h => (by cases h), fun b i h => (by cases h), fun b b' i i' B o n o' n' h => (by cases h)⟩
theorem below_of {w w' : World} {q : Pm} {K' : Km} {Q' : Pm} {H' : Heap} (h : Sim ⟨w, q⟩ (fun _ => none) K' Q' H' w') : RowKit.Below w.heap.size w w' :=
  ⟨h.kept.os, h.kept.tape, h.kept.output, h.kept.size, fun k hk => h.kept.block k hk (by rintro ⟨b, i, o, n, hh, _⟩; cases hh)⟩
theorem calls_of [GlobTab] {P : Program} {T : Tab} (h : TabOk P T) {g : Nat} {args : List D} {r : D} (hc : (lim T).call g args [] = some (r, [])) {w : World} (hg : GlobOk (qOf w)) {vs : List Value} (ha : RelL (fun _ => none) (qOf w) args vs) :
    Calls P g vs.toArray w fun e w' => ∃ v, e = .returned v ∧ RowKit.Below w.heap.size w w' ∧ ∃ K' Q', Rel K' Q' r v :=
  ((gives h hc).2 _ _ w vs (by intro b hb; cases hb) hg (core_of w) ha).mono fun e w' ⟨v, he, K', Q', hs, _, hr⟩ => ⟨v, he, below_of hs, K', Q', hr⟩
theorem find_mem {α : Type} : ∀ {l : List (Nat × α)} {i : Nat} {x : α}, Tz.find l i = some x → (i, x) ∈ l
  | [], _, _, h => by cases h
  | (k, y) :: r, i, x, h => by
    unfold Tz.find at h
    cases hk : k == i with
    | true => rw [hk] at h; injection h with h; subst h; have := eq_of_beq hk; subst this; exact List.mem_cons_self
    | false => rw [hk] at h; exact List.mem_cons_of_mem _ (find_mem h)
end Gs
namespace Tz
open Gs Go Go.Proofs
theorem tab_ok : TabOk Tryz.prog T where
  mixed := mixed_ok
  ext := by
    intro g s hs args H r H' h
    have hs' : find exts g = some s := hs
    have hm := find_mem hs'
    simp only [exts, List.mem_cons, List.not_mem_nil, or_false, Prod.mk.injEq] at hm
    rcases hm with ⟨rfl, rfl⟩ | ⟨rfl, rfl⟩
    · exact gives_sortStr args H r H' h
    · exact gives_sortIv args H r H' h
  fn := by
    intro g f _ hf
    have hf' : find fns g = some f := hf
    have h := List.all_eq_true.1 all_ok (g, f) (find_mem hf')
    unfold chk1 at h
    simp only at h
    split at h
    · rename_i fn hfn; exact ⟨fn, hfn, h⟩
    · cases h
end Tz
namespace Go.Proofs.YtbdcbppmgbekoaaGreatDoor
open Go.ChangeShapes Go.WideShapes Go.ChangeAt Go.RowKit Gs Tz
theorem Tryz.own : ownKnob Tryz.prog.godebug = none := by kernel_rfl
theorem Tryz.laidOut : laidOutB Tryz.prog = true := by kernel_rfl
theorem plain31 : plainTy Tryz.prog 10 31 = true := by kernel_rfl
theorem plain58 : plainTy Tryz.prog 10 58 = true := by kernel_rfl
theorem co9 : Tryz.prog.cellsOf 9 = 1 := by kernel_rfl
theorem agg9 : isAggTy Tryz.prog 9 = false := by unfold isAggTy; rw [Tryz.underlying9]
theorem Tryz.gSide : Tryz.prog.globalNamed "gangsaw/survey.sideWords" = some 0 := by kernel_rfl
theorem Tryz.gAxis : Tryz.prog.globalNamed "gangsaw/survey.axisWords" = some 1 := by kernel_rfl
theorem Tryz.tSide : (Tryz.prog.globals[0]?).map (·.type) = some 58 := by kernel_rfl
theorem Tryz.tAxis : (Tryz.prog.globals[1]?).map (·.type) = some 58 := by kernel_rfl
def laid2 : List (String × DataW Unit) := [("gangsaw/survey.sideWords", Rows.laid_gangsaw_survey_sideWords), ("gangsaw/survey.axisWords", Rows.laid_gangsaw_survey_axisWords)]
theorem glob_ok {W : World} (h : laidMet Tryz.prog laid2 W) : GlobOk (qOf W) := by
  have h0 := strs_laid (bss := [[101, 97, 115, 116], [119, 101, 115, 116], [110, 111, 114, 116, 104], [115, 111, 117, 116, 104]]) Tryz.gSide Tryz.tSide Tryz.underlying58 Tryz.underlying9 co9 plain58 agg9 (by simp)
    (Go.Lib.laidMet.reads h (n := "gangsaw/survey.sideWords") (d := Rows.laid_gangsaw_survey_sideWords) (by simp [laid2]))
  have h1 := strs_laid (bss := [[120], [121]]) Tryz.gAxis Tryz.tAxis Tryz.underlying58 Tryz.underlying9 co9 plain58 agg9 (by simp)
    (Go.Lib.laidMet.reads h (n := "gangsaw/survey.axisWords") (d := Rows.laid_gangsaw_survey_axisWords) (by simp [laid2]))
  intro g cs hg
  match g, hg with
  | 0, hg => injection hg with hg; subst hg; exact ⟨rfl, h0⟩
  | 1, hg => injection hg with hg; subst hg; exact ⟨rfl, h1⟩
  | g + 2, hg => cases hg
/-! A start at which the listed variables read so. -/
noncomputable def low : Nat := (World.holding Tryz.prog default ⟨#[], #[], []⟩).heap.size
noncomputable def laidWorld (os : Os) : World :=
  let w0 := World.holding Tryz.prog os ⟨#[.cells #[.string bEast, .string bWest, .string bNorth, .string bSouth] 9, .cells #[.string bX, .string bY] 9], #[], []⟩
  { w0 with heap := (w0.heap.modify 0 fun
      | .cells _ t frozen => .cells #[.slice (some ⟨low, 0, none⟩) 4 4] t frozen
      | o => o).modify 1 fun
      | .cells _ t frozen => .cells #[.slice (some ⟨low + 1, 0, none⟩) 2 2] t frozen
      | o => o }
def zeroSurvey : Value := .agg #[.int .i64 0, .int .i64 0, .int .i64 0, .int .i64 0, .int .i64 0, .int .i64 0, .bool false, .bool false, .bool false, .bool false, .slice none 0 0, .slice none 0 0, .slice none 0 0]
theorem laidWorld_met (os : Os) (args : Array Value) : laidMet Tryz.prog laid2 ((laidWorld os).forCall (fun _ _ => 0) ⟨#[], args, []⟩).memory :=
  laidMet_of_run' 8 (by kernel_rfl) (by kernel_rfl)
set_option maxRecDepth 100000 in
theorem surveyChecks_lifted (os : Os) (started : os.Started) (H : Type) (enc : TypeId × Value → H) :
    ReturnsInHanded {} Tryz.checked os 3 .any (fun w args => (Rows.surveyChecksSpec.pre enc Tryz.prog Tryz.f3 [] false w args ∧ laidMet Tryz.prog laid2 w) ∧ sizedMet enc Tryz.prog Tryz.f3 (OpenSpec.ofChange Rows.surveyChecksSpec) false w args)
      (Rows.surveyChecksSpec.post enc Tryz.prog Tryz.f3 false true false false) := by
  refine returnsInHanded_of_change_and (C := Tryz.checked) (X := fun w _ => laidMet Tryz.prog laid2 w) (fun _ _ _ hh h => h.of_heap hh) Tryz.own started (by kernel_rfl) Tryz.func3
    (ChangeSpec.witness_shaped (enc := enc) (C := Tryz.checked) (os := os) (X := fun w _ => laidMet Tryz.prog laid2 w) false (laidWorld os) #[zeroSurvey, zeroSurvey] 8 rfl (World.shaped_of_RefB (by kernel_rfl) (by kernel_rfl)) (by kernel_rfl) (by kernel_rfl) (by kernel_rfl) (laidWorld_met os _)) ?_
  intro W base args ds gs before hval0 hW _ _ hL _
  have hval : ∀ (j : Nat) t v, Tryz.f3.params[j]? = some t → args[j]? = some v → Value.okWide Tryz.prog W .any base t v := hval0
  have hW' := hW
  obtain ⟨p, q, hA0, hV, rfl, hfz, hnd⟩ := hW
  have hA : DataW.TrodAll enc Tryz.prog W 0 (fun _ => true) true Tryz.f3.params.toList args.toList ds p := hA0
  rw [Tryz.params3] at hA hval
  obtain ⟨v0, v1, d0, d1, p0, p1, rfl, rfl, rfl, h0, h1⟩ := trodAll_two hA
  obtain ⟨rfl, rfl⟩ := trodVars_none hV
  obtain ⟨cs0, rfl, hz0⟩ := okWide_struct Tryz.underlying31 (hval 0 31 v0 rfl rfl)
  obtain ⟨cs1, rfl, hz1⟩ := okWide_struct Tryz.underlying31 (hval 1 31 v1 rfl rfl)
  clear hA0 hval0
  simp only [List.append_nil] at hW'
  have hlt : ∀ x ∈ p0 ++ p1, x.block < W.heap.size := fun x hx => hW'.lt x (by simpa using hx)
  obtain ⟨fu0, t0⟩ := h0
  obtain ⟨fu1, t1⟩ := h1
  obtain ⟨ds0, r0, s0, _, _, _⟩ := told_of (K := fun _ => none) (Q := qOf W) (qOf_spec W) fu0 10 31 _ _ plain31 t0
  obtain ⟨ds1, r1, s1, _, _, _⟩ := told_of (K := fun _ => none) (Q := qOf W) (qOf_spec W) fu1 10 31 _ _ plain31 t1
  obtain ⟨s, rfl⟩ := shp_survey s0
  obtain ⟨t, rfl⟩ := shp_survey s1
  have hcall := calls_of tab_ok (e_checks s t) (w := W) (glob_ok hL) (vs := [.agg cs0, .agg cs1]) (.cons (.agg r0) (.cons (.agg r1) .nil))
  refine Calls.mono hcall ?_
  rintro e W' ⟨v, rfl, hB, K', Q', hr⟩
  cases hr
  refine ⟨_, rfl, _, _, _, [], p0 ++ p1, [], hW', ?_, ?_, rfl, hB.frame _, fun h => by cases h⟩
  · exact trodAll_mk1 (shut_bool Tryz.underlying4 true)
  · exact trodAll_mk2 (Below.trod Tryz.laidOut (by kernel_rfl) (of_decide_eq_true (by kernel_rfl)) ⟨fu0, t0⟩ hB (fun x hx => hlt x (List.mem_append_left _ hx)))
      (Below.trod Tryz.laidOut (by kernel_rfl) (of_decide_eq_true (by kernel_rfl)) ⟨fu1, t1⟩ hB (fun x hx => hlt x (List.mem_append_right _ hx)))
theorem surveyChecks_holds : Rows.SurveyChecksSaid :=
  OpenClaim.holds_of_wide 3 Tryz.f3 rfl rfl rfl rfl rfl rfl rfl ⟨rfl, rfl, rfl, rfl, rfl⟩ rfl rfl rfl rfl rfl (by kernel_rfl) Tryz.func3 (by kernel_rfl)
    (of_decide_eq_true (by kernel_rfl)) (by unfold Func.isWrapper; first | (rw [if_pos (by decide +kernel)]; kernel_rfl) | (rw [if_neg (by decide +kernel)]; exact ⟨rfl, rfl⟩))
    (fun os started H enc _ => surveyChecks_lifted os started H enc)
#print axioms surveyChecks_holds
end Go.Proofs.YtbdcbppmgbekoaaGreatDoor
