/- What the evaluator says of a call, the model gives; no conditions. -/
import Derived.Test.YthndcpffehneaaaGreatK1
import Derived.Test.YthndcpffehneaaaGreatX7
import Derived.Test.YthndcpffehneaaaGreatX9
import Derived.ProofKit
import Derived.Handed
set_option linter.unusedVariables false
set_option linter.unusedSimpArgs false
set_option linter.unusedSectionVars false
set_option linter.defProp false
set_option linter.deprecated false
namespace Gs
open Go Go.Proofs
/-! A call from a row: nothing handed over. -/
/-- The cells of a world that hold data, as they are. -/
noncomputable def qOf (w : World) : Pm := fun B o => match w.cell? ⟨B, o, none⟩ with
  | some v => if v.oneCell' = true then some v else none
  | none => none
theorem qOf_spec (w : World) (B o : Nat) (v : Value) (h : w.cell? ⟨B, o, none⟩ = some v) (h1 : v.oneCell' = true) : qOf w B o = some v := by
  simp [qOf, h, h1]
theorem qOf_cell {w : World} {B o : Nat} {v : Value} (h : qOf w B o = some v) : w.cell? ⟨B, o, none⟩ = some v ∧ v.oneCell' = true := by
  unfold qOf at h
  cases hc : w.cell? ⟨B, o, none⟩ with
  | none => rw [hc] at h; cases h
  | some u =>
    rw [hc] at h
    simp only at h
    by_cases h1 : u.oneCell' = true
    · rw [if_pos h1] at h; injection h with h; subst h; exact ⟨rfl, h1⟩
    · rw [if_neg h1] at h; cases h
theorem core_of (w : World) : Core (fun _ => none) (qOf w) [] w :=
  ⟨fun B o v h => .inl (qOf_cell h), fun b x h => (by cases h), fun b i h => (by cases h), fun b b' i i' B o n o' n' h => (by cases h)⟩
theorem below_of {w w' : World} {q : Pm} {K' : Km} {Q' : Pm} {H' : Heap} (h : Sim ⟨w, q⟩ (fun _ => none) K' Q' H' w') : RowKit.Below w.heap.size w w' :=
  ⟨h.kept.os, h.kept.tape, h.kept.output, h.kept.size, fun k hk => h.kept.block k hk (by rintro ⟨b, i, o, n, hh, _⟩; cases hh)⟩
theorem calls_of [GlobTab] {P : Program} {T : Tab} (h : TabOk P T) {g : Nat} {args : List D} {r : D} (hc : (lim T).call g args [] = some (r, [])) {w : World} (hg : GlobOk (qOf w)) {vs : List Value} (ha : RelL (fun _ => none) (qOf w) args vs) :
    Calls P g vs.toArray w fun e w' => ∃ v, e = .returned v ∧ RowKit.Below w.heap.size w w' ∧ ∃ K' Q', Rel K' Q' r v :=
  ((gives h hc).2 _ _ w vs (by intro b hb; cases hb) hg (core_of w) ha).mono fun e w' ⟨v, he, K', Q', hs, _, hr⟩ => ⟨v, he, below_of hs, K', Q', hr⟩
theorem relL_one {K : Km} {Q : Pm} {d : D} {v : Value} (h : RelL K Q [d] [v]) : Rel K Q d v := by cases h with | cons h _ => exact h
theorem find_mem {α : Type} : ∀ {l : List (Nat × α)} {i : Nat} {x : α}, Tz.find l i = some x → (i, x) ∈ l
  | [], _, _, h => by cases h
  | (k, y) :: r, i, x, h => by
    unfold Tz.find at h
    cases hk : k == i with
    | true => rw [hk] at h; injection h with h; subst h; have := eq_of_beq hk; subst this; exact List.mem_cons_self
    | false => rw [hk] at h; exact List.mem_cons_of_mem _ (find_mem h)
end Gs
namespace Tz
open Gs Go Go.Proofs
theorem glob_any (Q : Pm) : GlobOk Q := by
  intro g cs hg
  cases hg
theorem tab_ok : TabOk Tryz.prog T where
  mixed := mixed_ok
  ext := by
    intro g s hs args H r H' h
    have hs' : find exts g = some s := hs
    have hm := find_mem hs'
    simp only [exts, List.mem_cons, List.not_mem_nil, or_false, Prod.mk.injEq] at hm
    rcases hm with ⟨rfl, rfl⟩ | ⟨rfl, rfl⟩
    · exact gives_sortStr args H r H' h
    · exact gives_sortIv args H r H' h
  fn := by
    intro g f _ hf
    have hf' : find fns g = some f := hf
    have h := List.all_eq_true.1 all_ok (g, f) (find_mem hf')
    unfold chk1 at h
    simp only at h
    split at h
    · rename_i fn hfn; exact ⟨fn, hfn, h⟩
    · cases h
end Tz
