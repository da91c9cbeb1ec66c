/- Part S88; no conditions. -/
import Derived.Test.YthndcpffehneaaaGreatS87
import Derived.Test.YthndcpffehneaaaGreatS0A
set_option linter.unusedVariables false
set_option linter.unusedSimpArgs false
set_option linter.unusedSectionVars false
set_option linter.defProp false
set_option linter.deprecated false
set_option maxRecDepth 100000
open Gs Go
namespace Tz.C18
/-! One more block is taken. -/
theorem taken_more {tk : List ByteArray} {n : ByteArray} {b : Block} (h : taken tk b = true) : taken (tk ++ [n]) b = true := by rw [taken_snoc, h]; rfl
theorem free_mono {s : Site} (h : SiteOk s) {tk : List ByteArray} {n : ByteArray} {b : Block} (hb : b ∈ s.blocks) {d : Int} (hd : d = 0 ∨ d = 1 ∨ d = 2 ∨ d = 3) (hf : freeB s tk b.box d = true) : freeB s (tk ++ [n]) b.box d = true := by
  rw [free_iff h _ hb hd] at hf ⊢
  rcases hf with hf | hf
  · exact .inl hf
  · refine .inr fun x y z hi => ?_
    rcases hf x y z hi with ⟨c, c1, c2, c3⟩ | hp
    · exact .inl ⟨c, c1, taken_more c2, c3⟩
    · exact .inr hp
theorem first_more {s : Site} {tk : List ByteArray} {n but : ByteArray} {p : Box → Bool} (h : firstR s tk but p = none) : firstR s (tk ++ [n]) but p = none := by
  refine List.find?_eq_none.2 fun x hx hp => ?_
  have := List.find?_eq_none.1 h x hx
  unfold firstP at this hp
  rw [taken_snoc] at hp
  simp only [Bool.and_eq_true, Bool.not_eq_true', Bool.or_eq_false_iff] at hp
  simp only [Bool.and_eq_true, Bool.not_eq_true', not_and] at this
  exact this ⟨hp.1.1, hp.1.2.1⟩ hp.2
theorem cnt_mono {f0 f1 f2 f3 g0 g1 g2 g3 : Bool} (h0 : f0 = true → g0 = true) (h1 : f1 = true → g1 = true) (h2 : f2 = true → g2 = true) (h3 : f3 = true → g3 = true) : cntB f0 f1 f2 f3 ≤ cntB g0 g1 g2 g3 := by
  have key : ∀ f g : Bool, (f = true → g = true) → (bif f then (1 : Int) else 0) ≤ (bif g then (1 : Int) else 0) := fun f g h => by
    cases f <;> cases g <;> simp_all
  have := key f0 g0 h0
  have := key f1 g1 h1
  have := key f2 g2 h2
  have := key f3 g3 h3
  unfold cntB
  omega
theorem possible_mono {s : Site} (h : SiteOk s) {tk : List ByteArray} {n : ByteArray} {b : Block} (hb : b ∈ s.blocks) (hp : possible s tk b = true) (hn : seq b.name n = false) : possible s (tk ++ [n]) b = true := by
  obtain ⟨h1, h2, h3, h4, h5⟩ := possible_facts hp
  have t1 : taken (tk ++ [n]) b = false := by rw [taken_snoc, h1, hn]; rfl
  have hc := of_decide_eq_false h4
  have hm : ∀ d : Int, (d = 0 ∨ d = 1 ∨ d = 2 ∨ d = 3) → freeB s tk b.box d = true → freeB s (tk ++ [n]) b.box d = true := fun d hd hf => free_mono h hb hd hf
  have := cnt_mono (hm 0 (by omega)) (hm 1 (by omega)) (hm 2 (by omega)) (hm 3 (by omega))
  unfold possible whyB
  have e4 : decide (cntB (freeB s (tk ++ [n]) b.box 0) (freeB s (tk ++ [n]) b.box 1) (freeB s (tk ++ [n]) b.box 2) (freeB s (tk ++ [n]) b.box 3) < 2) = false := decide_eq_false (by omega)
  have e2 := first_more (n := n) h2
  have e5 := first_more (n := n) h5
  rw [t1, e2, h3, e4, e5]
  rfl
end Tz.C18
