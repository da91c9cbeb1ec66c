/- Boxes and their errors; no conditions. -/
import Derived.Test.YthndcpffehneaaaGreatS60
set_option linter.unusedVariables false
set_option linter.unusedSimpArgs false
set_option linter.unusedSectionVars false
set_option linter.defProp false
set_option linter.deprecated false
namespace Gs
open Go
variable [GlobTab]
/-- A search that tells what it found; what the heap is between two rounds, the state says. -/
theorem loop_findH {T : Tab} {key : Nat} {li : LI} (hl : T.lp key = some li) {α : Type} (xs : List α) (bad : α → Bool) (St : Nat → Env → Heap → Prop) (R : α → X → Env → Heap → Prop) (E : X → Env → Heap → Prop)
    (step : ∀ i x e H, xs[i]? = some x → i < xs.length → St i e H → Good (round (lim T) li e H) fun X e' H' => match bad x with | false => isNor X = true ∧ St (i + 1) e' H' | true => isNor X = false ∧ R x X e' H')
    (fin : ∀ e H, St xs.length e H → Good (round (lim T) li e H) fun X e' H' => isNor X = false ∧ E X e' H') (e : Env) (H : Heap) (h0 : St 0 e H) :
    Ends T key e H (fun X e' H' => match xs.find? bad with | some x => R x X e' H' | none => E X e' H') := by
  refine (loop_thru hl (S := Unit) (R := α) (fun s x => bif bad x then .inl x else .inr s) xs (fun i _ e H' => St i e H') (fun x X e' H' => R x X e' H') (fun _ X e' H' => E X e' H') ?_ ?_ ?_ xs [] () e H rfl h0).mono fun X e' H' h => ?_
  · rintro i x s s' e H' hi hs hf
    have hb : bad x = false := by cases hb : bad x <;> simp_all
    have := step i x e H' hi (List.getElem?_eq_some_iff.1 hi).1 hs
    simpa only [hb] using this
  · rintro i x s r e H' hi hs hf
    have hb : bad x = true := by cases hb : bad x <;> simp_all
    have hr : r = x := by simp [hb] at hf; exact hf.symm
    have := step i x e H' hi (List.getElem?_eq_some_iff.1 hi).1 hs
    rw [hr]
    simpa only [hb] using this
  · rintro s e H' hs
    exact fin e H' hs
  · rw [thru_find] at h
    cases hx : xs.find? bad with
    | some x => rw [hx] at h; exact h
    | none => rw [hx] at h; exact h
end Gs
set_option maxRecDepth 100000
open Gs Go
namespace Tz.C18
structure Block where
  name : ByteArray
  box : Box
abbrev Block.enc (b : Block) : D := .agg [.str b.name, int b.box.x0, int b.box.y0, int b.box.z0, int b.box.x1, int b.box.y1, int b.box.z1]
abbrev blks (bs : List Block) : D := .fz false 7 (bs.map Block.enc)
theorem e_bin (n : Int) : L.call 87 [int n] [] = some (.bool (inr n), []) :=
  call_eq rfl rfl (by simp only [↓eA, eB, seval, c87]; rfl)
theorem e_bsides (b : Box) : L.call 86 [b.enc] [] = some (.agg [int b.x0, int b.x1, int b.y0, int b.y1, int b.z0, int b.z1], []) :=
  call_eq rfl rfl (by simp only [↓eA, eB, seval, c86])
theorem i30 : inb 0 3 = true := rfl
theorem i31 : inb 1 3 = true := rfl
theorem i32 : inb 2 3 = true := rfl
theorem i20 : inb 0 2 = true := rfl
theorem i21 : inb 1 2 = true := rfl
def far2 (p q : Int) : Bool := !inr p || !inr q
def boxErr (b : Box) : Int := bif far2 b.x0 b.x1 || (far2 b.y0 b.y1 || far2 b.z0 b.z1) then 6 else bif decide (b.x1 ≤ b.x0) || (decide (b.y1 ≤ b.y0) || decide (b.z1 ≤ b.z0)) then 1 else 0
theorem e_bCheck (b : Box) : L.call 62 [b.enc] [] = some (int (boxErr b), []) :=
  call_eq rfl rfl (by
    simp only [↓eA, eB, seval, c62, e_bsides]
    rw [loop_unfold_c (T := T) (k := 62002) rfl]
    simp only [↓eA, eB, seval, l62002, e_bin, i30, i20, i21]
    unfold boxErr far2
    cases h0 : (!inr b.x0 || !inr b.x1) with
    | true => simp only [↓eA, eB, seval]
    | false =>
    simp only [↓eA, eB, seval]
    rw [loop_unfold_c (T := T) (k := 62002) rfl]
    simp only [↓eA, eB, seval, l62002, e_bin, i31, i20, i21]
    cases h1 : (!inr b.y0 || !inr b.y1) with
    | true => simp only [↓eA, eB, seval]
    | false =>
    simp only [↓eA, eB, seval]
    rw [loop_unfold_c (T := T) (k := 62002) rfl]
    simp only [↓eA, eB, seval, l62002, e_bin, i32, i20, i21]
    cases h2 : (!inr b.z0 || !inr b.z1) with
    | true => simp only [↓eA, eB, seval]
    | false =>
    simp only [↓eA, eB, seval]
    rw [loop_unfold_c (T := T) (k := 62002) rfl]
    simp only [↓eA, eB, seval, l62002, e_bsides]
    rw [loop_unfold_c (T := T) (k := 62008) rfl]
    simp only [↓eA, eB, seval, l62008, i30, i20, i21]
    cases h3 : decide (b.x1 ≤ b.x0) with
    | true => simp only [↓eA, eB, seval]
    | false =>
    simp only [↓eA, eB, seval]
    rw [loop_unfold_c (T := T) (k := 62008) rfl]
    simp only [↓eA, eB, seval, l62008, i31, i20, i21]
    cases h4 : decide (b.y1 ≤ b.y0) with
    | true => simp only [↓eA, eB, seval]
    | false =>
    simp only [↓eA, eB, seval]
    rw [loop_unfold_c (T := T) (k := 62008) rfl]
    simp only [↓eA, eB, seval, l62008, i32, i20, i21]
    cases h5 : decide (b.z1 ≤ b.z0) with
    | true => simp only [↓eA, eB, seval]
    | false =>
    simp only [↓eA, eB, seval]
    rw [loop_unfold_c (T := T) (k := 62008) rfl]
    simp only [↓eA, eB, seval, l62008])
theorem bad4_far (p q : Int) : bad4 p q = far2 p q := by
  unfold bad4 far2 inr
  rw [Bool.eq_iff_iff]; simp; omega
end Tz.C18
