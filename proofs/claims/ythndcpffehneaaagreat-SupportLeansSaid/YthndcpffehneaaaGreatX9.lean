/- Surveys and boxes as data; no conditions. -/
import Derived.Test.YthndcpffehneaaaGreatX8
import Derived.Test.YthndcpffehneaaaGreatS62
import Derived.Test.YthndcpffehneaaaGreatProg
set_option linter.unusedVariables false
set_option linter.unusedSimpArgs false
set_option linter.unusedSectionVars false
set_option linter.defProp false
set_option linter.deprecated false
namespace Tz
open Gs Go Go.Proofs
section
variable {P : Program} {m : Nat}
theorem all2_cons {α β : Type} {R : α → β → Prop} {a : α} {l : List α} {ys : List β} (h : AllBy R (a :: l) ys) : ∃ y zs, ys = y :: zs ∧ R a y ∧ AllBy R l zs := by
  cases ys with
  | nil => cases h
  | cons y zs => exact ⟨y, zs, rfl, h.1, h.2⟩
theorem all2_nil {α β : Type} {R : α → β → Prop} {ys : List β} (h : AllBy R [] ys) : ys = [] := by
  cases ys with
  | nil => rfl
  | cons y zs => cases h
theorem shp_int {t : TypeId} {k : IntKind} {ds : List D} (ht : P.underlying t = some (.int k)) (h : Shp P m t ds) : ∃ z, ds = [.int k z] := by
  cases m with
  | zero => cases h
  | succ m => unfold Shp at h; rw [ht] at h; exact h
theorem shp_str {t : TypeId} {ds : List D} (ht : P.underlying t = some .string) (h : Shp P m t ds) : ∃ z, ds = [.str z] := by
  cases m with
  | zero => cases h
  | succ m => unfold Shp at h; rw [ht] at h; exact h
theorem shp_bool {t : TypeId} {ds : List D} (ht : P.underlying t = some .bool) (h : Shp P m t ds) : ∃ z, ds = [.bool z] := by
  cases m with
  | zero => cases h
  | succ m => unfold Shp at h; rw [ht] at h; exact h
theorem shp_struct {t : TypeId} {fs : Array Field} {ds : List D} (ht : P.underlying t = some (.struct fs)) (h : Shp P m t ds) : ∃ n parts, ds = parts.flatten ∧ AllBy (fun (f : Field) l => Shp P n f.type l) fs.toList parts := by
  cases m with
  | zero => cases h
  | succ m => unfold Shp at h; rw [ht] at h; obtain ⟨parts, h1, h2⟩ := h; exact ⟨m, parts, h1, h2⟩
theorem shp_array {t e : TypeId} {k : Nat} {ds : List D} (ht : P.underlying t = some (.array k e)) (h : Shp P m t ds) : ∃ n, ∃ parts : List (List D), ds = parts.flatten ∧ parts.length = k ∧ ∀ l ∈ parts, Shp P n e l := by
  cases m with
  | zero => cases h
  | succ m => unfold Shp at h; rw [ht] at h; obtain ⟨parts, h1, h2⟩ := h; exact ⟨m, parts, h1, h2⟩
theorem shp_slice {t e : TypeId} {ds : List D} (ht : P.underlying t = some (.slice e)) (h : Shp P m t ds) : ∃ n, ∃ ls : List (List D), ds = [.fz false (P.cellsOf e) (ls.map (packD (isAggTy P e)))] ∧ ∀ l ∈ ls, Shp P n e l := by
  cases m with
  | zero => cases h
  | succ m => unfold Shp at h; rw [ht] at h; obtain ⟨ls, h1, h2⟩ := h; exact ⟨m, ls, h1, h2⟩
/-- A list, each of which is told. -/
theorem list_of {α : Type} {R : List D → Prop} (f : α → List D) (h : ∀ l, R l → ∃ x, l = f x) : ∀ ls : List (List D), (∀ l ∈ ls, R l) → ∃ xs : List α, ls = xs.map f
  | [], _ => ⟨[], rfl⟩
  | l :: r, hr => by
    obtain ⟨x, rfl⟩ := h l (hr l (by simp))
    obtain ⟨xs, rfl⟩ := list_of f h r (fun l hl => hr l (by simp [hl]))
    exact ⟨x :: xs, rfl⟩
end
theorem shp_p3 {m : Nat} {ds : List D} (h : Shp Tryz.prog m 35 ds) : ∃ x y z, ds = [int x, int y, int z] := by
  obtain ⟨n, parts, rfl, k⟩ := shp_struct Tryz.underlying35 h
  obtain ⟨a, _, rfl, ha, k⟩ := all2_cons k
  obtain ⟨b, _, rfl, hb, k⟩ := all2_cons k
  obtain ⟨c, _, rfl, hc, k⟩ := all2_cons k
  have := all2_nil k; subst this
  obtain ⟨x, rfl⟩ := shp_int Tryz.underlying3 ha
  obtain ⟨y, rfl⟩ := shp_int Tryz.underlying3 hb
  obtain ⟨z, rfl⟩ := shp_int Tryz.underlying3 hc
  exact ⟨x, y, z, rfl⟩
abbrev Box.cells (b : Box) : List D := [int b.x0, int b.y0, int b.z0, int b.x1, int b.y1, int b.z1]
theorem shp_box {m : Nat} {ds : List D} (h : Shp Tryz.prog m 37 ds) : ∃ b : Box, ds = b.cells := by
  obtain ⟨n, parts, rfl, k⟩ := shp_struct Tryz.underlying37 h
  obtain ⟨a, _, rfl, ha, k⟩ := all2_cons k
  obtain ⟨b, _, rfl, hb, k⟩ := all2_cons k
  have := all2_nil k; subst this
  obtain ⟨x, y, z, rfl⟩ := shp_p3 ha
  obtain ⟨x', y', z', rfl⟩ := shp_p3 hb
  exact ⟨⟨x, y, z, x', y', z'⟩, rfl⟩
theorem shp_safety {m : Nat} {ds : List D} (h : Shp Tryz.prog m 33 ds) : ∃ s : Safety, ds = [int s.batter, int s.width] := by
  obtain ⟨n, parts, rfl, k⟩ := shp_struct Tryz.underlying33 h
  obtain ⟨a, _, rfl, ha, k⟩ := all2_cons k
  obtain ⟨b, _, rfl, hb, k⟩ := all2_cons k
  have := all2_nil k; subst this
  obtain ⟨x, rfl⟩ := shp_int Tryz.underlying3 ha
  obtain ⟨y, rfl⟩ := shp_int Tryz.underlying3 hb
  exact ⟨⟨x, y⟩, rfl⟩
theorem shp_string {m : Nat} {ds : List D} (h : Shp Tryz.prog m 9 ds) : ∃ s : ByteArray, ds = [.str s] := shp_str Tryz.underlying9 h
theorem shp_block {m : Nat} {ds : List D} (h : Shp Tryz.prog m 72 ds) : ∃ b : Block, ds = [.str b.name, int b.box.x0, int b.box.y0, int b.box.z0, int b.box.x1, int b.box.y1, int b.box.z1] := by
  obtain ⟨n, parts, rfl, k⟩ := shp_struct Tryz.underlying72 h
  obtain ⟨a, _, rfl, ha, k⟩ := all2_cons k
  obtain ⟨b, _, rfl, hb, k⟩ := all2_cons k
  have := all2_nil k; subst this
  obtain ⟨x, rfl⟩ := shp_str Tryz.underlying9 ha
  obtain ⟨y, rfl⟩ := shp_box hb
  exact ⟨⟨x, y⟩, rfl⟩
theorem agg72 : isAggTy Tryz.prog 72 = true := by unfold isAggTy; rw [Tryz.underlying72]
theorem co72 : Tryz.prog.cellsOf 72 = 7 := by kernel_rfl
theorem shp_blocks {m : Nat} {ds : List D} (h : Shp Tryz.prog m 22 ds) : ∃ bs : List Block, ds = [blks bs] := by
  obtain ⟨n, ls, rfl, h1⟩ := shp_slice Tryz.underlying22 h
  obtain ⟨xs, rfl⟩ := list_of (fun b : Block => [.str b.name, int b.box.x0, int b.box.y0, int b.box.z0, int b.box.x1, int b.box.y1, int b.box.z1]) (fun l hl => shp_block hl) ls h1
  rw [agg72, co72, List.map_map]
  exact ⟨xs, rfl⟩
end Tz
