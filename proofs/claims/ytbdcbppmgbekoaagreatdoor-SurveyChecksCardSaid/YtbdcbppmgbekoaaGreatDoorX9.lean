/- Surveys and boxes as data; no conditions. -/
import Derived.Test.YtbdcbppmgbekoaaGreatDoorX8
import Derived.Test.YtbdcbppmgbekoaaGreatDoorS1
import Derived.Test.YtbdcbppmgbekoaaGreatDoorProg
set_option linter.unusedVariables false
set_option linter.unusedSimpArgs false
set_option linter.unusedSectionVars false
set_option linter.defProp false
set_option linter.deprecated false
namespace Tz
open Gs Go Go.Proofs
section
variable {P : Program} {m : Nat}
theorem all2_cons {α β : Type} {R : α → β → Prop} {a : α} {l : List α} {ys : List β} (h : AllBy R (a :: l) ys) : ∃ y zs, ys = y :: zs ∧ R a y ∧ AllBy R l zs := by
  cases ys with
  | nil => cases h
  | cons y zs => exact ⟨y, zs, rfl, h.1, h.2⟩
theorem all2_nil {α β : Type} {R : α → β → Prop} {ys : List β} (h : AllBy R [] ys) : ys = [] := by
  cases ys with
  | nil => rfl
  | cons y zs => cases h
theorem shp_int {t : TypeId} {k : IntKind} {ds : List D} (ht : P.underlying t = some (.int k)) (h : Shp P m t ds) : ∃ z, ds = [.int k z] := by
  cases m with
  | zero => cases h
  | succ m => unfold Shp at h; rw [ht] at h; exact h
theorem shp_str {t : TypeId} {ds : List D} (ht : P.underlying t = some .string) (h : Shp P m t ds) : ∃ z, ds = [.str z] := by
  cases m with
  | zero => cases h
  | succ m => unfold Shp at h; rw [ht] at h; exact h
theorem shp_bool {t : TypeId} {ds : List D} (ht : P.underlying t = some .bool) (h : Shp P m t ds) : ∃ z, ds = [.bool z] := by
  cases m with
  | zero => cases h
  | succ m => unfold Shp at h; rw [ht] at h; exact h
theorem shp_struct {t : TypeId} {fs : Array Field} {ds : List D} (ht : P.underlying t = some (.struct fs)) (h : Shp P m t ds) : ∃ n parts, ds = parts.flatten ∧ AllBy (fun (f : Field) l => Shp P n f.type l) fs.toList parts := by
  cases m with
  | zero => cases h
  | succ m => unfold Shp at h; rw [ht] at h; obtain ⟨parts, h1, h2⟩ := h; exact ⟨m, parts, h1, h2⟩
theorem shp_array {t e : TypeId} {k : Nat} {ds : List D} (ht : P.underlying t = some (.array k e)) (h : Shp P m t ds) : ∃ n, ∃ parts : List (List D), ds = parts.flatten ∧ parts.length = k ∧ ∀ l ∈ parts, Shp P n e l := by
  cases m with
  | zero => cases h
  | succ m => unfold Shp at h; rw [ht] at h; obtain ⟨parts, h1, h2⟩ := h; exact ⟨m, parts, h1, h2⟩
theorem shp_slice {t e : TypeId} {ds : List D} (ht : P.underlying t = some (.slice e)) (h : Shp P m t ds) : ∃ n, ∃ ls : List (List D), ds = [.fz false (P.cellsOf e) (ls.map (packD (isAggTy P e)))] ∧ ∀ l ∈ ls, Shp P n e l := by
  cases m with
  | zero => cases h
  | succ m => unfold Shp at h; rw [ht] at h; obtain ⟨ls, h1, h2⟩ := h; exact ⟨m, ls, h1, h2⟩
/-- A list, each of which is told. -/
theorem list_of {α : Type} {R : List D → Prop} (f : α → List D) (h : ∀ l, R l → ∃ x, l = f x) : ∀ ls : List (List D), (∀ l ∈ ls, R l) → ∃ xs : List α, ls = xs.map f
  | [], _ => ⟨[], rfl⟩
  | l :: r, hr => by
    obtain ⟨x, rfl⟩ := h l (hr l (by simp))
    obtain ⟨xs, rfl⟩ := list_of f h r (fun l hl => hr l (by simp [hl]))
    exact ⟨x :: xs, rfl⟩
end
theorem shp_p3 {m : Nat} {ds : List D} (h : Shp Tryz.prog m 23 ds) : ∃ x y z, ds = [int x, int y, int z] := by
  obtain ⟨n, parts, rfl, k⟩ := shp_struct Tryz.underlying23 h
  obtain ⟨a, _, rfl, ha, k⟩ := all2_cons k
  obtain ⟨b, _, rfl, hb, k⟩ := all2_cons k
  obtain ⟨c, _, rfl, hc, k⟩ := all2_cons k
  have := all2_nil k; subst this
  obtain ⟨x, rfl⟩ := shp_int Tryz.underlying3 ha
  obtain ⟨y, rfl⟩ := shp_int Tryz.underlying3 hb
  obtain ⟨z, rfl⟩ := shp_int Tryz.underlying3 hc
  exact ⟨x, y, z, rfl⟩
abbrev Box.cells (b : Box) : List D := [int b.x0, int b.y0, int b.z0, int b.x1, int b.y1, int b.z1]
theorem shp_box {m : Nat} {ds : List D} (h : Shp Tryz.prog m 25 ds) : ∃ b : Box, ds = b.cells := by
  obtain ⟨n, parts, rfl, k⟩ := shp_struct Tryz.underlying25 h
  obtain ⟨a, _, rfl, ha, k⟩ := all2_cons k
  obtain ⟨b, _, rfl, hb, k⟩ := all2_cons k
  have := all2_nil k; subst this
  obtain ⟨x, y, z, rfl⟩ := shp_p3 ha
  obtain ⟨x', y', z', rfl⟩ := shp_p3 hb
  exact ⟨⟨x, y, z, x', y', z'⟩, rfl⟩
theorem shp_bed {m : Nat} {ds : List D} (h : Shp Tryz.prog m 55 ds) : ∃ b : Bed, ds = [.str b.name, int b.z] := by
  obtain ⟨n, parts, rfl, k⟩ := shp_struct Tryz.underlying55 h
  obtain ⟨a, _, rfl, ha, k⟩ := all2_cons k
  obtain ⟨b, _, rfl, hb, k⟩ := all2_cons k
  have := all2_nil k; subst this
  obtain ⟨x, rfl⟩ := shp_str Tryz.underlying9 ha
  obtain ⟨y, rfl⟩ := shp_int Tryz.underlying3 hb
  exact ⟨⟨x, y⟩, rfl⟩
theorem shp_joint {m : Nat} {ds : List D} (h : Shp Tryz.prog m 57 ds) : ∃ j : Joint, ds = [.str j.name, int j.axis, int j.at_, int j.lo, int j.hi] := by
  obtain ⟨n, parts, rfl, k⟩ := shp_struct Tryz.underlying57 h
  obtain ⟨a, _, rfl, ha, k⟩ := all2_cons k
  obtain ⟨b, _, rfl, hb, k⟩ := all2_cons k
  obtain ⟨c, _, rfl, hc, k⟩ := all2_cons k
  obtain ⟨d, _, rfl, hd, k⟩ := all2_cons k
  obtain ⟨e, _, rfl, he, k⟩ := all2_cons k
  have := all2_nil k; subst this
  obtain ⟨x, rfl⟩ := shp_str Tryz.underlying9 ha
  obtain ⟨y, rfl⟩ := shp_int Tryz.underlying3 hb
  obtain ⟨y2, rfl⟩ := shp_int Tryz.underlying3 hc
  obtain ⟨y3, rfl⟩ := shp_int Tryz.underlying3 hd
  obtain ⟨y4, rfl⟩ := shp_int Tryz.underlying3 he
  exact ⟨⟨x, y, y2, y3, y4⟩, rfl⟩
theorem shp_pt {m : Nat} {ds : List D} (h : Shp Tryz.prog m 85 ds) : ∃ p : Pt, ds = [int p.x, int p.y] := by
  obtain ⟨n, parts, rfl, k⟩ := shp_struct Tryz.underlying85 h
  obtain ⟨a, _, rfl, ha, k⟩ := all2_cons k
  obtain ⟨b, _, rfl, hb, k⟩ := all2_cons k
  have := all2_nil k; subst this
  obtain ⟨x, rfl⟩ := shp_int Tryz.underlying3 ha
  obtain ⟨y, rfl⟩ := shp_int Tryz.underlying3 hb
  exact ⟨⟨x, y⟩, rfl⟩
theorem agg85 : isAggTy Tryz.prog 85 = true := by unfold isAggTy; rw [Tryz.underlying85]
theorem agg55 : isAggTy Tryz.prog 55 = true := by unfold isAggTy; rw [Tryz.underlying55]
theorem agg57 : isAggTy Tryz.prog 57 = true := by unfold isAggTy; rw [Tryz.underlying57]
theorem agg73 : isAggTy Tryz.prog 73 = true := by unfold isAggTy; rw [Tryz.underlying73]
theorem co85 : Tryz.prog.cellsOf 85 = 2 := by kernel_rfl
theorem co55 : Tryz.prog.cellsOf 55 = 2 := by kernel_rfl
theorem co57 : Tryz.prog.cellsOf 57 = 5 := by kernel_rfl
theorem co73 : Tryz.prog.cellsOf 73 = 4 := by kernel_rfl
theorem shp_poly {m : Nat} {ds : List D} (h : Shp Tryz.prog m 69 ds) : ∃ p : List Pt, ds = [poly p] := by
  obtain ⟨n, ls, rfl, h1⟩ := shp_slice Tryz.underlying69 h
  obtain ⟨xs, rfl⟩ := list_of (fun p : Pt => [int p.x, int p.y]) (fun l hl => shp_pt hl) ls h1
  rw [agg85, co85, List.map_map]
  exact ⟨xs, rfl⟩
theorem shp_prism {m : Nat} {ds : List D} (h : Shp Tryz.prog m 71 ds) : ∃ p y z, ds = [poly p, int y, int z] := by
  obtain ⟨n, parts, rfl, k⟩ := shp_struct Tryz.underlying71 h
  obtain ⟨a, _, rfl, ha, k⟩ := all2_cons k
  obtain ⟨b, _, rfl, hb, k⟩ := all2_cons k
  obtain ⟨c, _, rfl, hc, k⟩ := all2_cons k
  have := all2_nil k; subst this
  obtain ⟨p, rfl⟩ := shp_poly ha
  obtain ⟨y, rfl⟩ := shp_int Tryz.underlying3 hb
  obtain ⟨z, rfl⟩ := shp_int Tryz.underlying3 hc
  exact ⟨p, y, z, rfl⟩
theorem shp_flaw {m : Nat} {ds : List D} (h : Shp Tryz.prog m 73 ds) : ∃ f : Flaw, ds = [.str f.name, poly f.base, int f.lo, int f.hi] := by
  obtain ⟨n, parts, rfl, k⟩ := shp_struct Tryz.underlying73 h
  obtain ⟨a, _, rfl, ha, k⟩ := all2_cons k
  obtain ⟨b, _, rfl, hb, k⟩ := all2_cons k
  have := all2_nil k; subst this
  obtain ⟨x, rfl⟩ := shp_str Tryz.underlying9 ha
  obtain ⟨p, y, z, rfl⟩ := shp_prism hb
  exact ⟨⟨x, p, y, z⟩, rfl⟩
theorem shp_survey {m : Nat} {ds : List D} (h : Shp Tryz.prog m 31 ds) : ∃ s : Survey, ds = s.cells := by
  obtain ⟨n, parts, rfl, k⟩ := shp_struct Tryz.underlying31 h
  obtain ⟨a, _, rfl, ha, k⟩ := all2_cons k
  obtain ⟨b, _, rfl, hb, k⟩ := all2_cons k
  obtain ⟨c, _, rfl, hc, k⟩ := all2_cons k
  obtain ⟨d, _, rfl, hd, k⟩ := all2_cons k
  obtain ⟨e, _, rfl, he, k⟩ := all2_cons k
  have := all2_nil k; subst this
  obtain ⟨bo, rfl⟩ := shp_box ha
  obtain ⟨_, ps, rfl, hl, hp⟩ := shp_array Tryz.underlying26 hb
  obtain ⟨bs, rfl⟩ := list_of (fun p : Bool => [D.bool p]) (fun l hl => shp_bool Tryz.underlying4 hl) ps hp
  obtain ⟨_, ls, rfl, h1⟩ := shp_slice Tryz.underlying27 hc
  obtain ⟨xs, rfl⟩ := list_of (fun b : Bed => [.str b.name, int b.z]) (fun l hl => shp_bed hl) ls h1
  obtain ⟨_, ls, rfl, h1⟩ := shp_slice Tryz.underlying28 hd
  obtain ⟨ys, rfl⟩ := list_of (fun j : Joint => [.str j.name, int j.axis, int j.at_, int j.lo, int j.hi]) (fun l hl => shp_joint hl) ls h1
  obtain ⟨_, ls, rfl, h1⟩ := shp_slice Tryz.underlying29 he
  obtain ⟨zs, rfl⟩ := list_of (fun f : Flaw => [.str f.name, poly f.base, int f.lo, int f.hi]) (fun l hl => shp_flaw hl) ls h1
  rw [agg55, co55, agg57, co57, agg73, co73, List.map_map, List.map_map, List.map_map]
  match bs, hl with
  | [o0, o1, o2, o3], _ => exact ⟨⟨bo, o0, o1, o2, o3, xs, ys, zs⟩, rfl⟩
end Tz
