/- Orientation and meeting of segments; no conditions. -/
import Derived.Test.YthndcpffehneaaaGreatS3
set_option linter.unusedVariables false
set_option linter.unusedSimpArgs false
set_option linter.unusedSectionVars false
set_option linter.defProp false
set_option linter.deprecated false
set_option maxRecDepth 100000
open Gs Go
namespace Tz

/-! Polygons. -/
def Pt.ok (a : Pt) : Bool := ((decide (-1000000 ≤ a.x) && decide (a.x ≤ 1000000)) && decide (-1000000 ≤ a.y)) && decide (a.y ≤ 1000000)
structure Pt.In (a : Pt) : Prop where
  x0 : -1000000 ≤ a.x
  x1 : a.x ≤ 1000000
  y0 : -1000000 ≤ a.y
  y1 : a.y ≤ 1000000
theorem Pt.ok_in {a : Pt} : a.ok = true ↔ a.In := by
  simp only [Pt.ok, Bool.and_eq_true, decide_eq_true_eq]
  exact ⟨fun ⟨⟨⟨h1, h2⟩, h3⟩, h4⟩ => ⟨h1, h2, h3, h4⟩, fun ⟨h1, h2, h3, h4⟩ => ⟨⟨⟨h1, h2⟩, h3⟩, h4⟩⟩
def pt (p : List Pt) (i : Nat) : Pt := (p[i]?).getD ⟨0, 0⟩
theorem get_pt {p : List Pt} {i : Nat} (h : i < p.length) : (p.map Pt.enc)[i]? = some (Pt.enc (pt p i)) := by
  simp [pt, h]
theorem pt_mem {p : List Pt} {i : Nat} (h : i < p.length) : pt p i ∈ p := by simp [pt, h]
theorem mulb {x y A B : Int} (hA : 0 ≤ A) (hB : 0 ≤ B) (h1 : -A ≤ x) (h2 : x ≤ A) (h3 : -B ≤ y) (h4 : y ≤ B) : -(A * B) ≤ x * y ∧ x * y ≤ A * B := by
  have hx : x.natAbs ≤ A.toNat := by omega
  have hy : y.natAbs ≤ B.toNat := by omega
  have := Nat.mul_le_mul hx hy
  rw [← Int.natAbs_mul] at this
  have e : ((A.toNat * B.toNat : Nat) : Int) = A * B := by rw [Int.natCast_mul, Int.toNat_of_nonneg hA, Int.toNat_of_nonneg hB]
  omega
/-- Twice the area of a triangle, and the sign of it. -/
def det (a b c : Pt) : Int := (b.x - a.x) * (c.y - a.y) - (b.y - a.y) * (c.x - a.x)
def sgn (n : Int) : Int := if 0 < n then 1 else if n < 0 then -1 else 0
def ori (a b c : Pt) : Int := sgn (det a b c)
theorem det_rot (a b c : Pt) : det b c a = det a b c := by
  simp only [det, Int.sub_mul, Int.mul_sub]
  rw [Int.mul_comm c.x a.y, Int.mul_comm b.x a.y, Int.mul_comm c.y a.x, Int.mul_comm b.y a.x, Int.mul_comm c.x b.y, Int.mul_comm c.y b.x, Int.mul_comm a.y a.x]
  have e1 := Int.mul_comm a.x a.y
  have e2 := Int.mul_comm b.x b.y
  omega
theorem ori_rot (a b c : Pt) : ori b c a = ori a b c := by rw [ori, ori, det_rot]
structure Tri (a b c : Pt) : Prop where
  e1 : IntKind.i64.wrap (b.x - a.x) = b.x - a.x
  e2 : IntKind.i64.wrap (c.y - a.y) = c.y - a.y
  e3 : IntKind.i64.wrap (b.y - a.y) = b.y - a.y
  e4 : IntKind.i64.wrap (c.x - a.x) = c.x - a.x
  e5 : IntKind.i64.wrap ((b.x - a.x) * (c.y - a.y)) = (b.x - a.x) * (c.y - a.y)
  e6 : IntKind.i64.wrap ((b.y - a.y) * (c.x - a.x)) = (b.y - a.y) * (c.x - a.x)
  e7 : IntKind.i64.wrap ((b.x - a.x) * (c.y - a.y) - (b.y - a.y) * (c.x - a.x)) = (b.x - a.x) * (c.y - a.y) - (b.y - a.y) * (c.x - a.x)
theorem tri {a b c : Pt} (ha : a.In) (hb : b.In) (hc : c.In) : Tri a b c := by
  obtain ⟨a1, a2, a3, a4⟩ := ha
  obtain ⟨b1, b2, b3, b4⟩ := hb
  obtain ⟨c1, c2, c3, c4⟩ := hc
  have m1 := mulb (x := b.x - a.x) (y := c.y - a.y) (A := 2000000) (B := 2000000) (by omega) (by omega) (by omega) (by omega) (by omega) (by omega)
  have m2 := mulb (x := b.y - a.y) (y := c.x - a.x) (A := 2000000) (B := 2000000) (by omega) (by omega) (by omega) (by omega) (by omega) (by omega)
  generalize hu : (b.x - a.x) * (c.y - a.y) = u at m1
  generalize hv : (b.y - a.y) * (c.x - a.x) = v at m2
  refine ⟨wrap_in (by omega) (by omega), wrap_in (by omega) (by omega), wrap_in (by omega) (by omega), wrap_in (by omega) (by omega), ?_, ?_, ?_⟩
  · rw [hu]; exact wrap_in (by omega) (by omega)
  · rw [hv]; exact wrap_in (by omega) (by omega)
  · rw [hu, hv]; exact wrap_in (by omega) (by omega)
theorem e_isNaN64 (n : Int) : L.call 235 [int n] [] = some (.bool false, []) := call_eq rfl rfl (by simp only [↓eA, eB, seval, c235])
theorem e_cmp64 (n : Int) : L.call 220 [int n, int 0] [] = some (int (sgn n), []) :=
  call_eq rfl rfl (by
    unfold sgn
    by_cases h1 : n < 0
    · have h2 : ¬ 0 < n := by omega
      simp only [↓eA, eB, seval, c220, e_isNaN64, h1, h2]
    · by_cases h2 : 0 < n
      · simp only [↓eA, eB, seval, c220, e_isNaN64, h1, h2]
      · simp only [↓eA, eB, seval, c220, e_isNaN64, h1, h2])
theorem e_orient {a b c : Pt} (h : Tri a b c) : L.call 188 [a.enc, b.enc, c.enc] [] = some (int (ori a b c), []) :=
  call_eq rfl rfl (by simp only [↓eA, eB, seval, c188, h.e1, h.e2, h.e3, h.e4, h.e5, h.e6, h.e7, e_cmp64]; rfl)
def onS (a b q : Pt) : Bool := (((decide (ori a b q = 0) && decide (min a.x b.x ≤ q.x)) && decide (q.x ≤ max a.x b.x)) && decide (min a.y b.y ≤ q.y)) && decide (q.y ≤ max a.y b.y)
theorem e_on {a b q : Pt} (h : Tri a b q) : L.call 236 [a.enc, b.enc, q.enc] [] = some (.bool (onS a b q), []) :=
  call_eq rfl rfl (by simp only [↓eA, eB, seval, c236, e_orient h]; rfl)
theorem sgn_cases (n : Int) : sgn n = 1 ∨ sgn n = -1 ∨ sgn n = 0 := by unfold sgn; split <;> (try split) <;> simp
theorem sgn_mul (m n : Int) : IntKind.i64.wrap (sgn m * sgn n) = sgn m * sgn n := by
  rcases sgn_cases m with h | h | h <;> rcases sgn_cases n with h' | h' | h' <;> rw [h, h'] <;> exact wrap_in (by decide) (by decide)
def meets (a b c d : Pt) : Bool := (((onS a b c || onS a b d) || onS c d a) || onS c d b) || (decide (ori a b c * ori a b d < 0) && decide (ori c d a * ori c d b < 0))
theorem e_meet {a b c d : Pt} (ha : a.In) (hb : b.In) (hc : c.In) (hd : d.In) : L.call 222 [a.enc, b.enc, c.enc, d.enc] [] = some (.bool (meets a b c d), []) :=
  call_eq rfl rfl (by
    unfold meets
    cases h : ((onS a b c || onS a b d) || onS c d a) || onS c d b with
    | true => simp only [↓eA, eB, seval, c222, e_on (tri ha hb hc), e_on (tri ha hb hd), e_on (tri hc hd ha), e_on (tri hc hd hb), h]
    | false => simp only [↓eA, eB, seval, c222, e_on (tri ha hb hc), e_on (tri ha hb hd), e_on (tri hc hd ha), e_on (tri hc hd hb), e_orient (tri ha hb hc), e_orient (tri ha hb hd), e_orient (tri hc hd ha), e_orient (tri hc hd hb), h, ori, sgn_mul]; rfl)
end Tz
