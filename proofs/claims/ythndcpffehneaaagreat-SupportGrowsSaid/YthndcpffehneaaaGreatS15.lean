/- survey.Open; no conditions. -/
import Derived.Test.YthndcpffehneaaaGreatS14
set_option linter.unusedVariables false
set_option linter.unusedSimpArgs false
set_option linter.unusedSectionVars false
set_option linter.defProp false
set_option linter.deprecated false
set_option maxRecDepth 100000
open Gs Go
namespace Tz
def outOf (b p : Box) : Bool := decide (b.x0 < p.x0) || decide (b.y0 < p.y0) || decide (b.z0 < p.z0) || decide (p.x1 < b.x1) || decide (p.y1 < b.y1) || decide (p.z1 < b.z1)
theorem outOf_inside (b p : Box) : outOf b p = !b.inside p := by
  unfold outOf Box.inside
  rw [Bool.eq_iff_iff]
  simp only [Bool.or_eq_true, decide_eq_true_eq, Bool.not_not]
  omega
def boxedErr (s : Survey) (b : Box) : Int := bif !b.ok then 1 else bif outOf b s.pit then 12 else 0
theorem e_boxed (s : Survey) (b : Box) : L.call 160 [s.enc, b.enc] [] = some (int (boxedErr s b), []) :=
  call_eq rfl rfl (by
    unfold boxedErr
    cases h1 : b.ok with
    | false => simp only [↓eA, eB, seval, c160, e_proper, h1]
    | true =>
      cases h2 : outOf b s.pit with
      | true => have h2' := h2; simp only [outOf] at h2'; simp only [↓eA, eB, seval, c160, e_proper, h1, h2']
      | false => have h2' := h2; simp only [outOf] at h2'; simp only [↓eA, eB, seval, c160, e_proper, h1, h2'])
def sideBad (d : Int) : Bool := decide (d < 0) || decide (3 < d)
def sidedErr (s : Survey) (b : Box) (d : Int) : Int := bif !decide (surveyErr s = 0) then surveyErr s else bif sideBad d then 6 else boxedErr s b
theorem e_sided (s : Survey) (hF : s.Fit) (b : Box) (d : Int) : L.call 93 [s.enc, b.enc, int d] [] = some (int (sidedErr s b d), []) :=
  call_eq rfl rfl (by
    unfold sidedErr
    cases h1 : decide (surveyErr s = 0) with
    | false => simp only [↓eA, eB, seval, c93, e_pCheck s hF, h1]
    | true =>
      cases h2 : sideBad d with
      | true => have h2' := h2; simp only [sideBad] at h2'; simp only [↓eA, eB, seval, c93, e_pCheck s hF, h1, h2']
      | false => have h2' := h2; simp only [sideBad] at h2'; simp only [↓eA, eB, seval, c93, e_pCheck s hF, h1, h2', e_boxed])
def planeAx (d : Int) : Int := if d < 2 then 0 else 1
def planeAt (b : Box) (d : Int) : Int := if d = 0 then b.x1 else if d = 1 then b.x0 else if d = 2 then b.y1 else b.y0
theorem q0 : IntKind.i64.wrap (Int.tdiv 0 2) = 0 := by decide
theorem q1 : IntKind.i64.wrap (Int.tdiv 1 2) = 0 := by decide
theorem q2 : IntKind.i64.wrap (Int.tdiv 2 2) = 1 := by decide
theorem q3 : IntKind.i64.wrap (Int.tdiv 3 2) = 1 := by decide
theorem m0 : Int.tmod 0 2 = 0 := by decide
theorem m1 : Int.tmod 1 2 = 1 := by decide
theorem m2 : Int.tmod 2 2 = 0 := by decide
theorem m3 : Int.tmod 3 2 = 1 := by decide
theorem e_plane (b : Box) (d : Int) (h : sideBad d = false) : L.call 94 [b.enc, int d] [] = some (.tup [int (planeAx d), int (planeAt b d)], []) := by
  have h' : d = 0 ∨ d = 1 ∨ d = 2 ∨ d = 3 := by simp only [sideBad, Bool.or_eq_false_iff, decide_eq_false_iff_not] at h; omega
  rcases h' with rfl | rfl | rfl | rfl
  · have e1 := e_ends b 0; exact call_eq rfl rfl (by simp only [↓eA, eB, seval, c94, e1, q0, q1, q2, q3, m0, m1, m2, m3]; first | done | rfl | simp [planeAx, planeAt, Box.lo, Box.hi])
  · have e1 := e_ends b 0; exact call_eq rfl rfl (by simp only [↓eA, eB, seval, c94, e1, q0, q1, q2, q3, m0, m1, m2, m3]; first | done | rfl | simp [planeAx, planeAt, Box.lo, Box.hi])
  · have e1 := e_ends b 1; exact call_eq rfl rfl (by simp only [↓eA, eB, seval, c94, e1, q0, q1, q2, q3, m0, m1, m2, m3]; first | done | rfl | simp [planeAx, planeAt, Box.lo, Box.hi])
  · have e1 := e_ends b 1; exact call_eq rfl rfl (by simp only [↓eA, eB, seval, c94, e1, q0, q1, q2, q3, m0, m1, m2, m3]; first | done | rfl | simp [planeAx, planeAt, Box.lo, Box.hi])
theorem n0 : inb 0 4 = true := by decide
theorem n1 : inb 1 4 = true := by decide
theorem n2 : inb 2 4 = true := by decide
theorem n3 : inb 3 4 = true := by decide
def openAt (s : Survey) (d : Int) : Bool := if d = 0 then s.o0 else if d = 1 then s.o1 else if d = 2 then s.o2 else s.o3
def openB (s : Survey) (b : Box) (d : Int) : Bool := openAt s d && decide (planeAt b d = planeAt s.pit d)
theorem e_open (s : Survey) (hF : s.Fit) (b : Box) (d : Int) : L.call 71 [s.enc, b.enc, int d] [] = some (.tup [.bool (decide (sidedErr s b d = 0) && openB s b d), int (sidedErr s b d)], []) := by
  cases h1 : decide (sidedErr s b d = 0) with
  | false => exact call_eq rfl rfl (by simp only [↓eA, eB, seval, c71, e_sided s hF, h1])
  | true =>
    have h0 := of_decide_eq_true h1
    have hs : sideBad d = false := by
      unfold sidedErr at h0
      cases h2 : decide (surveyErr s = 0) with
      | false => rw [h2] at h0; simp only [Bool.not_false, cond_true] at h0; rw [h0] at h2; simp at h2
      | true =>
        rw [h2] at h0; simp only [Bool.not_true, cond_false] at h0
        cases h3 : sideBad d with
        | false => rfl
        | true => rw [h3] at h0; cases h0
    have e1 := e_plane b d hs; have e2 := e_plane s.pit d hs
    have e3 := e_sided s hF b d; rw [h0] at e3
    have h' : d = 0 ∨ d = 1 ∨ d = 2 ∨ d = 3 := by simp only [sideBad, Bool.or_eq_false_iff, decide_eq_false_iff_not] at hs; omega
    rw [h0]
    unfold openB openAt
    rcases h' with rfl | rfl | rfl | rfl
    · exact call_eq rfl rfl (by simp only [↓eA, eB, seval, c71, e3, e1, e2, n0, n1, n2, n3]; skip)
    · exact call_eq rfl rfl (by simp only [↓eA, eB, seval, c71, e3, e1, e2, n0, n1, n2, n3]; skip)
    · exact call_eq rfl rfl (by simp only [↓eA, eB, seval, c71, e3, e1, e2, n0, n1, n2, n3]; skip)
    · exact call_eq rfl rfl (by simp only [↓eA, eB, seval, c71, e3, e1, e2, n0, n1, n2, n3]; skip)
end Tz
