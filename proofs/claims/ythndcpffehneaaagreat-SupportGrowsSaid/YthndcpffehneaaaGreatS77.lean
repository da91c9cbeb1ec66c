/- Faces, Why, Frontier, Hanging; no conditions. -/
import Derived.Test.YthndcpffehneaaaGreatS76
set_option linter.unusedVariables false
set_option linter.unusedSimpArgs false
set_option linter.unusedSectionVars false
set_option linter.defProp false
set_option linter.deprecated false
set_option maxRecDepth 100000
open Gs Go
namespace Tz.C18
/-! support.Faces, Why, Frontier, Hanging. -/
theorem start_ok {s : Site} {tk : List ByteArray} (h : startErr s tk = 0) : siteErr s = 0 ∧ tk.any (unknown s) = false ∧ dupS [] tk = false := by
  unfold startErr at h
  cases h1 : decide (siteErr s = 0) with
  | false => rw [h1] at h; simp only [Bool.not_false, cond_true] at h; rw [h] at h1; simp at h1
  | true =>
  rw [h1] at h
  simp only [Bool.not_true, cond_false] at h
  cases h2 : tk.any (unknown s) with
  | true => rw [h2] at h; simp at h
  | false =>
  rw [h2] at h
  simp only [cond_false] at h
  cases h3 : dupS [] tk with
  | true => rw [h3] at h; simp at h
  | false => exact ⟨of_decide_eq_true h1, rfl, rfl⟩
theorem e_start_ok (s : Site) (hF : s.Fit) (nz : Bool) (tk : List ByteArray) (ht : tk.length < 1000000) (h : startErr s tk = 0) : L.call 46 [s.enc, strz nz tk] [] = some (.tup [ste s (.fm (entT tk)), int 0], []) := by
  have := e_start s hF nz tk ht
  rw [h] at this
  exact this
theorem e_start_bad (s : Site) (hF : s.Fit) (nz : Bool) (tk : List ByteArray) (ht : tk.length < 1000000) (h : decide (startErr s tk = 0) = false) : L.call 46 [s.enc, strz nz tk] [] = some (.tup [.agg zst, int (startErr s tk)], []) := by
  have := e_start s hF nz tk ht
  rw [h] at this
  exact this
theorem e_Faces_bad (s : Site) (hF : s.Fit) (nz : Bool) (tk : List ByteArray) (ht : tk.length < 1000000) (nm : ByteArray) (h : decide (startErr s tk = 0) = false) : L.call 20 [s.enc, strz nz tk, .str nm] [] = some (.tup [.agg [.bool false, .bool false, .bool false, .bool false], int (startErr s tk)], []) :=
  call_eq rfl rfl (by
    have h1 := e_start_bad s hF nz tk ht h
    generalize startErr s tk = e at h h1
    simp only [↓eA, eB, seval, c20, h1, h])
theorem e_Faces_no (s : Site) (hF : s.Fit) (nz : Bool) (tk : List ByteArray) (ht : tk.length < 1000000) (nm : ByteArray) (h : startErr s tk = 0) (hn : s.blocks.find? (called nm) = none) : L.call 20 [s.enc, strz nz tk, .str nm] [] = some (.tup [.agg [.bool false, .bool false, .bool false, .bool false], int 3], []) :=
  call_eq rfl rfl (by
    have h1 := e_start_ok s hF nz tk ht h
    have h2 := e_ix s hF (entT tk) nm
    have h3 : idxOf (called nm) s.blocks = -1 := by
      rcases find_idx' (called nm) s.blocks with ⟨_, g⟩ | ⟨a, j, g, _, _⟩
      · unfold idxOf; rw [g]
      · rw [hn] at g; cases g
    rw [h3] at h2
    simp only [↓eA, eB, seval, c20, h1, h2])
theorem e_Faces_ok (s : Site) (hF : s.Fit) (nz : Bool) (tk : List ByteArray) (ht : tk.length < 1000000) (nm : ByteArray) (h : startErr s tk = 0) (b : Block) (hn : s.blocks.find? (called nm) = some b) : L.call 20 [s.enc, strz nz tk, .str nm] [] = some (.tup [.agg [.bool (freeB s tk b.box 0), .bool (freeB s tk b.box 1), .bool (freeB s tk b.box 2), .bool (freeB s tk b.box 3)], int 0], []) :=
  call_eq rfl rfl (by
    have h1 := e_start_ok s hF nz tk ht h
    have h2 := e_ix s hF (entT tk) nm
    rcases find_idx' (called nm) s.blocks with ⟨g, _⟩ | ⟨a, j, g, g1, g2⟩
    · rw [hn] at g; cases g
    · rw [hn] at g; injection g with g; subst g
      have h3 : idxOf (called nm) s.blocks = (j : Int) := by unfold idxOf; rw [g1]
      have hj := (List.getElem?_eq_some_iff.1 g2).1
      have g2' : (s.blocks.map Block.enc)[j]? = some b.enc := by simp [g2]
      have hneg : decide ((j : Int) < 0) = false := decide_eq_false (by omega)
      rw [h3] at h2
      have h4 := e_faces s hF tk b.box
      simp only [↓eA, eB, seval, c20, h1, h2, hneg, hj, g2', h4, List.length_map])
theorem e_Why_bad (s : Site) (hF : s.Fit) (nz : Bool) (tk : List ByteArray) (ht : tk.length < 1000000) (nm : ByteArray) (h : decide (startErr s tk = 0) = false) : L.call 21 [s.enc, strz nz tk, .str nm] [] = some (.tup [.agg [int 0, .str .empty], int (startErr s tk)], []) :=
  call_eq rfl rfl (by
    have h1 := e_start_bad s hF nz tk ht h
    generalize startErr s tk = e at h h1
    simp only [↓eA, eB, seval, c21, h1, h])
theorem e_Why_no (s : Site) (hF : s.Fit) (nz : Bool) (tk : List ByteArray) (ht : tk.length < 1000000) (nm : ByteArray) (h : startErr s tk = 0) (hn : s.blocks.find? (called nm) = none) : L.call 21 [s.enc, strz nz tk, .str nm] [] = some (.tup [.agg [int 0, .str .empty], int 3], []) :=
  call_eq rfl rfl (by
    have h1 := e_start_ok s hF nz tk ht h
    have h2 := e_ix s hF (entT tk) nm
    have h3 : idxOf (called nm) s.blocks = -1 := by
      rcases find_idx' (called nm) s.blocks with ⟨_, g⟩ | ⟨a, j, g, _, _⟩
      · unfold idxOf; rw [g]
      · rw [hn] at g; cases g
    rw [h3] at h2
    simp only [↓eA, eB, seval, c21, h1, h2])
theorem e_Why_ok (s : Site) (hF : s.Fit) (nz : Bool) (tk : List ByteArray) (ht : tk.length < 1000000) (nm : ByteArray) (h : startErr s tk = 0) (b : Block) (hn : s.blocks.find? (called nm) = some b) : L.call 21 [s.enc, strz nz tk, .str nm] [] = some (.tup [.agg [int (whyB s tk b).1, .str (whyB s tk b).2], int 0], []) :=
  call_eq rfl rfl (by
    have h1 := e_start_ok s hF nz tk ht h
    have h2 := e_ix s hF (entT tk) nm
    rcases find_idx' (called nm) s.blocks with ⟨g, _⟩ | ⟨a, j, g, g1, g2⟩
    · rw [hn] at g; cases g
    · rw [hn] at g; injection g with g; subst g
      have h3 : idxOf (called nm) s.blocks = (j : Int) := by unfold idxOf; rw [g1]
      have hj := (List.getElem?_eq_some_iff.1 g2).1
      have g2' : (s.blocks.map Block.enc)[j]? = some b.enc := by simp [g2]
      have hneg : decide ((j : Int) < 0) = false := decide_eq_false (by omega)
      rw [h3] at h2
      have h4 := e_why s hF tk b
      simp only [↓eA, eB, seval, c21, h1, h2, hneg, hj, g2', h4, List.length_map])
/-- Whether a block can be freed. -/
def possible (s : Site) (tk : List ByteArray) (b : Block) : Bool := decide ((whyB s tk b).1 = 0)
theorem why_zero {s : Site} {tk : List ByteArray} {b : Block} (h : (whyB s tk b).1 = 0) : (whyB s tk b).2 = .empty := by
  unfold whyB at h ⊢
  cases h1 : taken tk b with
  | true => rfl
  | false =>
  rw [h1] at h
  simp only [cond_false] at h ⊢
  cases h2 : firstR s tk b.name (fun x => decide (b.box.z1 ≤ x.z0) && over2 x b.box) with
  | some c => rw [h2] at h; simp at h
  | none =>
  rw [h2] at h
  simp only at h ⊢
  cases h3 : beddedB s.survey b.box.z0 with
  | false => rfl
  | true =>
  rw [h3] at h
  simp only [Bool.not_true, cond_false] at h ⊢
  cases h4 : decide (cntB (freeB s tk b.box 0) (freeB s tk b.box 1) (freeB s tk b.box 2) (freeB s tk b.box 3) < 2) with
  | true => rfl
  | false =>
  rw [h4] at h
  simp only [cond_false] at h ⊢
  cases h5 : firstR s tk b.name (fun x => !clearB s.safety b.box x) with
  | some c => rw [h5] at h; simp at h
  | none => rfl
theorem e_front1 (s : Site) (hF : s.Fit) (tk : List ByteArray) (b : Block) : L.call 50 [b.enc, .fp (stc s (.fm (entT tk))) 0] [] = some (.bool (possible s tk b), []) :=
  call_eq rfl rfl (by
    have h := e_why s hF tk b
    have key : (decide ((whyB s tk b).1 = 0) && seq (whyB s tk b).2 .empty) = possible s tk b := by
      unfold possible
      cases hd : decide ((whyB s tk b).1 = 0) with
      | false => rfl
      | true => rw [why_zero (of_decide_eq_true hd), seq_refl]; rfl
    simp only [↓eA, eB, seval, c50, h]
    rw [← key])
theorem e_Frontier_bad (s : Site) (hF : s.Fit) (nz : Bool) (tk : List ByteArray) (ht : tk.length < 1000000) (h : decide (startErr s tk = 0) = false) : L.call 22 [s.enc, strz nz tk] [] = some (.tup [.fz true 1 [], int (startErr s tk)], []) :=
  call_eq rfl rfl (by
    have h1 := e_start_bad s hF nz tk ht h
    generalize startErr s tk = e at h h1
    simp only [↓eA, eB, seval, c22, h1, h])
theorem e_Frontier_ok (s : Site) (hF : s.Fit) (nz : Bool) (tk : List ByteArray) (ht : tk.length < 1000000) (h : startErr s tk = 0) : L.call 22 [s.enc, strz nz tk] [] = some (.tup [.fz true 1 ((sortB (namesOf (possible s tk) s.blocks)).map .str), int 0], []) :=
  call_eq rfl rfl (by
    have h1 := e_start_ok s hF nz tk ht h
    have h2 := e_names s.blocks hF.bl 50 (stc s (.fm (entT tk))) (possible s tk) (fun b _ => e_front1 s hF tk b)
    simp only [↓eA, eB, seval, c22, h1, h2])
def under (b : Box) : Box := ⟨b.x0, b.y0, wsub b.z0 1, b.x1, b.y1, b.z0⟩
theorem e_hang1 (s : Site) (hF : s.Fit) (tk : List ByteArray) (b : Box) : L.call 56 [b.enc, .fp (stc s (.fm (entT tk))) 0] [] = some (.bool (openSt s tk (under b)), []) :=
  call_eq rfl rfl (by
    have h : L.call 57 [ste s (.fm (entT tk)), .agg [int b.x0, int b.y0, int (wsub b.z0 1), int b.x1, int b.y1, int b.z0]] [] = some (.bool (openSt s tk (under b)), []) := e_open57 s hF tk (under b)
    simp only [↓eA, eB, seval, c56, h])
abbrev nob : ByteArray := ⟨#[]⟩
def hangR (s : Site) (tk : List ByteArray) : Option Block := firstR s tk nob (fun x => openSt s tk (under x))
theorem e_Hanging_bad (s : Site) (hF : s.Fit) (nz : Bool) (tk : List ByteArray) (ht : tk.length < 1000000) (h : decide (startErr s tk = 0) = false) : L.call 27 [s.enc, strz nz tk] [] = some (.tup [.str .empty, int (startErr s tk)], []) :=
  call_eq rfl rfl (by
    have h1 := e_start_bad s hF nz tk ht h
    generalize startErr s tk = e at h h1
    simp only [↓eA, eB, seval, c27, h1, h]
    rfl)
theorem e_Hanging_none (s : Site) (hF : s.Fit) (nz : Bool) (tk : List ByteArray) (ht : tk.length < 1000000) (h : startErr s tk = 0) (hn : hangR s tk = none) : L.call 27 [s.enc, strz nz tk] [] = some (.tup [.str .empty, int 9], []) :=
  call_eq rfl rfl (by
    have h1 := e_start_ok s hF nz tk ht h
    have h2 := e_first s hF tk nob 56 [.fp (stc s (.fm (entT tk))) 0] rfl (fun x => openSt s tk (under x)) (fun c _ => e_hang1 s hF tk c.box)
    unfold hangR at hn
    rw [hn] at h2
    simp only [↓eA, eB, seval, c27, h1, h2]
    rfl)
theorem e_Hanging_some (s : Site) (hF : s.Fit) (nz : Bool) (tk : List ByteArray) (ht : tk.length < 1000000) (h : startErr s tk = 0) (b : Block) (hn : hangR s tk = some b) : L.call 27 [s.enc, strz nz tk] [] = some (.tup [.str b.name, int 0], []) :=
  call_eq rfl rfl (by
    have h1 := e_start_ok s hF nz tk ht h
    have h2 := e_first s hF tk nob 56 [.fp (stc s (.fm (entT tk))) 0] rfl (fun x => openSt s tk (under x)) (fun c _ => e_hang1 s hF tk c.box)
    unfold hangR at hn
    rw [hn] at h2
    simp only [↓eA, eB, seval, c27, h1, h2])
end Tz.C18
