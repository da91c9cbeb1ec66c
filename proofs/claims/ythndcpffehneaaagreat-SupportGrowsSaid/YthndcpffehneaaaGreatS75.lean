/- Sides, and the first block that; no conditions. -/
import Derived.Test.YthndcpffehneaaaGreatS74
set_option linter.unusedVariables false
set_option linter.unusedSimpArgs false
set_option linter.unusedSectionVars false
set_option linter.defProp false
set_option linter.deprecated false
set_option maxRecDepth 100000
open Gs Go
namespace Tz.C18
/-! The sides of a block; the first block that ..; why. -/
theorem foldl_len {α : Type} (g : List (Int × Int) → α → List (Int × Int)) (h : ∀ a x, (g a x).length ≤ a.length + 1) : ∀ (l : List α) (a : List (Int × Int)), (l.foldl g a).length ≤ a.length + l.length
  | [], a => by simp
  | x :: r, a => by
    have h1 := foldl_len g h r (g a x)
    have h2 := h a x
    simp only [List.foldl_cons, List.length_cons]
    omega
theorem jointed_len (s : Survey) (hF : s.Fit) (b : Box) (d : Int) : (jointedR s b d).1.length < 4000000000 := by
  have hjl := jList_len s b (planeAx d) (planeAt b d)
  have hj := hF.jl
  have h1 := foldl_len mstep (fun a x => mstep_len (acc := a) (x := x)) (sortIv (pJointed s b d)) []
  have h2 := (sortIv_all (pJointed s b d)).1.length_eq
  have h3 : (merged (pJointed s b d)).length < 4000000000 := by
    unfold merged
    unfold pJointed at *
    simp only [List.length_nil] at h1
    omega
  unfold jointedR
  cases decide (sidedErr s b d = 0) <;> cases decide (nrmErr (pJointed s b d) = 0) <;> simp only [cond_true, cond_false, List.length_nil] <;> omega
theorem i44 : inb 3 4 = true := rfl
def facesB (s : Site) (tk : List ByteArray) (b : Box) : List Bool := [freeB s tk b 0, freeB s tk b 1, freeB s tk b 2, freeB s tk b 3]
theorem e_faces (s : Site) (hF : s.Fit) (tk : List ByteArray) (b : Box) : L.call 48 [ste s (.fm (entT tk)), b.enc] [] = some (.agg [.bool (freeB s tk b 0), .bool (freeB s tk b 1), .bool (freeB s tk b 2), .bool (freeB s tk b 3)], []) :=
  call_eq rfl rfl (by
    have f0 := e_free s hF tk b 0 (.inl rfl) (jointed_len _ hF.sv _ _)
    have f1 := e_free s hF tk b 1 (.inr (.inl rfl)) (jointed_len _ hF.sv _ _)
    have f2 := e_free s hF tk b 2 (.inr (.inr (.inl rfl))) (jointed_len _ hF.sv _ _)
    have f3 := e_free s hF tk b 3 (.inr (.inr (.inr rfl))) (jointed_len _ hF.sv _ _)
    simp only [↓eA, eB, seval, c48]
    rw [loop_unfold_c (T := T) (k := 48004) rfl]
    simp only [↓eA, eB, seval, l48004, f0, i40]
    rw [loop_unfold_c (T := T) (k := 48004) rfl]
    simp only [↓eA, eB, seval, l48004, f1, i41]
    rw [loop_unfold_c (T := T) (k := 48004) rfl]
    simp only [↓eA, eB, seval, l48004, f2, i42]
    rw [loop_unfold_c (T := T) (k := 48004) rfl]
    simp only [↓eA, eB, seval, l48004, f3, i43]
    rw [loop_unfold_c (T := T) (k := 48004) rfl]
    simp only [↓eA, eB, seval, l48004])
def firstP (tk : List ByteArray) (but : ByteArray) (p : Box → Bool) (b : Block) : Bool := (!seq b.name but && !taken tk b) && p b.box
theorem lp_first (s : Site) (hF : s.Fit) (tk : List ByteArray) (but : ByteArray) (g : Nat) (caps : List D) (hc : closedL caps = true) (p : Box → Bool) (hp : ∀ b ∈ s.blocks, L.call g (b.box.enc :: caps) [] = some (.bool (p b.box), [])) (e : Env) (H : Heap) (h1 : Gs.get e 1 = .str but) (h2 : Gs.get e 2 = .fn g caps) (h3 : Gs.get e 3 = .ptr 3 0) (h12 : Gs.get e 12 = blks s.blocks) (h13 : Gs.get e 13 = int s.blocks.length) (h14 : Gs.get e 14 = int 0) (hH : hget H 3 = some (.box (stc s (.fm (entT tk))) false)) :
    Ends T 58002 e H (fun X e' H' => match s.blocks.find? (firstP tk but p) with
      | some b => X = .ret ∧ Gs.get e' 6 = .str b.name ∧ Gs.get e' 7 = .bool true
      | none => X = .ex 0) := by
  have hb := hF.bl
  refine (loop_findH (T := T) (key := 58002) (li := l58002) rfl s.blocks (firstP tk but p) (fun i e H => Gs.get e 1 = .str but ∧ Gs.get e 2 = .fn g caps ∧ Gs.get e 3 = .ptr 3 0 ∧ Gs.get e 12 = blks s.blocks ∧ Gs.get e 13 = int s.blocks.length ∧ Gs.get e 14 = int i ∧ hget H 3 = some (.box (stc s (.fm (entT tk))) false))
    (fun b X e' H' => X = .ret ∧ Gs.get e' 6 = .str b.name ∧ Gs.get e' 7 = .bool true) (fun X e' H' => X = .ex 0) ?_ ?_ e H ⟨h1, h2, h3, h12, h13, h14, hH⟩).mono fun X e' H' h => by cases hf : s.blocks.find? (firstP tk but p) <;> rw [hf] at h <;> exact h
  · rintro i b e H hx hi ⟨h1, h2, h3, h12, h13, h14, hH⟩
    have hx' : (s.blocks.map Block.enc)[i]? = some b.enc := by simp [hx]
    have hcall := hp b (List.mem_of_getElem? hx)
    have hm := mfind_entT b.name tk
    have hw := wrap_succ (show i < 4611686018427387904 by omega)
    unfold firstP
    cases hs : seq b.name but <;> cases ht : taken tk b <;> cases hq : p b.box <;> rw [hq] at hcall <;> unfold taken at ht <;> rw [ht] at hm <;>
      simp only [↓eA, eB, seval, l58002, h1, h2, h3, h12, h13, h14, hH, hi, hx', hs, hm, renL_closed hc, hcall, hw] <;> and_intros <;> first | trivial | rfl
  · rintro e H ⟨h1, h2, h3, h12, h13, h14, hH⟩
    simp only [↓eA, eB, seval, l58002, h1, h2, h3, h12, h13, h14, hH, Nat.lt_irrefl]
    and_intros <;> first | trivial | rfl
def firstR (s : Site) (tk : List ByteArray) (but : ByteArray) (p : Box → Bool) : Option Block := s.blocks.find? (firstP tk but p)
abbrev foundD (o : Option Block) : D := match o with
  | some b => .tup [.str b.name, .bool true]
  | none => .tup [.str .empty, .bool false]
theorem e_first (s : Site) (hF : s.Fit) (tk : List ByteArray) (but : ByteArray) (g : Nat) (caps : List D) (hc : closedL caps = true) (p : Box → Bool) (hp : ∀ b ∈ s.blocks, L.call g (b.box.enc :: caps) [] = some (.bool (p b.box), [])) :
    L.call 58 [ste s (.fm (entT tk)), .str but, .fn g caps] [] = some (foundD (firstR s tk but p), []) :=
  call_eq rfl rfl (by
    simp only [↓eA, eB, seval, c58, renL_closed hc, List.length_map]
    generalize hE : (lim T).loop 58002 _ _ = R
    obtain ⟨X, e', H', rfl, h⟩ := Ends.at hE (lp_first s hF tk but g caps hc p hp _ _ (by simp only [↓eA, eB, seval]) (by simp only [↓eA, eB, seval]) (by simp only [↓eA, eB, seval]) (by simp only [↓eA, eB, seval]) (by simp only [↓eA, eB, seval]) (by simp only [↓eA, eB, seval]) rfl)
    unfold firstR
    cases hf : s.blocks.find? (firstP tk but p) with
    | some b => rw [hf] at h; obtain ⟨rfl, g6, g7⟩ := h; simp only [↓eA, eB, seval, g6, g7]
    | none => rw [hf] at h; subst h; simp only [↓eA, eB, seval]; rfl)
end Tz.C18
