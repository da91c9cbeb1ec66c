/- Part S89; no conditions. -/
import Derived.Test.YthndcpffehneaaaGreatS88
set_option linter.unusedVariables false
set_option linter.unusedSimpArgs false
set_option linter.unusedSectionVars false
set_option linter.defProp false
set_option linter.deprecated false
set_option maxRecDepth 100000
open Gs Go
namespace Tz.C18
/-! SupportGrows. -/
theorem both (s : Site) (hF : s.Fit) (nz : Bool) (tk : List ByteArray) (ht : tk.length < 1000000) (nm : ByteArray) : ∃ (f0 f1 f2 f3 : Bool) (k : Int) (by_ : ByteArray) (er : Int),
    L.call 20 [s.enc, strz nz tk, .str nm] [] = some (.tup [.agg [.bool f0, .bool f1, .bool f2, .bool f3], int er], []) ∧ L.call 21 [s.enc, strz nz tk, .str nm] [] = some (.tup [.agg [int k, .str by_], int er], []) ∧
    (er = 0 → startErr s tk = 0 ∧ ∃ b ∈ s.blocks, b.name = nm ∧ f0 = freeB s tk b.box 0 ∧ f1 = freeB s tk b.box 1 ∧ f2 = freeB s tk b.box 2 ∧ f3 = freeB s tk b.box 3 ∧ k = (whyB s tk b).1) := by
  cases hs : decide (startErr s tk = 0) with
  | false => exact ⟨_, _, _, _, _, _, _, e_Faces_bad s hF nz tk ht nm hs, e_Why_bad s hF nz tk ht nm hs, fun h => by rw [h] at hs; cases hs⟩
  | true =>
    have hs := of_decide_eq_true hs
    cases hn : s.blocks.find? (called nm) with
    | none => exact ⟨_, _, _, _, _, _, _, e_Faces_no s hF nz tk ht nm hs hn, e_Why_no s hF nz tk ht nm hs hn, fun h => by cases h⟩
    | some b =>
      have hc : called nm b = true := List.find?_some hn
      exact ⟨_, _, _, _, _, _, _, e_Faces_ok s hF nz tk ht nm hs b hn, e_Why_ok s hF nz tk ht nm hs b hn, fun _ => ⟨hs, b, List.mem_of_find?_eq_some hn, by unfold called at hc; first | exact (seq_iff.1 hc) | exact (seq_iff.1 hc).symm, rfl, rfl, rfl, rfl, rfl⟩⟩
set_option maxHeartbeats 2000000 in
theorem e_grows (s : Site) (tk : List ByteArray) (nm more : ByteArray) : L.call 7 [s.enc, strs tk, .str nm, .str more] [] = some (.bool true, []) := by
  have aw : L.call 10 [] [] = some (.bool true, []) := Aw.aw_run
  obtain ⟨v, e1, hv⟩ := small18 s false tk
  cases hg : !v || seq nm more with
  | true => exact call_eq rfl rfl (by simp only [↓eA, eB, seval, c7, aw, e1, hg, List.length_map])
  | false =>
  have hg' := hg
  simp only [Bool.or_eq_false_iff, Bool.not_eq_false'] at hg'
  obtain ⟨g1, g2⟩ := hg'
  obtain ⟨hF, ht⟩ := hv g1
  have hmap : tk.map D.str ++ [D.str more] = (tk ++ [more]).map D.str := by simp
  have hfit1 : fits (0 + tk.length) 16 = true := fits_of (by omega)
  have hfit2 : fits (tk.length + (0 + 1)) 16 = true := fits_of (by omega)
  obtain ⟨a0, a1, a2, a3, k, u, er, F1, W1, h1⟩ := both s hF false tk (by omega) nm
  obtain ⟨b0, b1, b2, b3, k', u', er', F2, W2, h2⟩ := both s hF false (tk ++ [more]) (by simp; omega) nm
  cases z1 : decide (er = 0) with
  | false => cases z2 : decide (er' = 0) <;> exact call_eq rfl rfl (by simp only [↓eA, eB, seval, c7, aw, e1, hg, List.length_map, hfit1, hfit2, killE_nil, hmap, F1, F2, W1, W2, z1, z2] <;> rfl)
  | true =>
  cases z2 : decide (er' = 0) with
  | false => exact call_eq rfl rfl (by simp only [↓eA, eB, seval, c7, aw, e1, hg, List.length_map, hfit1, hfit2, killE_nil, hmap, F1, F2, W1, W2, z1, z2] <;> rfl)
  | true =>
  obtain ⟨st1, b, hb, hbn, rfl, rfl, rfl, rfl, rfl⟩ := h1 (of_decide_eq_true z1)
  obtain ⟨st2, b', hb', hbn', rfl, rfl, rfl, rfl, rfl⟩ := h2 (of_decide_eq_true z2)
  have hok := site_ok (start_ok st1).1
  have hbb := sorted_inj (sorted_of hok.srt) hb hb' (by rw [hbn, hbn'])
  subst hbb
  have m0 := free_mono (n := more) (tk := tk) hok hb (d := 0) (by omega)
  have m1 := free_mono (n := more) (tk := tk) hok hb (d := 1) (by omega)
  have m2 := free_mono (n := more) (tk := tk) hok hb (d := 2) (by omega)
  have m3 := free_mono (n := more) (tk := tk) hok hb (d := 3) (by omega)
  have mp := possible_mono (n := more) (tk := tk) hok hb
  rw [hbn] at mp
  unfold possible at mp
  generalize (whyB s tk b).1 = k at mp W1
  generalize (whyB s (tk ++ [more]) b).1 = k' at mp W2
  generalize freeB s tk b.box 0 = f0 at m0 F1
  generalize freeB s tk b.box 1 = f1 at m1 F1
  generalize freeB s tk b.box 2 = f2 at m2 F1
  generalize freeB s tk b.box 3 = f3 at m3 F1
  generalize freeB s (tk ++ [more]) b.box 0 = f0' at m0 F2
  generalize freeB s (tk ++ [more]) b.box 1 = f1' at m1 F2
  generalize freeB s (tk ++ [more]) b.box 2 = f2' at m2 F2
  generalize freeB s (tk ++ [more]) b.box 3 = f3' at m3 F2
  have imp : ∀ p q : Bool, (p = true → q = true) → (p && !q) = false := fun p q h => by cases p <;> cases q <;> simp_all
  have n0 := imp _ _ m0
  have n1 := imp _ _ m1
  have n2 := imp _ _ m2
  have n3 := imp _ _ m3
  have np : ((!decide (k = 0)) || decide (k' = 0)) = true := by
    cases hk : decide (k = 0) with
    | false => rfl
    | true => rw [mp hk g2]; rfl
  refine call_eq rfl rfl ?_
  simp only [↓eA, eB, seval, c7, aw, e1, hg, List.length_map, hfit1, hfit2, killE_nil, hmap, F1, F2, W1, W2, z1, z2]
  rw [loop_unfold_c (T := T) (k := 7013) rfl]
  simp only [↓eA, eB, seval, l7013, i40, n0]
  rw [loop_unfold_c (T := T) (k := 7013) rfl]
  simp only [↓eA, eB, seval, l7013, i41, n1]
  rw [loop_unfold_c (T := T) (k := 7013) rfl]
  simp only [↓eA, eB, seval, l7013, i42, n2]
  rw [loop_unfold_c (T := T) (k := 7013) rfl]
  simp only [↓eA, eB, seval, l7013, i43, n3]
  rw [loop_unfold_c (T := T) (k := 7013) rfl]
  simp only [↓eA, eB, seval, l7013, np]
end Tz.C18
