/- The line of a survey, open sides; no conditions. -/
import Derived.Test.YtbdcbppmgbekoaaGreatDoorS35
set_option linter.unusedVariables false
set_option linter.unusedSimpArgs false
set_option linter.unusedSectionVars false
set_option linter.defProp false
set_option linter.deprecated false
open Gs Go
namespace Tz
abbrev o8 : Blk := .box [.ow 11180, .bool false, .fz true 4 [], int 0] false
theorem lp_lnOpen (s : Survey) (P : D) (e : Env) (H : Heap) (h0 : lnSt s [P] e H) (h8 : Gs.get e 8 = .ptr 8 0) (h61 : Gs.get e 61 = .agg [.bool s.o0, .bool s.o1, .bool s.o2, .bool s.o3]) (h62 : Gs.get e 62 = int 0) (hH8 : hget H 8 = some o8) (hHr : hget H 11180 = some (.row false 4 ([wd bOpen].map Tk.enc) 0 true)) :
    Ends T 9010 e H (fun X e' H' => X = .ex 0 ∧ (Gs.get e' 1 = .ptr 1 0 ∧ Gs.get e' 2 = .ptr 2 0 ∧ Gs.get e' 5 = .ptr 5 0 ∧ Gs.get e' 8 = .ptr 8 0) ∧ H' = [(1, .box s.cells false), (2, nol), (5, o5), (8, o8), (1057, .row true 4 [P] 0 true), (11180, .row false 4 ((openT s).map Tk.enc) 0 true)]) := by
  refine loop_fold (T := T) (key := 9010) (li := l9010) rfl (sideL s) openG (fun i a e H => lnSt s [P] e H ∧ Gs.get e 8 = .ptr 8 0 ∧ Gs.get e 61 = .agg [.bool s.o0, .bool s.o1, .bool s.o2, .bool s.o3] ∧ Gs.get e 62 = int i ∧ hget H 8 = some o8 ∧ hget H 11180 = some (.row false 4 (a.map Tk.enc) 0 true) ∧ a.length ≤ 1 + i) (fun a X e' H' => X = .ex 0 ∧ (Gs.get e' 1 = .ptr 1 0 ∧ Gs.get e' 2 = .ptr 2 0 ∧ Gs.get e' 5 = .ptr 5 0 ∧ Gs.get e' 8 = .ptr 8 0) ∧ H' = [(1, .box s.cells false), (2, nol), (5, o5), (8, o8), (1057, .row true 4 [P] 0 true), (11180, .row false 4 (a.map Tk.enc) 0 true)]) ?_ ?_ [wd bOpen] e H ⟨h0, h8, h61, h62, hH8, hHr, by simp⟩
  · rintro i x a e H hx hi ⟨⟨⟨h1, h2, h5⟩, hH1, hH2, hH5, hH7⟩, h8, h61, h62, hH8, hHr, hl⟩
    have hi4 : i < 4 := hi
    have hfit : fits (a.length + (0 + 1)) 40 = true := fits_of (by omega)
    have key : i = 0 ∧ x = (s.o0, bEast) ∨ i = 1 ∧ x = (s.o1, bWest) ∨ i = 2 ∧ x = (s.o2, bNorth) ∨ i = 3 ∧ x = (s.o3, bSouth) := by
      match i, hi4, hx with
      | 0, _, hx => injection hx with hx; exact .inl ⟨rfl, hx.symm⟩
      | 1, _, hx => injection hx with hx; exact .inr (.inl ⟨rfl, hx.symm⟩)
      | 2, _, hx => injection hx with hx; exact .inr (.inr (.inl ⟨rfl, hx.symm⟩))
      | 3, _, hx => injection hx with hx; exact .inr (.inr (.inr ⟨rfl, hx.symm⟩))
    have i0 : inb 0 4 = true := rfl
    have i1 : inb 1 4 = true := rfl
    have i2 : inb 2 4 = true := rfl
    have i3 : inb 3 4 = true := rfl
    have g0 : [D.str bEast, D.str bWest, D.str bNorth, D.str bSouth][0]? = some (.str bEast) := rfl
    have g1 : [D.str bEast, D.str bWest, D.str bNorth, D.str bSouth][1]? = some (.str bWest) := rfl
    have g2 : [D.str bEast, D.str bWest, D.str bNorth, D.str bSouth][2]? = some (.str bNorth) := rfl
    have g3 : [D.str bEast, D.str bWest, D.str bNorth, D.str bSouth][3]? = some (.str bSouth) := rfl
    have k0 : IntKind.i64.wrap (0 + 1) = 1 := by decide
    have k1 : IntKind.i64.wrap (1 + 1) = 2 := by decide
    have k2 : IntKind.i64.wrap (2 + 1) = 3 := by decide
    have k3 : IntKind.i64.wrap (3 + 1) = 4 := by decide
    have l1 : a.length ≤ 1 + (i + 1) := by omega
    have l2 : (a ++ [wd x.2]).length ≤ 1 + (i + 1) := by simp; omega
    rcases key with ⟨rfl, rfl⟩ | ⟨rfl, rfl⟩ | ⟨rfl, rfl⟩ | ⟨rfl, rfl⟩
    · have h62' : Gs.get e 62 = int 0 := h62
      cases ho : s.o0 with
      | true =>
        have hg : openG a (true, bEast) = a ++ [wd bEast] := rfl
        simp only [↓eA, eB, reduceIte, Nat.reduceBEq, Int.reduceNeg, Int.reduceLT, Int.reduceLE, Int.reduceAdd, Int.reduceSub, Int.reduceMul, Int.reduceEq, Int.reduceToNat, Nat.reduceLT, Nat.reduceAdd, Nat.reduceMul, Nat.reduceSub, l9010, h1, h2, h5, hH1, hH2, hH5, hH7, h8, h61, h62', hH8, hHr, ho, hfit, e_word, hg, i0, i1, i2, i3, g0, g1, g2, g3, k0, k1, k2, k3]
        and_intros <;> first | trivial | rfl | exact l2 | (rw [List.map_append]; rfl) | (simp only [ho, hget, Survey.cells]; rfl) | (simp only [ho, Survey.cells]; rfl)
      | false =>
        have hg : openG a (false, bEast) = a := rfl
        simp only [↓eA, eB, reduceIte, Nat.reduceBEq, Int.reduceNeg, Int.reduceLT, Int.reduceLE, Int.reduceAdd, Int.reduceSub, Int.reduceMul, Int.reduceEq, Int.reduceToNat, Nat.reduceLT, Nat.reduceAdd, Nat.reduceMul, Nat.reduceSub, l9010, h1, h2, h5, hH1, hH2, hH5, hH7, h8, h61, h62', hH8, hHr, ho, hfit, hg, i0, i1, i2, i3, k0, k1, k2, k3]
        and_intros <;> first | trivial | rfl | exact l1 | (simp only [ho, hget, Survey.cells]; rfl) | (simp only [ho, Survey.cells]; rfl)
    · have h62' : Gs.get e 62 = int 1 := h62
      cases ho : s.o1 with
      | true =>
        have hg : openG a (true, bWest) = a ++ [wd bWest] := rfl
        simp only [↓eA, eB, reduceIte, Nat.reduceBEq, Int.reduceNeg, Int.reduceLT, Int.reduceLE, Int.reduceAdd, Int.reduceSub, Int.reduceMul, Int.reduceEq, Int.reduceToNat, Nat.reduceLT, Nat.reduceAdd, Nat.reduceMul, Nat.reduceSub, l9010, h1, h2, h5, hH1, hH2, hH5, hH7, h8, h61, h62', hH8, hHr, ho, hfit, e_word, hg, i0, i1, i2, i3, g0, g1, g2, g3, k0, k1, k2, k3]
        and_intros <;> first | trivial | rfl | exact l2 | (rw [List.map_append]; rfl) | (simp only [ho, hget, Survey.cells]; rfl) | (simp only [ho, Survey.cells]; rfl)
      | false =>
        have hg : openG a (false, bWest) = a := rfl
        simp only [↓eA, eB, reduceIte, Nat.reduceBEq, Int.reduceNeg, Int.reduceLT, Int.reduceLE, Int.reduceAdd, Int.reduceSub, Int.reduceMul, Int.reduceEq, Int.reduceToNat, Nat.reduceLT, Nat.reduceAdd, Nat.reduceMul, Nat.reduceSub, l9010, h1, h2, h5, hH1, hH2, hH5, hH7, h8, h61, h62', hH8, hHr, ho, hfit, hg, i0, i1, i2, i3, k0, k1, k2, k3]
        and_intros <;> first | trivial | rfl | exact l1 | (simp only [ho, hget, Survey.cells]; rfl) | (simp only [ho, Survey.cells]; rfl)
    · have h62' : Gs.get e 62 = int 2 := h62
      cases ho : s.o2 with
      | true =>
        have hg : openG a (true, bNorth) = a ++ [wd bNorth] := rfl
        simp only [↓eA, eB, reduceIte, Nat.reduceBEq, Int.reduceNeg, Int.reduceLT, Int.reduceLE, Int.reduceAdd, Int.reduceSub, Int.reduceMul, Int.reduceEq, Int.reduceToNat, Nat.reduceLT, Nat.reduceAdd, Nat.reduceMul, Nat.reduceSub, l9010, h1, h2, h5, hH1, hH2, hH5, hH7, h8, h61, h62', hH8, hHr, ho, hfit, e_word, hg, i0, i1, i2, i3, g0, g1, g2, g3, k0, k1, k2, k3]
        and_intros <;> first | trivial | rfl | exact l2 | (rw [List.map_append]; rfl) | (simp only [ho, hget, Survey.cells]; rfl) | (simp only [ho, Survey.cells]; rfl)
      | false =>
        have hg : openG a (false, bNorth) = a := rfl
        simp only [↓eA, eB, reduceIte, Nat.reduceBEq, Int.reduceNeg, Int.reduceLT, Int.reduceLE, Int.reduceAdd, Int.reduceSub, Int.reduceMul, Int.reduceEq, Int.reduceToNat, Nat.reduceLT, Nat.reduceAdd, Nat.reduceMul, Nat.reduceSub, l9010, h1, h2, h5, hH1, hH2, hH5, hH7, h8, h61, h62', hH8, hHr, ho, hfit, hg, i0, i1, i2, i3, k0, k1, k2, k3]
        and_intros <;> first | trivial | rfl | exact l1 | (simp only [ho, hget, Survey.cells]; rfl) | (simp only [ho, Survey.cells]; rfl)
    · have h62' : Gs.get e 62 = int 3 := h62
      cases ho : s.o3 with
      | true =>
        have hg : openG a (true, bSouth) = a ++ [wd bSouth] := rfl
        simp only [↓eA, eB, reduceIte, Nat.reduceBEq, Int.reduceNeg, Int.reduceLT, Int.reduceLE, Int.reduceAdd, Int.reduceSub, Int.reduceMul, Int.reduceEq, Int.reduceToNat, Nat.reduceLT, Nat.reduceAdd, Nat.reduceMul, Nat.reduceSub, l9010, h1, h2, h5, hH1, hH2, hH5, hH7, h8, h61, h62', hH8, hHr, ho, hfit, e_word, hg, i0, i1, i2, i3, g0, g1, g2, g3, k0, k1, k2, k3]
        and_intros <;> first | trivial | rfl | exact l2 | (rw [List.map_append]; rfl) | (simp only [ho, hget, Survey.cells]; rfl) | (simp only [ho, Survey.cells]; rfl)
      | false =>
        have hg : openG a (false, bSouth) = a := rfl
        simp only [↓eA, eB, reduceIte, Nat.reduceBEq, Int.reduceNeg, Int.reduceLT, Int.reduceLE, Int.reduceAdd, Int.reduceSub, Int.reduceMul, Int.reduceEq, Int.reduceToNat, Nat.reduceLT, Nat.reduceAdd, Nat.reduceMul, Nat.reduceSub, l9010, h1, h2, h5, hH1, hH2, hH5, hH7, h8, h61, h62', hH8, hHr, ho, hfit, hg, i0, i1, i2, i3, k0, k1, k2, k3]
        and_intros <;> first | trivial | rfl | exact l1 | (simp only [ho, hget, Survey.cells]; rfl) | (simp only [ho, Survey.cells]; rfl)
  · rintro a e H ⟨⟨⟨h1, h2, h5⟩, hH1, hH2, hH5, hH7⟩, h8, h61, h62, hH8, hHr, hl⟩
    have h62' : Gs.get e 62 = int 4 := h62
    simp only [↓eA, eB, reduceIte, Nat.reduceBEq, Int.reduceNeg, Int.reduceLT, Int.reduceLE, Int.reduceAdd, Int.reduceSub, Int.reduceMul, Int.reduceEq, Int.reduceToNat, Nat.reduceLT, Nat.reduceAdd, Nat.reduceMul, Nat.reduceSub, l9010, h1, h2, h5, hH1, hH2, hH5, hH7, h8, h61, h62', hH8, hHr]
    and_intros <;> first | trivial | rfl
end Tz
