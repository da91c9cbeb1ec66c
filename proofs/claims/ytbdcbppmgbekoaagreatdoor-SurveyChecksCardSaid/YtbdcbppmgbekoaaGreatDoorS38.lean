/- The line of a survey, reference; no conditions. -/
import Derived.Test.YtbdcbppmgbekoaaGreatDoorS37
set_option linter.unusedVariables false
set_option linter.unusedSimpArgs false
set_option linter.unusedSectionVars false
set_option linter.defProp false
set_option linter.deprecated false
open Gs Go
namespace Tz
/-! .. in the reference. -/
abbrev q3 : Blk := .box [.fz false 4 [(wd bSurvey).enc], .bool true, .ow 1051, int 0] false
abbrev rlSt (s : Survey) (acc : List D) (e : Env) (H : Heap) : Prop := (Gs.get e 1 = .ptr 1 0 ∧ Gs.get e 2 = .ptr 2 0 ∧ Gs.get e 3 = .ptr 3 0) ∧ (hget H 1 = some (.box s.cells false) ∧ hget H 2 = some nol ∧ hget H 3 = some q3 ∧ hget H 1051 = some (.row true 4 acc 0 true))
abbrev Hrl (s : Survey) (acc : List D) : Heap := [(1, .box s.cells false), (2, nol), (3, q3), (1051, .row true 4 acc 0 true)]
theorem lp_rlOpen (s : Survey) (P : D) (e : Env) (H : Heap) (h0 : rlSt s [P] e H) (h5 : Gs.get e 5 = .ow 1005) (h6 : Gs.get e 6 = .fz false 1 [D.str bEast, D.str bWest, D.str bNorth, D.str bSouth]) (h7 : Gs.get e 7 = int 0) (hHr : hget H 1005 = some (.row false 4 ([wd bOpen].map Tk.enc) 0 true)) :
    Ends T 14007 e H (fun X e' H' => X = .ex 0 ∧ (Gs.get e' 1 = .ptr 1 0 ∧ Gs.get e' 2 = .ptr 2 0 ∧ Gs.get e' 3 = .ptr 3 0 ∧ Gs.get e' 5 = .ow 1005) ∧ H' = [(1, .box s.cells false), (2, nol), (3, q3), (1005, .row false 4 ((openT s).map Tk.enc) 0 true), (1051, .row true 4 [P] 0 true)]) := by
  refine loop_fold (T := T) (key := 14007) (li := l14007) rfl (sideL s) openG (fun i a e H => rlSt s [P] e H ∧ Gs.get e 5 = .ow 1005 ∧ Gs.get e 6 = .fz false 1 [D.str bEast, D.str bWest, D.str bNorth, D.str bSouth] ∧ Gs.get e 7 = int i ∧ hget H 1005 = some (.row false 4 (a.map Tk.enc) 0 true) ∧ a.length ≤ 1 + i) (fun a X e' H' => X = .ex 0 ∧ (Gs.get e' 1 = .ptr 1 0 ∧ Gs.get e' 2 = .ptr 2 0 ∧ Gs.get e' 3 = .ptr 3 0 ∧ Gs.get e' 5 = .ow 1005) ∧ H' = [(1, .box s.cells false), (2, nol), (3, q3), (1005, .row false 4 (a.map Tk.enc) 0 true), (1051, .row true 4 [P] 0 true)]) ?_ ?_ [wd bOpen] e H ⟨h0, h5, h6, h7, hHr, by simp⟩
  · rintro i x a e H hx hi ⟨⟨⟨h1, h2, h3⟩, hH1, hH2, hH3, hH7⟩, h5, h6, h7, hHr, hl⟩
    have hi4 : i < 4 := hi
    have hfit : fits (a.length + (0 + 1)) 40 = true := fits_of (by omega)
    have key : i = 0 ∧ x = (s.o0, bEast) ∨ i = 1 ∧ x = (s.o1, bWest) ∨ i = 2 ∧ x = (s.o2, bNorth) ∨ i = 3 ∧ x = (s.o3, bSouth) := by
      match i, hi4, hx with
      | 0, _, hx => injection hx with hx; exact .inl ⟨rfl, hx.symm⟩
      | 1, _, hx => injection hx with hx; exact .inr (.inl ⟨rfl, hx.symm⟩)
      | 2, _, hx => injection hx with hx; exact .inr (.inr (.inl ⟨rfl, hx.symm⟩))
      | 3, _, hx => injection hx with hx; exact .inr (.inr (.inr ⟨rfl, hx.symm⟩))
    have i0 : inb 0 4 = true := rfl
    have i1 : inb 1 4 = true := rfl
    have i2 : inb 2 4 = true := rfl
    have i3 : inb 3 4 = true := rfl
    have g0 : [D.str bEast, D.str bWest, D.str bNorth, D.str bSouth][0]? = some (.str bEast) := rfl
    have g1 : [D.str bEast, D.str bWest, D.str bNorth, D.str bSouth][1]? = some (.str bWest) := rfl
    have g2 : [D.str bEast, D.str bWest, D.str bNorth, D.str bSouth][2]? = some (.str bNorth) := rfl
    have g3 : [D.str bEast, D.str bWest, D.str bNorth, D.str bSouth][3]? = some (.str bSouth) := rfl
    have k0 : IntKind.i64.wrap (0 + 1) = 1 := by decide
    have k1 : IntKind.i64.wrap (1 + 1) = 2 := by decide
    have k2 : IntKind.i64.wrap (2 + 1) = 3 := by decide
    have k3 : IntKind.i64.wrap (3 + 1) = 4 := by decide
    have l1 : a.length ≤ 1 + (i + 1) := by omega
    have l2 : (a ++ [wd x.2]).length ≤ 1 + (i + 1) := by simp; omega
    rcases key with ⟨rfl, rfl⟩ | ⟨rfl, rfl⟩ | ⟨rfl, rfl⟩ | ⟨rfl, rfl⟩
    · have h7' : Gs.get e 7 = int 0 := h7
      cases ho : s.o0 with
      | true =>
        have hg : openG a (true, bEast) = a ++ [wd bEast] := rfl
        simp only [↓eA, eB, reduceIte, Nat.reduceBEq, Int.reduceNeg, Int.reduceLT, Int.reduceLE, Int.reduceAdd, Int.reduceSub, Int.reduceMul, Int.reduceEq, Int.reduceToNat, Nat.reduceLT, Nat.reduceAdd, Nat.reduceMul, Nat.reduceSub, l14007, h1, h2, h3, hH1, hH2, hH3, hH7, h5, h6, h7', hHr, ho, hfit, e_rw, hg, i0, i1, i2, i3, g0, g1, g2, g3, k0, k1, k2, k3]
        and_intros <;> first | trivial | rfl | exact l2 | (rw [List.map_append]; rfl) | (simp only [ho, hget, Survey.cells]; rfl) | (simp only [ho, Survey.cells]; rfl)
      | false =>
        have hg : openG a (false, bEast) = a := rfl
        simp only [↓eA, eB, reduceIte, Nat.reduceBEq, Int.reduceNeg, Int.reduceLT, Int.reduceLE, Int.reduceAdd, Int.reduceSub, Int.reduceMul, Int.reduceEq, Int.reduceToNat, Nat.reduceLT, Nat.reduceAdd, Nat.reduceMul, Nat.reduceSub, l14007, h1, h2, h3, hH1, hH2, hH3, hH7, h5, h6, h7', hHr, ho, hfit, hg, i0, i1, i2, i3, k0, k1, k2, k3]
        and_intros <;> first | trivial | rfl | exact l1 | (simp only [ho, hget, Survey.cells]; rfl) | (simp only [ho, Survey.cells]; rfl)
    · have h7' : Gs.get e 7 = int 1 := h7
      cases ho : s.o1 with
      | true =>
        have hg : openG a (true, bWest) = a ++ [wd bWest] := rfl
        simp only [↓eA, eB, reduceIte, Nat.reduceBEq, Int.reduceNeg, Int.reduceLT, Int.reduceLE, Int.reduceAdd, Int.reduceSub, Int.reduceMul, Int.reduceEq, Int.reduceToNat, Nat.reduceLT, Nat.reduceAdd, Nat.reduceMul, Nat.reduceSub, l14007, h1, h2, h3, hH1, hH2, hH3, hH7, h5, h6, h7', hHr, ho, hfit, e_rw, hg, i0, i1, i2, i3, g0, g1, g2, g3, k0, k1, k2, k3]
        and_intros <;> first | trivial | rfl | exact l2 | (rw [List.map_append]; rfl) | (simp only [ho, hget, Survey.cells]; rfl) | (simp only [ho, Survey.cells]; rfl)
      | false =>
        have hg : openG a (false, bWest) = a := rfl
        simp only [↓eA, eB, reduceIte, Nat.reduceBEq, Int.reduceNeg, Int.reduceLT, Int.reduceLE, Int.reduceAdd, Int.reduceSub, Int.reduceMul, Int.reduceEq, Int.reduceToNat, Nat.reduceLT, Nat.reduceAdd, Nat.reduceMul, Nat.reduceSub, l14007, h1, h2, h3, hH1, hH2, hH3, hH7, h5, h6, h7', hHr, ho, hfit, hg, i0, i1, i2, i3, k0, k1, k2, k3]
        and_intros <;> first | trivial | rfl | exact l1 | (simp only [ho, hget, Survey.cells]; rfl) | (simp only [ho, Survey.cells]; rfl)
    · have h7' : Gs.get e 7 = int 2 := h7
      cases ho : s.o2 with
      | true =>
        have hg : openG a (true, bNorth) = a ++ [wd bNorth] := rfl
        simp only [↓eA, eB, reduceIte, Nat.reduceBEq, Int.reduceNeg, Int.reduceLT, Int.reduceLE, Int.reduceAdd, Int.reduceSub, Int.reduceMul, Int.reduceEq, Int.reduceToNat, Nat.reduceLT, Nat.reduceAdd, Nat.reduceMul, Nat.reduceSub, l14007, h1, h2, h3, hH1, hH2, hH3, hH7, h5, h6, h7', hHr, ho, hfit, e_rw, hg, i0, i1, i2, i3, g0, g1, g2, g3, k0, k1, k2, k3]
        and_intros <;> first | trivial | rfl | exact l2 | (rw [List.map_append]; rfl) | (simp only [ho, hget, Survey.cells]; rfl) | (simp only [ho, Survey.cells]; rfl)
      | false =>
        have hg : openG a (false, bNorth) = a := rfl
        simp only [↓eA, eB, reduceIte, Nat.reduceBEq, Int.reduceNeg, Int.reduceLT, Int.reduceLE, Int.reduceAdd, Int.reduceSub, Int.reduceMul, Int.reduceEq, Int.reduceToNat, Nat.reduceLT, Nat.reduceAdd, Nat.reduceMul, Nat.reduceSub, l14007, h1, h2, h3, hH1, hH2, hH3, hH7, h5, h6, h7', hHr, ho, hfit, hg, i0, i1, i2, i3, k0, k1, k2, k3]
        and_intros <;> first | trivial | rfl | exact l1 | (simp only [ho, hget, Survey.cells]; rfl) | (simp only [ho, Survey.cells]; rfl)
    · have h7' : Gs.get e 7 = int 3 := h7
      cases ho : s.o3 with
      | true =>
        have hg : openG a (true, bSouth) = a ++ [wd bSouth] := rfl
        simp only [↓eA, eB, reduceIte, Nat.reduceBEq, Int.reduceNeg, Int.reduceLT, Int.reduceLE, Int.reduceAdd, Int.reduceSub, Int.reduceMul, Int.reduceEq, Int.reduceToNat, Nat.reduceLT, Nat.reduceAdd, Nat.reduceMul, Nat.reduceSub, l14007, h1, h2, h3, hH1, hH2, hH3, hH7, h5, h6, h7', hHr, ho, hfit, e_rw, hg, i0, i1, i2, i3, g0, g1, g2, g3, k0, k1, k2, k3]
        and_intros <;> first | trivial | rfl | exact l2 | (rw [List.map_append]; rfl) | (simp only [ho, hget, Survey.cells]; rfl) | (simp only [ho, Survey.cells]; rfl)
      | false =>
        have hg : openG a (false, bSouth) = a := rfl
        simp only [↓eA, eB, reduceIte, Nat.reduceBEq, Int.reduceNeg, Int.reduceLT, Int.reduceLE, Int.reduceAdd, Int.reduceSub, Int.reduceMul, Int.reduceEq, Int.reduceToNat, Nat.reduceLT, Nat.reduceAdd, Nat.reduceMul, Nat.reduceSub, l14007, h1, h2, h3, hH1, hH2, hH3, hH7, h5, h6, h7', hHr, ho, hfit, hg, i0, i1, i2, i3, k0, k1, k2, k3]
        and_intros <;> first | trivial | rfl | exact l1 | (simp only [ho, hget, Survey.cells]; rfl) | (simp only [ho, Survey.cells]; rfl)
  · rintro a e H ⟨⟨⟨h1, h2, h3⟩, hH1, hH2, hH3, hH7⟩, h5, h6, h7, hHr, hl⟩
    have h7' : Gs.get e 7 = int 4 := h7
    simp only [↓eA, eB, reduceIte, Nat.reduceBEq, Int.reduceNeg, Int.reduceLT, Int.reduceLE, Int.reduceAdd, Int.reduceSub, Int.reduceMul, Int.reduceEq, Int.reduceToNat, Nat.reduceLT, Nat.reduceAdd, Nat.reduceMul, Nat.reduceSub, l14007, h1, h2, h3, hH1, hH2, hH3, hH7, h5, h6, h7', hHr]
    and_intros <;> first | trivial | rfl
theorem lp_rlBed (s : Survey) (hF : s.Fit) (acc : List D) (hacc : acc.length ≤ 1000000) (e : Env) (H : Heap) (h0 : rlSt s acc e H) (h8 : Gs.get e 8 = int 0) :
    Ends T 14014 e H (fun X e' H' => X = .ex 2 ∧ (Gs.get e' 1 = .ptr 1 0 ∧ Gs.get e' 2 = .ptr 2 0 ∧ Gs.get e' 3 = .ptr 3 0) ∧ H' = Hrl s (acc ++ s.beds.map fun b => lfD (bedT b))) := by
  have hb := hF.bl
  rw [← foldl_app]
  refine loop_fold (T := T) (key := 14014) (li := l14014) rfl s.beds (fun (a : List D) (b : Bed) => a ++ [lfD (bedT b)]) (fun i a e H => rlSt s a e H ∧ Gs.get e 8 = int i ∧ a.length = acc.length + i) (fun a X e' H' => X = .ex 2 ∧ (Gs.get e' 1 = .ptr 1 0 ∧ Gs.get e' 2 = .ptr 2 0 ∧ Gs.get e' 3 = .ptr 3 0) ∧ H' = Hrl s a) ?_ ?_ acc e H ⟨h0, h8, rfl⟩
  · rintro i x a e H hx hi ⟨⟨⟨h1, h2, h3⟩, hH1, hH2, hH3, hH7⟩, h8, hl⟩
    have hx' : (s.beds.map Bed.enc)[i]? = some x.enc := by simp [hx]
    have hfit : fits (a.length + (0 + 1)) 64 = true := fits_of (by omega)
    have hk : L.call 57 [.fz false 4 [(wd bBed).enc, (wd x.name).enc, (nu x.z).enc]] [] = some (.agg [.fz false 4 [(wd bBed).enc, (wd x.name).enc, (nu x.z).enc], .bool false, .fz true 4 [], int 0], []) := e_rline false (bedT x)
    simp only [↓eA, eB, reduceIte, Nat.reduceBEq, Int.reduceNeg, Int.reduceLT, Int.reduceLE, Int.reduceAdd, Int.reduceSub, Int.reduceMul, Int.reduceEq, Int.reduceToNat, Nat.reduceLT, Nat.reduceAdd, Nat.reduceMul, Nat.reduceSub, l14014, h1, h2, h3, hH1, hH2, hH3, hH7, h8, hi, hx', hfit, e_rw, e_rn, hk, wrap_succ (show i < 4611686018427387904 by omega)]
    and_intros <;> first | trivial | rfl | (simp; omega)
  · rintro a e H ⟨⟨⟨h1, h2, h3⟩, hH1, hH2, hH3, hH7⟩, h8, hl⟩
    simp only [↓eA, eB, reduceIte, Nat.reduceBEq, Int.reduceNeg, Int.reduceLT, Int.reduceLE, Int.reduceAdd, Int.reduceSub, Int.reduceMul, Int.reduceEq, Int.reduceToNat, Nat.reduceLT, Nat.reduceAdd, Nat.reduceMul, Nat.reduceSub, l14014, h1, h2, h3, hH1, hH2, hH3, hH7, h8, Nat.lt_irrefl]
    and_intros <;> first | trivial | rfl
theorem lp_rlJoint (s : Survey) (hF : s.Fit) (hax : ∀ j ∈ s.joints, j.axis = 0 ∨ j.axis = 1) (acc : List D) (hacc : acc.length ≤ 1000000) (e : Env) (H : Heap) (h0 : rlSt s acc e H) (h9 : Gs.get e 9 = int 0) :
    Ends T 14018 e H (fun X e' H' => X = .ex 4 ∧ (Gs.get e' 1 = .ptr 1 0 ∧ Gs.get e' 2 = .ptr 2 0 ∧ Gs.get e' 3 = .ptr 3 0) ∧ H' = Hrl s (acc ++ s.joints.map fun j => lfD (jointT j))) := by
  have hb := hF.jl
  rw [← foldl_app]
  refine loop_fold (T := T) (key := 14018) (li := l14018) rfl s.joints (fun (a : List D) (b : Joint) => a ++ [lfD (jointT b)]) (fun i a e H => rlSt s a e H ∧ Gs.get e 9 = int i ∧ a.length = acc.length + i) (fun a X e' H' => X = .ex 4 ∧ (Gs.get e' 1 = .ptr 1 0 ∧ Gs.get e' 2 = .ptr 2 0 ∧ Gs.get e' 3 = .ptr 3 0) ∧ H' = Hrl s a) ?_ ?_ acc e H ⟨h0, h9, rfl⟩
  · rintro i x a e H hx hi ⟨⟨⟨h1, h2, h3⟩, hH1, hH2, hH3, hH7⟩, h9, hl⟩
    have hx' : (s.joints.map Joint.enc)[i]? = some x.enc := by simp [hx]
    have hfit : fits (a.length + (0 + 1)) 64 = true := fits_of (by omega)
    rcases hax x (List.mem_of_getElem? hx) with hz | hz
    · have ht : lfD (jointT x) = .agg [.fz false 4 [(wd bJoint).enc, (wd x.name).enc, (wd bX).enc, (nu x.at_).enc, (nu x.lo).enc, (nu x.hi).enc], .bool false, .fz true 4 [], int 0] := by rw [jointT, if_pos hz]; rfl
      have hk : L.call 57 [.fz false 4 [(wd bJoint).enc, (wd x.name).enc, (wd bX).enc, (nu x.at_).enc, (nu x.lo).enc, (nu x.hi).enc]] [] = some (.agg [.fz false 4 [(wd bJoint).enc, (wd x.name).enc, (wd bX).enc, (nu x.at_).enc, (nu x.lo).enc, (nu x.hi).enc], .bool false, .fz true 4 [], int 0], []) := e_rline false [wd bJoint, wd x.name, wd bX, nu x.at_, nu x.lo, nu x.hi]
      simp only [↓eA, eB, reduceIte, Nat.reduceBEq, Int.reduceNeg, Int.reduceLT, Int.reduceLE, Int.reduceAdd, Int.reduceSub, Int.reduceMul, Int.reduceEq, Int.reduceToNat, Nat.reduceLT, Nat.reduceAdd, Nat.reduceMul, Nat.reduceSub, l14018, h1, h2, h3, hH1, hH2, hH3, hH7, h9, hi, hx', hz, hfit, e_rw, e_rn, hk, ht, wrap_succ (show i < 4611686018427387904 by omega)]
      and_intros <;> first | trivial | rfl | (simp; omega)
    · have ht : lfD (jointT x) = .agg [.fz false 4 [(wd bJoint).enc, (wd x.name).enc, (wd bY).enc, (nu x.at_).enc, (nu x.lo).enc, (nu x.hi).enc], .bool false, .fz true 4 [], int 0] := by rw [jointT, if_neg (by rw [hz]; decide)]; rfl
      have hk : L.call 57 [.fz false 4 [(wd bJoint).enc, (wd x.name).enc, (wd bY).enc, (nu x.at_).enc, (nu x.lo).enc, (nu x.hi).enc]] [] = some (.agg [.fz false 4 [(wd bJoint).enc, (wd x.name).enc, (wd bY).enc, (nu x.at_).enc, (nu x.lo).enc, (nu x.hi).enc], .bool false, .fz true 4 [], int 0], []) := e_rline false [wd bJoint, wd x.name, wd bY, nu x.at_, nu x.lo, nu x.hi]
      simp only [↓eA, eB, reduceIte, Nat.reduceBEq, Int.reduceNeg, Int.reduceLT, Int.reduceLE, Int.reduceAdd, Int.reduceSub, Int.reduceMul, Int.reduceEq, Int.reduceToNat, Nat.reduceLT, Nat.reduceAdd, Nat.reduceMul, Nat.reduceSub, l14018, h1, h2, h3, hH1, hH2, hH3, hH7, h9, hi, hx', hz, hfit, e_rw, e_rn, hk, ht, wrap_succ (show i < 4611686018427387904 by omega)]
      and_intros <;> first | trivial | rfl | (simp; omega)
  · rintro a e H ⟨⟨⟨h1, h2, h3⟩, hH1, hH2, hH3, hH7⟩, h9, hl⟩
    simp only [↓eA, eB, reduceIte, Nat.reduceBEq, Int.reduceNeg, Int.reduceLT, Int.reduceLE, Int.reduceAdd, Int.reduceSub, Int.reduceMul, Int.reduceEq, Int.reduceToNat, Nat.reduceLT, Nat.reduceAdd, Nat.reduceMul, Nat.reduceSub, l14018, h1, h2, h3, hH1, hH2, hH3, hH7, h9, Nat.lt_irrefl]
    and_intros <;> first | trivial | rfl
def rkst (f : Flaw) (a : List D) (H : Heap) : Prop := (a = [] ∧ hget H 14 = some (fln f (.fz true 4 [])) ∧ hget H 1205 = none) ∨ (a ≠ [] ∧ hget H 14 = some (fln f (.ow 1205)) ∧ hget H 1205 = some (.row true 4 a 0 true))
abbrev q13 (f : Flaw) : Blk := .box [.str f.name, poly f.base, int f.lo, int f.hi] false
def rkend (s : Survey) (f : Flaw) (acc a : List D) (H : Heap) : Prop := (a = [] ∧ H = [(1, .box s.cells false), (2, nol), (3, q3), (13, q13 f), (14, fln f (.fz true 4 [])), (1051, .row true 4 acc 0 true)]) ∨ (a ≠ [] ∧ H = [(1, .box s.cells false), (2, nol), (3, q3), (13, q13 f), (14, fln f (.ow 1205)), (1051, .row true 4 acc 0 true), (1205, .row true 4 a 0 true)])
abbrev rfEnv (j : Nat) (e : Env) : Prop := (Gs.get e 1 = .ptr 1 0 ∧ Gs.get e 2 = .ptr 2 0 ∧ Gs.get e 3 = .ptr 3 0 ∧ Gs.get e 12 = int j)
theorem lp_rlCorner (s : Survey) (j : Nat) (f : Flaw) (hb : f.base.length < 1000000) (acc : List D) (e : Env) (H : Heap) (h0 : rfEnv j e) (h13 : Gs.get e 13 = .ptr 13 0) (h14 : Gs.get e 14 = .ptr 14 0) (h15 : Gs.get e 15 = int 0)
    (hH1 : hget H 1 = some (.box s.cells false)) (hH2 : hget H 2 = some nol) (hH3 : hget H 3 = some q3) (hHd : hget H 13 = some (q13 f)) (hH7 : hget H 1051 = some (.row true 4 acc 0 true)) (hK : rkst f [] H) :
    Ends T 14032 e H (fun X e' H' => X = .ex 8 ∧ rfEnv j e' ∧ Gs.get e' 14 = .ptr 14 0 ∧ rkend s f acc (f.base.map fun p => lfD (cornerT p)) H') := by
  have hm : (f.base.map fun p => lfD (cornerT p)) = f.base.foldl (fun a p => a ++ [lfD (cornerT p)]) [] := by rw [foldl_app, List.nil_append]
  rw [hm]
  refine loop_fold (T := T) (key := 14032) (li := l14032) rfl f.base (fun (a : List D) (p : Pt) => a ++ [lfD (cornerT p)]) (fun i a e H => rfEnv j e ∧ Gs.get e 13 = .ptr 13 0 ∧ Gs.get e 14 = .ptr 14 0 ∧ Gs.get e 15 = int i ∧ hget H 1 = some (.box s.cells false) ∧ hget H 2 = some nol ∧ hget H 3 = some q3 ∧ hget H 13 = some (q13 f) ∧ hget H 1051 = some (.row true 4 acc 0 true) ∧ rkst f a H ∧ a.length = i) (fun a X e' H' => X = .ex 8 ∧ rfEnv j e' ∧ Gs.get e' 14 = .ptr 14 0 ∧ rkend s f acc a H') ?_ ?_ [] e H ⟨h0, h13, h14, h15, hH1, hH2, hH3, hHd, hH7, hK, rfl⟩
  · rintro i x a e H hx hi ⟨⟨h1, h2, h3, h12⟩, h13, h14, h15, hH1, hH2, hH3, hHd, hH7, hK, hl⟩
    have hx' : (f.base.map Pt.enc)[i]? = some x.enc := by simp [hx]
    have hfit : fits (a.length + (0 + 1)) 64 = true := fits_of (by omega)
    have hfit1 : fits (0 + 1) 64 = true := fits_of (by omega)
    have hk : L.call 57 [.fz false 4 [(wd bCorner).enc, (nu x.x).enc, (nu x.y).enc]] [] = some (.agg [.fz false 4 [(wd bCorner).enc, (nu x.x).enc, (nu x.y).enc], .bool false, .fz true 4 [], int 0], []) := e_rline false (cornerT x)
    rcases hK with ⟨rfl, k1, k2⟩ | ⟨hne, k1, k2⟩
    · simp only [↓eA, eB, reduceIte, Nat.reduceBEq, Int.reduceNeg, Int.reduceLT, Int.reduceLE, Int.reduceAdd, Int.reduceSub, Int.reduceMul, Int.reduceEq, Int.reduceToNat, Nat.reduceLT, Nat.reduceAdd, Nat.reduceMul, Nat.reduceSub, l14032, h1, h2, h3, h12, h13, h14, h15, hH1, hH2, hH3, hHd, hH7, k1, k2, hi, hx', hfit1, e_rw, e_rn, hk, wrap_succ (show i < 4611686018427387904 by omega)]
      and_intros <;> first | trivial | rfl | (unfold rkst; exact .inr ⟨by simp, rfl, rfl⟩) | (simp; omega) | (simp at hl; simp; omega)
    · simp only [↓eA, eB, reduceIte, Nat.reduceBEq, Int.reduceNeg, Int.reduceLT, Int.reduceLE, Int.reduceAdd, Int.reduceSub, Int.reduceMul, Int.reduceEq, Int.reduceToNat, Nat.reduceLT, Nat.reduceAdd, Nat.reduceMul, Nat.reduceSub, l14032, h1, h2, h3, h12, h13, h14, h15, hH1, hH2, hH3, hHd, hH7, k1, k2, hi, hx', hfit, e_rw, e_rn, hk, wrap_succ (show i < 4611686018427387904 by omega)]
      and_intros <;> first | trivial | rfl | (unfold rkst; exact .inr ⟨by simp, rfl, rfl⟩) | (simp; omega)
  · rintro a e H ⟨⟨h1, h2, h3, h12⟩, h13, h14, h15, hH1, hH2, hH3, hHd, hH7, hK, hl⟩
    rcases hK with ⟨rfl, k1, k2⟩ | ⟨hne, k1, k2⟩
    · simp only [↓eA, eB, reduceIte, Nat.reduceBEq, Int.reduceNeg, Int.reduceLT, Int.reduceLE, Int.reduceAdd, Int.reduceSub, Int.reduceMul, Int.reduceEq, Int.reduceToNat, Nat.reduceLT, Nat.reduceAdd, Nat.reduceMul, Nat.reduceSub, l14032, h1, h2, h3, h12, h13, h14, h15, hH1, hH2, hH3, hHd, hH7, k1, k2, Nat.lt_irrefl]
      and_intros <;> first | trivial | rfl | (unfold rkend; exact .inl ⟨rfl, rfl⟩)
    · simp only [↓eA, eB, reduceIte, Nat.reduceBEq, Int.reduceNeg, Int.reduceLT, Int.reduceLE, Int.reduceAdd, Int.reduceSub, Int.reduceMul, Int.reduceEq, Int.reduceToNat, Nat.reduceLT, Nat.reduceAdd, Nat.reduceMul, Nat.reduceSub, l14032, h1, h2, h3, h12, h13, h14, h15, hH1, hH2, hH3, hHd, hH7, k1, k2, Nat.lt_irrefl]
      and_intros <;> first | trivial | rfl | (unfold rkend; exact .inr ⟨hne, rfl⟩)
theorem lp_rlFlaw (s : Survey) (hF : s.Fit) (hbb : ∀ f ∈ s.flaws, f.base.length < 1000000) (acc : List D) (hacc : acc.length ≤ 1000000) (e : Env) (H : Heap) (h0 : rlSt s acc e H) (h12 : Gs.get e 12 = int 0) :
    Ends T 14026 e H (fun X e' H' => X = .ex 6 ∧ (Gs.get e' 1 = .ptr 1 0 ∧ Gs.get e' 2 = .ptr 2 0 ∧ Gs.get e' 3 = .ptr 3 0) ∧ H' = Hrl s (acc ++ s.flaws.map flawD)) := by
  have hb := hF.fl
  rw [← foldl_app]
  refine loop_fold (T := T) (key := 14026) (li := l14026) rfl s.flaws (fun (a : List D) (b : Flaw) => a ++ [flawD b]) (fun i a e H => rlSt s a e H ∧ Gs.get e 12 = int i ∧ a.length = acc.length + i) (fun a X e' H' => X = .ex 6 ∧ (Gs.get e' 1 = .ptr 1 0 ∧ Gs.get e' 2 = .ptr 2 0 ∧ Gs.get e' 3 = .ptr 3 0) ∧ H' = Hrl s a) ?_ ?_ acc e H ⟨h0, h12, rfl⟩
  · rintro i x a e H hx hi ⟨⟨⟨h1, h2, h3⟩, hH1, hH2, hH3, hH7⟩, h12, hl⟩
    have hx' : (s.flaws.map Flaw.enc)[i]? = some x.enc := by simp [hx]
    have hfit : fits (a.length + (0 + 1)) 64 = true := fits_of (by omega)
    have hk : L.call 57 [.fz false 4 [(wd bFlaw).enc, (wd x.name).enc, (nu x.lo).enc, (nu x.hi).enc]] [] = some (.agg [.fz false 4 [(wd bFlaw).enc, (wd x.name).enc, (nu x.lo).enc, (nu x.hi).enc], .bool false, .fz true 4 [], int 0], []) := e_rline false (flawT x)
    simp only [↓eA, eB, reduceIte, Nat.reduceBEq, Int.reduceNeg, Int.reduceLT, Int.reduceLE, Int.reduceAdd, Int.reduceSub, Int.reduceMul, Int.reduceEq, Int.reduceToNat, Nat.reduceLT, Nat.reduceAdd, Nat.reduceMul, Nat.reduceSub, l14026, h1, h2, h3, hH1, hH2, hH3, hH7, h12, hi, hx', hfit, e_rw, e_rn, hk, wrap_succ (show i < 4611686018427387904 by omega)]
    generalize hE : (lim T).loop 14032 _ _ = R
    obtain ⟨X, e', H', rfl, rfl, ⟨g1, g2, g3, g12⟩, g14, hK⟩ := Ends.at hE (lp_rlCorner s i x (hbb x (List.mem_of_getElem? hx)) a _ _ ⟨rfl, rfl, rfl, rfl⟩ rfl rfl rfl rfl rfl rfl rfl rfl (.inl ⟨rfl, rfl, rfl⟩))
    rcases hK with ⟨hm, rfl⟩ | ⟨hm, rfl⟩
    · have hfd : flawD x = .agg [.fz false 4 [(wd bFlaw).enc, (wd x.name).enc, (nu x.lo).enc, (nu x.hi).enc], .bool true, .fz true 4 [], int 0] := by unfold flawD; rw [hm]; rfl
      simp only [↓eA, eB, reduceIte, Nat.reduceBEq, Int.reduceNeg, Int.reduceLT, Int.reduceLE, Int.reduceAdd, Int.reduceSub, Int.reduceMul, Int.reduceEq, Int.reduceToNat, Nat.reduceLT, Nat.reduceAdd, Nat.reduceMul, Nat.reduceSub, rlSt, g1, g2, g3, g12, g14, hfit, hfd, get_killE, killD, wrap_succ (show i < 4611686018427387904 by omega)]
      and_intros <;> first | trivial | rfl | (simp; omega)
    · have hfd : flawD x = .agg [.fz false 4 [(wd bFlaw).enc, (wd x.name).enc, (nu x.lo).enc, (nu x.hi).enc], .bool true, .fz true 4 (x.base.map fun p => lfD (cornerT p)), int 0] := rfl
      simp only [↓eA, eB, reduceIte, Nat.reduceBEq, Int.reduceNeg, Int.reduceLT, Int.reduceLE, Int.reduceAdd, Int.reduceSub, Int.reduceMul, Int.reduceEq, Int.reduceToNat, Nat.reduceLT, Nat.reduceAdd, Nat.reduceMul, Nat.reduceSub, rlSt, g1, g2, g3, g12, g14, hfit, hfd, get_killE, killD, wrap_succ (show i < 4611686018427387904 by omega)]
      and_intros <;> first | trivial | rfl | (simp; omega)
  · rintro a e H ⟨⟨⟨h1, h2, h3⟩, hH1, hH2, hH3, hH7⟩, h12, hl⟩
    simp only [↓eA, eB, reduceIte, Nat.reduceBEq, Int.reduceNeg, Int.reduceLT, Int.reduceLE, Int.reduceAdd, Int.reduceSub, Int.reduceMul, Int.reduceEq, Int.reduceToNat, Nat.reduceLT, Nat.reduceAdd, Nat.reduceMul, Nat.reduceSub, l14026, h1, h2, h3, hH1, hH2, hH3, hH7, h12, Nat.lt_irrefl]
    and_intros <;> first | trivial | rfl
end Tz
