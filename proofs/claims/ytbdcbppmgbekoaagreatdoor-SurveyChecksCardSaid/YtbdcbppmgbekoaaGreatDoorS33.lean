/- The line of a survey, beds and joints; no conditions. -/
import Derived.Test.YtbdcbppmgbekoaaGreatDoorS32
set_option linter.unusedVariables false
set_option linter.unusedSimpArgs false
set_option linter.unusedSectionVars false
set_option linter.defProp false
set_option linter.deprecated false
open Gs Go
namespace Tz
/-! The line of a survey. -/
abbrev bSurvey : ByteArray := ⟨#[115, 117, 114, 118, 101, 121]⟩
abbrev bPit : ByteArray := ⟨#[112, 105, 116]⟩
abbrev bOpen : ByteArray := ⟨#[111, 112, 101, 110]⟩
abbrev bBed : ByteArray := ⟨#[98, 101, 100]⟩
abbrev bJoint : ByteArray := ⟨#[106, 111, 105, 110, 116]⟩
abbrev bFlaw : ByteArray := ⟨#[102, 108, 97, 119]⟩
abbrev bCorner : ByteArray := ⟨#[99, 111, 114, 110, 101, 114]⟩
abbrev bEast : ByteArray := ⟨#[101, 97, 115, 116]⟩
abbrev bWest : ByteArray := ⟨#[119, 101, 115, 116]⟩
abbrev bNorth : ByteArray := ⟨#[110, 111, 114, 116, 104]⟩
abbrev bSouth : ByteArray := ⟨#[115, 111, 117, 116, 104]⟩
abbrev bX : ByteArray := ⟨#[120]⟩
abbrev bY : ByteArray := ⟨#[121]⟩
def pitT (b : Box) : List Tk := [wd bPit, nu b.x0, nu b.y0, nu b.z0, nu b.x1, nu b.y1, nu b.z1]
def sideL (s : Survey) : List (Bool × ByteArray) := [(s.o0, bEast), (s.o1, bWest), (s.o2, bNorth), (s.o3, bSouth)]
def openG (a : List Tk) (x : Bool × ByteArray) : List Tk := bif x.1 then a ++ [wd x.2] else a
def openT (s : Survey) : List Tk := (sideL s).foldl openG [wd bOpen]
def bedT (b : Bed) : List Tk := [wd bBed, wd b.name, nu b.z]
def jointT (j : Joint) : List Tk := [wd bJoint, wd j.name, wd (if j.axis = 0 then bX else bY), nu j.at_, nu j.lo, nu j.hi]
def cornerT (p : Pt) : List Tk := [wd bCorner, nu p.x, nu p.y]
def flawT (f : Flaw) : List Tk := [wd bFlaw, wd f.name, nu f.lo, nu f.hi]
def lfD (t : List Tk) : D := leaf t
def flawD (f : Flaw) : D := .agg [.fz false 4 ((flawT f).map Tk.enc), .bool true, .fz true 4 (f.base.map fun p => lfD (cornerT p)), int 0]
def openD (s : Survey) : List D := bif decide (1 < (openT s).length) then [lfD (openT s)] else []
def kidsD (s : Survey) : List D := ((([lfD (pitT s.pit)] ++ openD s) ++ s.beds.map fun b => lfD (bedT b)) ++ s.joints.map fun j => lfD (jointT j)) ++ s.flaws.map flawD
def lineD (s : Survey) : D := .agg [.fz false 4 [(wd bSurvey).enc], .bool true, .fz true 4 (kidsD s), int 0]

abbrev nol : Blk := .box [.fz true 4 [], .bool false, .fz true 4 [], int 0] false
abbrev o5 : Blk := .box [.fz false 4 [(wd bSurvey).enc], .bool true, .ow 1057, int 0] false
abbrev lnSt (s : Survey) (acc : List D) (e : Env) (H : Heap) : Prop := (Gs.get e 1 = .ptr 1 0 ∧ Gs.get e 2 = .ptr 2 0 ∧ Gs.get e 5 = .ptr 5 0) ∧ (hget H 1 = some (.box s.cells false) ∧ hget H 2 = some nol ∧ hget H 5 = some o5 ∧ hget H 1057 = some (.row true 4 acc 0 true))
abbrev Hln (s : Survey) (acc : List D) : Heap := [(1, .box s.cells false), (2, nol), (5, o5), (1057, .row true 4 acc 0 true)]
theorem foldl_app {α β : Type} (f : α → β) : ∀ (l : List α) (a : List β), l.foldl (fun a b => a ++ [f b]) a = a ++ l.map f
  | [], a => by simp
  | b :: r, a => by rw [List.foldl_cons, foldl_app f r, List.map_cons, List.append_assoc]; rfl
theorem lp_lnBed (s : Survey) (hF : s.Fit) (acc : List D) (hacc : acc.length ≤ 1000000) (e : Env) (H : Heap) (h0 : lnSt s acc e H) (ha : Gs.get e 89 = .fz false 2 (s.beds.map Bed.enc)) (hn : Gs.get e 90 = int s.beds.length) (hi : Gs.get e 91 = int 0) :
    Ends T 9018 e H (fun X e' H' => X = .ex 2 ∧ (Gs.get e' 1 = .ptr 1 0 ∧ Gs.get e' 2 = .ptr 2 0 ∧ Gs.get e' 5 = .ptr 5 0) ∧ H' = Hln s (acc ++ s.beds.map fun b => lfD (bedT b))) := by
  have hb := hF.bl
  rw [← foldl_app]
  refine loop_fold (T := T) (key := 9018) (li := l9018) rfl s.beds (fun (a : List D) (b : Bed) => a ++ [lfD (bedT b)]) (fun i a e H => lnSt s a e H ∧ Gs.get e 89 = .fz false 2 (s.beds.map Bed.enc) ∧ Gs.get e 90 = int s.beds.length ∧ Gs.get e 91 = int i ∧ a.length = acc.length + i) (fun a X e' H' => X = .ex 2 ∧ (Gs.get e' 1 = .ptr 1 0 ∧ Gs.get e' 2 = .ptr 2 0 ∧ Gs.get e' 5 = .ptr 5 0) ∧ H' = Hln s a) ?_ ?_ acc e H ⟨h0, ha, hn, hi, rfl⟩
  · rintro i x a e H hx hi ⟨⟨⟨h1, h2, h5⟩, hH1, hH2, hH5, hH7⟩, ha, hn, h13, hl⟩
    have hx' : (s.beds.map Bed.enc)[i]? = some x.enc := by simp [hx]
    have hfit : fits (a.length + (0 + 1)) 64 = true := fits_of (by omega)
    have hk : L.call 32 [.str bBed, .fz false 4 [(wd x.name).enc, (nu x.z).enc]] [] = some (.agg [.ow 600000, .bool false, .fz true 4 [], int 0], [(600000, .row false 4 [(wd bBed).enc, (wd x.name).enc, (nu x.z).enc] 0 true)]) := e_kid bBed false [wd x.name, nu x.z] (by simp)
    simp only [↓eA, eB, reduceIte, Nat.reduceBEq, Int.reduceNeg, Int.reduceLT, Int.reduceLE, Int.reduceAdd, Int.reduceSub, Int.reduceMul, Int.reduceEq, Int.reduceToNat, Nat.reduceLT, Nat.reduceAdd, Nat.reduceMul, Nat.reduceSub, l9018, h1, h2, h5, hH1, hH2, hH5, hH7, ha, hn, h13, hi, hx', hfit, e_word, e_number, hk, wrap_succ (show i < 4611686018427387904 by omega)]
    and_intros <;> first | trivial | rfl | (simp; omega)
  · rintro a e H ⟨⟨⟨h1, h2, h5⟩, hH1, hH2, hH5, hH7⟩, ha, hn, h13, hl⟩
    simp only [↓eA, eB, reduceIte, Nat.reduceBEq, Int.reduceNeg, Int.reduceLT, Int.reduceLE, Int.reduceAdd, Int.reduceSub, Int.reduceMul, Int.reduceEq, Int.reduceToNat, Nat.reduceLT, Nat.reduceAdd, Nat.reduceMul, Nat.reduceSub, l9018, h1, h2, h5, hH1, hH2, hH5, hH7, ha, hn, h13, Nat.lt_irrefl]
    and_intros <;> first | trivial | rfl
theorem lp_lnJoint (s : Survey) (hF : s.Fit) (hax : ∀ j ∈ s.joints, j.axis = 0 ∨ j.axis = 1) (acc : List D) (hacc : acc.length ≤ 1000000) (e : Env) (H : Heap) (h0 : lnSt s acc e H) (ha : Gs.get e 110 = .fz false 5 (s.joints.map Joint.enc)) (hn : Gs.get e 111 = int s.joints.length) (hi : Gs.get e 112 = int 0) :
    Ends T 9023 e H (fun X e' H' => X = .ex 4 ∧ (Gs.get e' 1 = .ptr 1 0 ∧ Gs.get e' 2 = .ptr 2 0 ∧ Gs.get e' 5 = .ptr 5 0) ∧ H' = Hln s (acc ++ s.joints.map fun b => lfD (jointT b))) := by
  have hb := hF.jl
  rw [← foldl_app]
  refine loop_fold (T := T) (key := 9023) (li := l9023) rfl s.joints (fun (a : List D) (b : Joint) => a ++ [lfD (jointT b)]) (fun i a e H => lnSt s a e H ∧ Gs.get e 110 = .fz false 5 (s.joints.map Joint.enc) ∧ Gs.get e 111 = int s.joints.length ∧ Gs.get e 112 = int i ∧ a.length = acc.length + i) (fun a X e' H' => X = .ex 4 ∧ (Gs.get e' 1 = .ptr 1 0 ∧ Gs.get e' 2 = .ptr 2 0 ∧ Gs.get e' 5 = .ptr 5 0) ∧ H' = Hln s a) ?_ ?_ acc e H ⟨h0, ha, hn, hi, rfl⟩
  · rintro i x a e H hx hi ⟨⟨⟨h1, h2, h5⟩, hH1, hH2, hH5, hH7⟩, ha, hn, h13, hl⟩
    have hx' : (s.joints.map Joint.enc)[i]? = some x.enc := by simp [hx]
    have hfit : fits (a.length + (0 + 1)) 64 = true := fits_of (by omega)
    have i0 : inb 0 2 = true := rfl
    have i1 : inb 1 2 = true := rfl
    have g0 : [D.str bX, D.str bY][0]? = some (.str bX) := rfl
    have g1 : [D.str bX, D.str bY][1]? = some (.str bY) := rfl
    rcases hax x (List.mem_of_getElem? hx) with hz | hz
    · have hk : L.call 32 [.str bJoint, .fz false 4 [(wd x.name).enc, (wd bX).enc, (nu x.at_).enc, (nu x.lo).enc, (nu x.hi).enc]] [] = some (.agg [.ow 600000, .bool false, .fz true 4 [], int 0], [(600000, .row false 4 [(wd bJoint).enc, (wd x.name).enc, (wd bX).enc, (nu x.at_).enc, (nu x.lo).enc, (nu x.hi).enc] 0 true)]) := e_kid bJoint false [wd x.name, wd bX, nu x.at_, nu x.lo, nu x.hi] (by simp)
      have ht : lfD (jointT x) = leaf [wd bJoint, wd x.name, wd bX, nu x.at_, nu x.lo, nu x.hi] := by rw [jointT, if_pos hz]; rfl
      simp only [↓eA, eB, reduceIte, Nat.reduceBEq, Int.reduceNeg, Int.reduceLT, Int.reduceLE, Int.reduceAdd, Int.reduceSub, Int.reduceMul, Int.reduceEq, Int.reduceToNat, Nat.reduceLT, Nat.reduceAdd, Nat.reduceMul, Nat.reduceSub, l9023, h1, h2, h5, hH1, hH2, hH5, hH7, ha, hn, h13, hi, hx', hz, i0, i1, g0, g1, hfit, e_word, e_number, hk, ht, wrap_succ (show i < 4611686018427387904 by omega)]
      and_intros <;> first | trivial | rfl | (simp; omega)
    · have hk : L.call 32 [.str bJoint, .fz false 4 [(wd x.name).enc, (wd bY).enc, (nu x.at_).enc, (nu x.lo).enc, (nu x.hi).enc]] [] = some (.agg [.ow 600000, .bool false, .fz true 4 [], int 0], [(600000, .row false 4 [(wd bJoint).enc, (wd x.name).enc, (wd bY).enc, (nu x.at_).enc, (nu x.lo).enc, (nu x.hi).enc] 0 true)]) := e_kid bJoint false [wd x.name, wd bY, nu x.at_, nu x.lo, nu x.hi] (by simp)
      have ht : lfD (jointT x) = leaf [wd bJoint, wd x.name, wd bY, nu x.at_, nu x.lo, nu x.hi] := by rw [jointT, if_neg (by rw [hz]; decide)]; rfl
      simp only [↓eA, eB, reduceIte, Nat.reduceBEq, Int.reduceNeg, Int.reduceLT, Int.reduceLE, Int.reduceAdd, Int.reduceSub, Int.reduceMul, Int.reduceEq, Int.reduceToNat, Nat.reduceLT, Nat.reduceAdd, Nat.reduceMul, Nat.reduceSub, l9023, h1, h2, h5, hH1, hH2, hH5, hH7, ha, hn, h13, hi, hx', hz, i0, i1, g0, g1, hfit, e_word, e_number, hk, ht, wrap_succ (show i < 4611686018427387904 by omega)]
      and_intros <;> first | trivial | rfl | (simp; omega)
  · rintro a e H ⟨⟨⟨h1, h2, h5⟩, hH1, hH2, hH5, hH7⟩, ha, hn, h13, hl⟩
    simp only [↓eA, eB, reduceIte, Nat.reduceBEq, Int.reduceNeg, Int.reduceLT, Int.reduceLE, Int.reduceAdd, Int.reduceSub, Int.reduceMul, Int.reduceEq, Int.reduceToNat, Nat.reduceLT, Nat.reduceAdd, Nat.reduceMul, Nat.reduceSub, l9023, h1, h2, h5, hH1, hH2, hH5, hH7, ha, hn, h13, Nat.lt_irrefl]
    and_intros <;> first | trivial | rfl
end Tz
