/- The line of a survey, flaws; no conditions. -/
import Derived.Test.YtbdcbppmgbekoaaGreatDoorS33
set_option linter.unusedVariables false
set_option linter.unusedSimpArgs false
set_option linter.unusedSectionVars false
set_option linter.defProp false
set_option linter.deprecated false
open Gs Go
namespace Tz
abbrev fln (f : Flaw) (k : D) : Blk := .box [.fz false 4 [(wd bFlaw).enc, (wd f.name).enc, (nu f.lo).enc, (nu f.hi).enc], .bool true, k, int 0] false
def kst (f : Flaw) (a : List D) (H : Heap) : Prop := (a = [] ∧ hget H 17 = some (fln f (.fz true 4 [])) ∧ hget H 1182 = none) ∨ (a ≠ [] ∧ hget H 17 = some (fln f (.ow 1182)) ∧ hget H 1182 = some (.row true 4 a 0 true))
def kend (f : Flaw) (acc a : List D) (H : Heap) : Prop := (a = [] ∧ H = [(2, nol), (5, o5), (17, fln f (.fz true 4 [])), (1057, .row true 4 acc 0 true)]) ∨ (a ≠ [] ∧ H = [(2, nol), (5, o5), (17, fln f (.ow 1182)), (1057, .row true 4 acc 0 true), (1182, .row true 4 a 0 true)])
abbrev flEnv (s : Survey) (j : Nat) (e : Env) : Prop := (Gs.get e 2 = .ptr 2 0 ∧ Gs.get e 5 = .ptr 5 0 ∧ Gs.get e 143 = .fz false 4 (s.flaws.map Flaw.enc) ∧ Gs.get e 144 = int s.flaws.length ∧ Gs.get e 145 = int j)
theorem lp_lnCorner (s : Survey) (j : Nat) (f : Flaw) (hb : f.base.length < 1000000) (acc : List D) (e : Env) (H : Heap) (h0 : flEnv s j e) (h17 : Gs.get e 17 = .ptr 17 0) (h165 : Gs.get e 165 = .fz false 2 (f.base.map Pt.enc)) (h166 : Gs.get e 166 = int f.base.length) (h167 : Gs.get e 167 = int 0)
    (hH2 : hget H 2 = some nol) (hH5 : hget H 5 = some o5) (hH7 : hget H 1057 = some (.row true 4 acc 0 true)) (hK : kst f [] H) :
    Ends T 9033 e H (fun X e' H' => X = .ex 8 ∧ flEnv s j e' ∧ Gs.get e' 17 = .ptr 17 0 ∧ kend f acc (f.base.map fun p => lfD (cornerT p)) H') := by
  have hm : (f.base.map fun p => lfD (cornerT p)) = f.base.foldl (fun a p => a ++ [lfD (cornerT p)]) [] := by rw [foldl_app, List.nil_append]
  rw [hm]
  refine loop_fold (T := T) (key := 9033) (li := l9033) rfl f.base (fun (a : List D) (p : Pt) => a ++ [lfD (cornerT p)]) (fun i a e H => flEnv s j e ∧ Gs.get e 17 = .ptr 17 0 ∧ Gs.get e 165 = .fz false 2 (f.base.map Pt.enc) ∧ Gs.get e 166 = int f.base.length ∧ Gs.get e 167 = int i ∧ hget H 2 = some nol ∧ hget H 5 = some o5 ∧ hget H 1057 = some (.row true 4 acc 0 true) ∧ kst f a H ∧ a.length = i) (fun a X e' H' => X = .ex 8 ∧ flEnv s j e' ∧ Gs.get e' 17 = .ptr 17 0 ∧ kend f acc a H') ?_ ?_ [] e H ⟨h0, h17, h165, h166, h167, hH2, hH5, hH7, hK, rfl⟩
  · rintro i x a e H hx hi ⟨⟨h2, h5, h143, h144, h145⟩, h17, h165, h166, h167, hH2, hH5, hH7, hK, hl⟩
    have hx' : (f.base.map Pt.enc)[i]? = some x.enc := by simp [hx]
    have hfit : fits (a.length + (0 + 1)) 64 = true := fits_of (by omega)
    have hfit1 : fits (0 + 1) 64 = true := fits_of (by omega)
    have hk : L.call 32 [.str bCorner, .fz false 4 [(nu x.x).enc, (nu x.y).enc]] [] = some (.agg [.ow 600000, .bool false, .fz true 4 [], int 0], [(600000, .row false 4 [(wd bCorner).enc, (nu x.x).enc, (nu x.y).enc] 0 true)]) := e_kid bCorner false [nu x.x, nu x.y] (by simp)
    rcases hK with ⟨rfl, k1, k2⟩ | ⟨hne, k1, k2⟩
    · simp only [↓eA, eB, reduceIte, Nat.reduceBEq, Int.reduceNeg, Int.reduceLT, Int.reduceLE, Int.reduceAdd, Int.reduceSub, Int.reduceMul, Int.reduceEq, Int.reduceToNat, Nat.reduceLT, Nat.reduceAdd, Nat.reduceMul, Nat.reduceSub, l9033, h2, h5, h143, h144, h145, h17, h165, h166, h167, hH2, hH5, hH7, k1, k2, hi, hx', hfit1, e_word, e_number, hk, wrap_succ (show i < 4611686018427387904 by omega)]
      and_intros <;> first | trivial | rfl | (unfold kst; exact .inr ⟨by simp, rfl, rfl⟩) | (simp; omega) | (simp at hl; simp; omega)
    · simp only [↓eA, eB, reduceIte, Nat.reduceBEq, Int.reduceNeg, Int.reduceLT, Int.reduceLE, Int.reduceAdd, Int.reduceSub, Int.reduceMul, Int.reduceEq, Int.reduceToNat, Nat.reduceLT, Nat.reduceAdd, Nat.reduceMul, Nat.reduceSub, l9033, h2, h5, h143, h144, h145, h17, h165, h166, h167, hH2, hH5, hH7, k1, k2, hi, hx', hfit, e_word, e_number, hk, wrap_succ (show i < 4611686018427387904 by omega)]
      and_intros <;> first | trivial | rfl | (unfold kst; exact .inr ⟨by simp, rfl, rfl⟩) | (simp; omega) | (simp at hl; simp; omega)
  · rintro a e H ⟨⟨h2, h5, h143, h144, h145⟩, h17, h165, h166, h167, hH2, hH5, hH7, hK, hl⟩
    rcases hK with ⟨rfl, k1, k2⟩ | ⟨hne, k1, k2⟩
    · simp only [↓eA, eB, reduceIte, Nat.reduceBEq, Int.reduceNeg, Int.reduceLT, Int.reduceLE, Int.reduceAdd, Int.reduceSub, Int.reduceMul, Int.reduceEq, Int.reduceToNat, Nat.reduceLT, Nat.reduceAdd, Nat.reduceMul, Nat.reduceSub, l9033, h2, h5, h143, h144, h145, h17, h165, h166, h167, hH2, hH5, hH7, k1, k2, Nat.lt_irrefl]
      and_intros <;> first | trivial | rfl | (unfold kend; exact .inl ⟨rfl, rfl⟩)
    · simp only [↓eA, eB, reduceIte, Nat.reduceBEq, Int.reduceNeg, Int.reduceLT, Int.reduceLE, Int.reduceAdd, Int.reduceSub, Int.reduceMul, Int.reduceEq, Int.reduceToNat, Nat.reduceLT, Nat.reduceAdd, Nat.reduceMul, Nat.reduceSub, l9033, h2, h5, h143, h144, h145, h17, h165, h166, h167, hH2, hH5, hH7, k1, k2, Nat.lt_irrefl]
      and_intros <;> first | trivial | rfl | (unfold kend; exact .inr ⟨hne, rfl⟩)
theorem lp_lnFlaw (s : Survey) (hF : s.Fit) (hbb : ∀ f ∈ s.flaws, f.base.length < 1000000) (acc : List D) (hacc : acc.length ≤ 1000000) (e : Env) (H : Heap) (h2 : Gs.get e 2 = .ptr 2 0) (h5 : Gs.get e 5 = .ptr 5 0) (ha : Gs.get e 143 = .fz false 4 (s.flaws.map Flaw.enc)) (hn : Gs.get e 144 = int s.flaws.length) (hi : Gs.get e 145 = int 0)
    (hH2 : hget H 2 = some nol) (hH5 : hget H 5 = some o5) (hH7 : hget H 1057 = some (.row true 4 acc 0 true)) :
    Ends T 9028 e H (fun X e' H' => X = .ex 6 ∧ Gs.get e' 2 = .ptr 2 0 ∧ Gs.get e' 5 = .ptr 5 0 ∧ H' = [(2, nol), (5, o5), (1057, .row true 4 (acc ++ s.flaws.map flawD) 0 true)]) := by
  have hb := hF.fl
  rw [← foldl_app]
  refine loop_fold (T := T) (key := 9028) (li := l9028) rfl s.flaws (fun (a : List D) (b : Flaw) => a ++ [flawD b]) (fun i a e H => flEnv s i e ∧ hget H 2 = some nol ∧ hget H 5 = some o5 ∧ hget H 1057 = some (.row true 4 a 0 true) ∧ a.length = acc.length + i) (fun a X e' H' => X = .ex 6 ∧ Gs.get e' 2 = .ptr 2 0 ∧ Gs.get e' 5 = .ptr 5 0 ∧ H' = [(2, nol), (5, o5), (1057, .row true 4 a 0 true)]) ?_ ?_ acc e H ⟨⟨h2, h5, ha, hn, hi⟩, hH2, hH5, hH7, rfl⟩
  · rintro i x a e H hx hi ⟨⟨h2, h5, ha, hn, h13⟩, hH2, hH5, hH7, hl⟩
    have hx' : (s.flaws.map Flaw.enc)[i]? = some x.enc := by simp [hx]
    have hfit : fits (a.length + (0 + 1)) 64 = true := fits_of (by omega)
    have hk : L.call 32 [.str bFlaw, .fz false 4 [(wd x.name).enc, (nu x.lo).enc, (nu x.hi).enc]] [] = some (.agg [.ow 600000, .bool false, .fz true 4 [], int 0], [(600000, .row false 4 [(wd bFlaw).enc, (wd x.name).enc, (nu x.lo).enc, (nu x.hi).enc] 0 true)]) := e_kid bFlaw false [wd x.name, nu x.lo, nu x.hi] (by simp)
    simp only [↓eA, eB, reduceIte, Nat.reduceBEq, Int.reduceNeg, Int.reduceLT, Int.reduceLE, Int.reduceAdd, Int.reduceSub, Int.reduceMul, Int.reduceEq, Int.reduceToNat, Nat.reduceLT, Nat.reduceAdd, Nat.reduceMul, Nat.reduceSub, l9028, h2, h5, ha, hn, h13, hH2, hH5, hH7, hi, hx', hfit, e_word, e_number, hk, wrap_succ (show i < 4611686018427387904 by omega)]
    generalize hE : (lim T).loop 9033 _ _ = R
    obtain ⟨X, e', H', rfl, rfl, ⟨g2, g5, g143, g144, g145⟩, g17, hK⟩ := Ends.at hE (lp_lnCorner s i x (hbb x (List.mem_of_getElem? hx)) a _ _ ⟨rfl, rfl, rfl, rfl, rfl⟩ rfl rfl rfl rfl rfl rfl rfl (.inl ⟨rfl, rfl, rfl⟩))
    rcases hK with ⟨hm, rfl⟩ | ⟨hm, rfl⟩
    · have hfd : flawD x = .agg [.fz false 4 [(wd bFlaw).enc, (wd x.name).enc, (nu x.lo).enc, (nu x.hi).enc], .bool true, .fz true 4 [], int 0] := by unfold flawD; rw [hm]; rfl
      simp only [↓eA, eB, reduceIte, Nat.reduceBEq, Int.reduceNeg, Int.reduceLT, Int.reduceLE, Int.reduceAdd, Int.reduceSub, Int.reduceMul, Int.reduceEq, Int.reduceToNat, Nat.reduceLT, Nat.reduceAdd, Nat.reduceMul, Nat.reduceSub, flEnv, g2, g5, g143, g144, g145, g17, hfit, hfd, get_killE, killD, wrap_succ (show i < 4611686018427387904 by omega)]
      and_intros <;> first | trivial | rfl | (simp; omega)
    · have hfd : flawD x = .agg [.fz false 4 [(wd bFlaw).enc, (wd x.name).enc, (nu x.lo).enc, (nu x.hi).enc], .bool true, .fz true 4 (x.base.map fun p => lfD (cornerT p)), int 0] := rfl
      simp only [↓eA, eB, reduceIte, Nat.reduceBEq, Int.reduceNeg, Int.reduceLT, Int.reduceLE, Int.reduceAdd, Int.reduceSub, Int.reduceMul, Int.reduceEq, Int.reduceToNat, Nat.reduceLT, Nat.reduceAdd, Nat.reduceMul, Nat.reduceSub, flEnv, g2, g5, g143, g144, g145, g17, hfit, hfd, get_killE, killD, wrap_succ (show i < 4611686018427387904 by omega)]
      and_intros <;> first | trivial | rfl | (simp; omega)
  · rintro a e H ⟨⟨h2, h5, ha, hn, h13⟩, hH2, hH5, hH7, hl⟩
    simp only [↓eA, eB, reduceIte, Nat.reduceBEq, Int.reduceNeg, Int.reduceLT, Int.reduceLE, Int.reduceAdd, Int.reduceSub, Int.reduceMul, Int.reduceEq, Int.reduceToNat, Nat.reduceLT, Nat.reduceAdd, Nat.reduceMul, Nat.reduceSub, l9028, h2, h5, ha, hn, h13, hH2, hH5, hH7, Nat.lt_irrefl]
    and_intros <;> first | trivial | rfl
end Tz
