/- SupportAgrees of every site, taken names and place; no conditions. -/
import Derived.Test.YthndcpffehneaaaGreatS80
set_option linter.unusedVariables false
set_option linter.unusedSimpArgs false
set_option linter.unusedSectionVars false
set_option linter.defProp false
set_option linter.deprecated false
set_option maxRecDepth 100000
open Gs Go
namespace Tz.C18
def rot (tk : List ByteArray) (k : Nat) : List ByteArray := tk.drop k ++ tk.take k
theorem rot_perm (tk : List ByteArray) (k : Nat) : (rot tk k).Perm tk := by
  unfold rot
  exact List.perm_append_comm.trans (by rw [List.take_append_drop])
theorem cut_drop (l : List ByteArray) (k : Nat) : cut (l.map D.str) k (l.length - k) = (l.drop k).map D.str := by
  simp only [cut, List.map_drop]
  rw [List.take_of_length_le (by simp)]
theorem cut_take (l : List ByteArray) (k : Nat) : cut (l.map D.str) 0 k = (l.take k).map D.str := by simp [cut, List.map_take]
theorem e_agrees (s : Site) (tk : List ByteArray) (at_ : Int) : L.call 9 [s.enc, strs tk, int at_] [] = some (.bool true, []) := by
  obtain ⟨v, e1, hv⟩ := small18 s false tk
  cases hg : (!v || decide (at_ < 0)) || decide ((tk.length : Int) < at_) with
  | true => exact call_eq rfl rfl (by simp only [↓eA, eB, reduceIte, Nat.reduceBEq, Int.reduceNeg, Int.reduceLT, Int.reduceLE, Int.reduceAdd, Int.reduceSub, Int.reduceMul, Int.reduceEq, Int.reduceToNat, Nat.reduceLT, Nat.reduceAdd, Nat.reduceMul, Nat.reduceSub, c9, aw, e1, hg, List.length_map])
  | false =>
  have hg' := hg
  simp only [Bool.or_eq_false_iff, decide_eq_false_iff_not, Bool.not_eq_false'] at hg'
  obtain ⟨⟨g1, g2⟩, g3⟩ := hg'
  obtain ⟨hF, ht⟩ := hv g1
  obtain ⟨k, rfl⟩ : ∃ k : Nat, at_ = (k : Int) := ⟨at_.toNat, by omega⟩
  have hk : k ≤ tk.length := by omega
  have hp := rot_perm tk k
  have hrl : (rot tk k).length < 1000000 := by rw [hp.length_eq]; omega
  have hst : startErr s (rot tk k) = startErr s tk := start_perm hp
  have htk : taken (rot tk k) = taken tk := taken_perm hp
  have hmap : (tk.drop k).map D.str ++ (tk.take k).map D.str = (rot tk k).map D.str := by simp [rot]
  have hinc1 : inc (tk.length : Int) tk.length = true := by simp [inc]
  have hinc2 : inc (k : Int) tk.length = true := by simp [inc]; omega
  have hinc3 : inc (0 : Int) k = true := by simp [inc]
  have hfit1 : fits (0 + (tk.drop k).length) 16 = true := fits_of (by simp; omega)
  have hfit2 : fits ((tk.drop k).length + (tk.take k).length) 16 = true := fits_of (by simp; omega)
  have hneg : decide ((k : Int) < 0) = false := decide_eq_false (by omega)
  have hlt : decide (tk.length < k) = false := decide_eq_false (by omega)
  subst g1
  cases hs : decide (startErr s tk = 0) with
  | false =>
    have f1 := e_Frontier_bad s hF tk (by omega) hs
    have f2 := e_Frontier_bad s hF (rot tk k) hrl (by rw [hst]; exact hs)
    rw [hst] at f2
    generalize startErr s tk = e at f1 f2 hs
    exact call_eq rfl rfl (by
      simp only [↓eA, eB, reduceIte, Nat.reduceBEq, Int.reduceNeg, Int.reduceLT, Int.reduceLE, Int.reduceAdd, Int.reduceSub, Int.reduceMul, Int.reduceEq, Int.reduceToNat, Nat.reduceLT, Nat.reduceAdd, Nat.reduceMul, Nat.reduceSub, c9, aw, e1, hneg, hlt, List.length_map, f1, hs, cut_drop, cut_take, hinc1, hinc2, hinc3, hfit1, hfit2, killE_nil, Nat.sub_zero, hmap, f2])
  | true =>
    have hs0 := of_decide_eq_true hs
    have hok := site_ok (start_ok hs0).1
    have hsr := sorted_of hok.srt
    have hpos : possible s (rot tk k) = possible s tk := by
      funext b; unfold possible; rw [why_congr htk b]
    have f1 := e_Frontier_ok s hF tk (by omega) hs0
    have f2 := e_Frontier_ok s hF (rot tk k) hrl (by rw [hst]; exact hs0)
    rw [hpos] at f2
    rw [names_sorted hsr] at f1 f2
    have f3 := e_same true true (lNames s tk) (by have h1 : (lNames s tk).length ≤ s.blocks.length := namesOf_len _ _; have := hF.bl; omega)
    exact call_eq rfl rfl (by
      simp only [↓eA, eB, reduceIte, Nat.reduceBEq, Int.reduceNeg, Int.reduceLT, Int.reduceLE, Int.reduceAdd, Int.reduceSub, Int.reduceMul, Int.reduceEq, Int.reduceToNat, Nat.reduceLT, Nat.reduceAdd, Nat.reduceMul, Nat.reduceSub, c9, aw, e1, hneg, hlt, List.length_map, f1, cut_drop, cut_take, hinc1, hinc2, hinc3, hfit1, hfit2, killE_nil, Nat.sub_zero, hmap, f2, f3]
      generalize hE : (lim T).loop 9013 _ _ = R
      obtain ⟨X, e', H', rfl, rfl, q7, q11⟩ := Ends.at hE (lp_outer s hF hok tk (by omega) hs0 _ _ ⟨by simp only [↓eA, eB, reduceIte, Nat.reduceBEq, Int.reduceNeg, Int.reduceLT, Int.reduceLE, Int.reduceAdd, Int.reduceSub, Int.reduceMul, Int.reduceEq, Int.reduceToNat, Nat.reduceLT, Nat.reduceAdd, Nat.reduceMul, Nat.reduceSub], by simp only [↓eA, eB, reduceIte, Nat.reduceBEq, Int.reduceNeg, Int.reduceLT, Int.reduceLE, Int.reduceAdd, Int.reduceSub, Int.reduceMul, Int.reduceEq, Int.reduceToNat, Nat.reduceLT, Nat.reduceAdd, Nat.reduceMul, Nat.reduceSub], by simp only [↓eA, eB, reduceIte, Nat.reduceBEq, Int.reduceNeg, Int.reduceLT, Int.reduceLE, Int.reduceAdd, Int.reduceSub, Int.reduceMul, Int.reduceEq, Int.reduceToNat, Nat.reduceLT, Nat.reduceAdd, Nat.reduceMul, Nat.reduceSub], by simp only [↓eA, eB, reduceIte, Nat.reduceBEq, Int.reduceNeg, Int.reduceLT, Int.reduceLE, Int.reduceAdd, Int.reduceSub, Int.reduceMul, Int.reduceEq, Int.reduceToNat, Nat.reduceLT, Nat.reduceAdd, Nat.reduceMul, Nat.reduceSub], by simp only [↓eA, eB, reduceIte, Nat.reduceBEq, Int.reduceNeg, Int.reduceLT, Int.reduceLE, Int.reduceAdd, Int.reduceSub, Int.reduceMul, Int.reduceEq, Int.reduceToNat, Nat.reduceLT, Nat.reduceAdd, Nat.reduceMul, Nat.reduceSub]⟩ rfl)
      simp only [↓eA, eB, reduceIte, Nat.reduceBEq, Int.reduceNeg, Int.reduceLT, Int.reduceLE, Int.reduceAdd, Int.reduceSub, Int.reduceMul, Int.reduceEq, Int.reduceToNat, Nat.reduceLT, Nat.reduceAdd, Nat.reduceMul, Nat.reduceSub, q7, q11, List.length_map])
end Tz.C18
