/- SupportLeans of every list and name; no conditions. -/
import Derived.Test.YthndcpffehneaaaGreatS67
import Derived.Test.YthndcpffehneaaaGreatS0A
set_option linter.unusedVariables false
set_option linter.unusedSimpArgs false
set_option linter.unusedSectionVars false
set_option linter.defProp false
set_option linter.deprecated false
open Gs Go
namespace Tz
theorem sl_len (l : List ByteArray) : (sl l).length = l.length := by simp [sl]
theorem leans_true (bs : List Block) (nm : ByteArray) : L.call 3 [blks bs, .str nm] [] = some (.bool true, []) :=
  call_eq rfl rfl (by
    have hw : L.call 10 [] [] = some (.bool true, []) := Aw.aw_run
    simp only [↓eA, eB, reduceIte, Nat.reduceBEq, Int.reduceNeg, Int.reduceLT, Int.reduceLE, Int.reduceAdd, Int.reduceSub, Int.reduceMul, Int.reduceEq, Int.reduceToNat, Nat.reduceLT, Nat.reduceAdd, Nat.reduceMul, Nat.reduceSub, c3, hw, List.length_map]
    cases hg : ((decide (20 < (bs.length : Int)) && decide ((bs.length : Int) ≤ 256)) || decide (400 < (bs.length : Int))) with
    | true => simp only [↓eA, eB, reduceIte, Nat.reduceBEq, Int.reduceNeg, Int.reduceLT, Int.reduceLE, Int.reduceAdd, Int.reduceSub, Int.reduceMul, Int.reduceEq, Int.reduceToNat, Nat.reduceLT, Nat.reduceAdd, Nat.reduceMul, Nat.reduceSub]
    | false =>
    have hl : bs.length < 1000000 := by
      rw [Bool.or_eq_false_iff] at hg
      have := of_decide_eq_false hg.2
      omega
    rcases findR_cases bs nm with ⟨hz, he⟩ | ⟨a, ha, hb, hd, hn, hf⟩
    · have h1 := e_LeansOn_bad bs hl nm hz he
      have h2 := e_Carries_bad bs hl nm hz he
      have h3 := e_rCheck bs hl nm
      generalize (findR bs nm).1 = e at he h1 h2 h3
      simp only [↓eA, eB, reduceIte, Nat.reduceBEq, Int.reduceNeg, Int.reduceLT, Int.reduceLE, Int.reduceAdd, Int.reduceSub, Int.reduceMul, Int.reduceEq, Int.reduceToNat, Nat.reduceLT, Nat.reduceAdd, Nat.reduceMul, Nat.reduceSub, h1, h2, h3, he]
    · have h1 := e_LeansOn_ok bs hl nm a hf
      have h2 := e_Carries_ok bs hl nm a hf
      have h3 := e_rCheck bs hl nm
      have h4 := e_rLeansOn bs hl nm a ha
      have h5 := e_rCarries bs hl nm a ha
      have hall := find_none_all hb
      have haa := hall a (List.mem_of_find?_eq_some ha)
      rw [names_eq (fun b hb => rleans_eq haa (hall b hb))] at h4
      rw [names_eq (fun b hb => rleans_eq (hall b hb) haa)] at h5
      rw [hf] at h3
      have s1 := e_same true false (sortB (namesOf (fun b => leansB a.box b.box) bs)) (by rw [(sortB_perm _).length_eq]; have := namesOf_len (fun b => leansB a.box b.box) bs; omega)
      have s2 := e_same true false (sortB (namesOf (fun b => leansB b.box a.box) bs)) (by rw [(sortB_perm _).length_eq]; have := namesOf_len (fun b => leansB b.box a.box) bs; omega)
      simp only [↓eA, eB, reduceIte, Nat.reduceBEq, Int.reduceNeg, Int.reduceLT, Int.reduceLE, Int.reduceAdd, Int.reduceSub, Int.reduceMul, Int.reduceEq, Int.reduceToNat, Nat.reduceLT, Nat.reduceAdd, Nat.reduceMul, Nat.reduceSub, h1, h2, h3, h4, h5, s1, s2])
end Tz
