/- Tokens and lines; no conditions. -/
import Derived.Test.YtbdcbppmgbekoaaGreatDoorS31
set_option linter.unusedVariables false
set_option linter.unusedSimpArgs false
set_option linter.unusedSectionVars false
set_option linter.defProp false
set_option linter.deprecated false
open Gs Go
namespace Tz
/-! Lines. -/
abbrev wd (s : ByteArray) : Tk := ⟨1, s, 0, 0⟩
abbrev nu (n : Int) : Tk := ⟨2, .empty, n, 0⟩
abbrev leaf (t : List Tk) : D := .agg [.fz false 4 (t.map Tk.enc), .bool false, .fz true 4 [], int 0]
abbrev noLine : D := .agg [.fz true 4 [], .bool false, .fz true 4 [], int 0]
theorem e_word (s : ByteArray) : L.call 34 [.str s] [] = some ((wd s).enc, []) := call_eq rfl rfl (by simp only [↓eA, eB, reduceIte, Nat.reduceBEq, Int.reduceNeg, Int.reduceLT, Int.reduceLE, Int.reduceAdd, Int.reduceSub, Int.reduceMul, Int.reduceEq, Int.reduceToNat, Nat.reduceLT, Nat.reduceAdd, Nat.reduceMul, Nat.reduceSub, c34])
theorem e_number (n : Int) : L.call 33 [int n] [] = some ((nu n).enc, []) := call_eq rfl rfl (by simp only [↓eA, eB, reduceIte, Nat.reduceBEq, Int.reduceNeg, Int.reduceLT, Int.reduceLE, Int.reduceAdd, Int.reduceSub, Int.reduceMul, Int.reduceEq, Int.reduceToNat, Nat.reduceLT, Nat.reduceAdd, Nat.reduceMul, Nat.reduceSub, c33])
theorem e_rw (s : ByteArray) : L.call 56 [.str s] [] = some ((wd s).enc, []) := call_eq rfl rfl (by simp only [↓eA, eB, reduceIte, Nat.reduceBEq, Int.reduceNeg, Int.reduceLT, Int.reduceLE, Int.reduceAdd, Int.reduceSub, Int.reduceMul, Int.reduceEq, Int.reduceToNat, Nat.reduceLT, Nat.reduceAdd, Nat.reduceMul, Nat.reduceSub, c56])
theorem e_rn (n : Int) : L.call 58 [int n] [] = some ((nu n).enc, []) := call_eq rfl rfl (by simp only [↓eA, eB, reduceIte, Nat.reduceBEq, Int.reduceNeg, Int.reduceLT, Int.reduceLE, Int.reduceAdd, Int.reduceSub, Int.reduceMul, Int.reduceEq, Int.reduceToNat, Nat.reduceLT, Nat.reduceAdd, Nat.reduceMul, Nat.reduceSub, c58])
theorem e_rline (nz : Bool) (l : List Tk) : L.call 57 [.fz nz 4 (l.map Tk.enc)] [] = some (.agg [.fz nz 4 (l.map Tk.enc), .bool false, .fz true 4 [], int 0], []) := call_eq rfl rfl (by simp only [↓eA, eB, reduceIte, Nat.reduceBEq, Int.reduceNeg, Int.reduceLT, Int.reduceLE, Int.reduceAdd, Int.reduceSub, Int.reduceMul, Int.reduceEq, Int.reduceToNat, Nat.reduceLT, Nat.reduceAdd, Nat.reduceMul, Nat.reduceSub, c57])
theorem e_kid (s : ByteArray) (nz : Bool) (l : List Tk) (hb : l.length < 1000000000) : L.call 32 [.str s, .fz nz 4 (l.map Tk.enc)] [] = some (.agg [.ow 600000, .bool false, .fz true 4 [], int 0], [(600000, .row false 4 ((wd s).enc :: l.map Tk.enc) 0 true)]) :=
  call_eq rfl rfl (by
    have hfit : fits (0 + 1 + l.length) 40 = true := fits_of (by omega)
    simp only [↓eA, eB, reduceIte, Nat.reduceBEq, Int.reduceNeg, Int.reduceLT, Int.reduceLE, Int.reduceAdd, Int.reduceSub, Int.reduceMul, Int.reduceEq, Int.reduceToNat, Nat.reduceLT, Nat.reduceAdd, Nat.reduceMul, Nat.reduceSub, c32, e_word, hfit])
end Tz
