/- Part S83; no conditions. -/
import Derived.Test.YthndcpffehneaaaGreatS82
import Derived.Test.YthndcpffehneaaaGreatS0A
set_option linter.unusedVariables false
set_option linter.unusedSimpArgs false
set_option linter.unusedSectionVars false
set_option linter.defProp false
set_option linter.deprecated false
set_option maxRecDepth 100000
open Gs Go
namespace Tz.C18
/-! SupportSafe: the inner loops. -/
abbrev gl (s : Site) (tk : List ByteArray) : List D := s.blocks.map fun b => .bool (taken tk b)
abbrev HS (s : Site) (tk : List ByteArray) (p : Nat) (g : List D) : Heap := [(2, .box s.cells false), (1005, .row true 1 (tk.map .str) p true), (1034, .row false 1 g 0 true)]
structure EnvS (s : Site) (ch : List Int) (tk : List ByteArray) (i p : Nat) (g : List D) (e : Env) (H : Heap) : Prop where
  h1 : Gs.get e 1 = .fz false 1 (ch.map int)
  h2 : Gs.get e 2 = .ptr 2 0
  h5 : Gs.get e 5 = .ow 1005
  h6 : Gs.get e 6 = .ow 1034
  h7 : Gs.get e 7 = int i
  H2 : hget H 2 = some (.box s.cells false)
  H5 : hget H 1005 = some (.row true 1 (tk.map .str) p true)
  H6 : hget H 1034 = some (.row false 1 g 0 true)
variable (s : Site) (ch : List Int) (tk : List ByteArray) (i p : Nat)
theorem lp_s23 (nm : ByteArray) (k : Nat) (x : Block) (hx : s.blocks[k]? = some x) (cs : List ByteArray) (hcl : cs.length < 1000000) (hno : ∀ n ∈ cs, seq x.name n = true → taken tk x = true) (e : Env) (H : Heap) (hE : EnvS s ch tk i p (gl s tk) e H) (h10 : Gs.get e 10 = .str nm) (h11 : Gs.get e 11 = .fz true 1 (cs.map .str)) (h13 : Gs.get e 13 = int k) (h14 : Gs.get e 14 = int 0) :
    Ends T 8023 e H (fun X e' H' => X = .ex 4 ∧ EnvS s ch tk i p (gl s tk) e' H' ∧ Gs.get e' 10 = .str nm ∧ Gs.get e' 11 = .fz true 1 (cs.map .str) ∧ Gs.get e' 13 = int k ∧ H' = HS s tk p (gl s tk)) := by
  refine (loop_fold (T := T) (key := 8023) (li := l8023) rfl cs (fun (u : Unit) _ => u)
    (fun m u e H => EnvS s ch tk i p (gl s tk) e H ∧ Gs.get e 10 = .str nm ∧ Gs.get e 11 = .fz true 1 (cs.map .str) ∧ Gs.get e 13 = int k ∧ Gs.get e 14 = int m)
    (fun u X e' H' => X = .ex 4 ∧ EnvS s ch tk i p (gl s tk) e' H' ∧ Gs.get e' 10 = .str nm ∧ Gs.get e' 11 = .fz true 1 (cs.map .str) ∧ Gs.get e' 13 = int k ∧ H' = HS s tk p (gl s tk)) ?_ ?_ () e H ⟨hE, h10, h11, h13, h14⟩).mono fun _ _ _ h => h
  · rintro m n u e H hn hm ⟨⟨h1, h2, h5, h6, h7, H2, H5, H6⟩, h10, h11, h13, h14⟩
    have hk := (List.getElem?_eq_some_iff.1 hx).1
    have hx' : (s.blocks.map Block.enc)[k]? = some x.enc := by simp [hx]
    have hg' : (s.blocks.map fun b => D.bool (taken tk b))[k]? = some (.bool (taken tk x)) := by simp [hx]
    have hn' : (cs.map D.str)[m]? = some (.str n) := by simp [hn]
    have hc := hno n (List.mem_of_getElem? hn)
    cases hq : seq x.name n with
    | false =>
      simp only [↓eA, eB, seval, l8023, h1, h2, h5, h6, h7, H2, H5, H6, h10, h11, h13, h14, hk, hx', hg', hn', hm, hq, List.length_map, wrap_succ (show m < 4611686018427387904 by omega)]
      exact ⟨trivial, ⟨by simp only [↓eA, eB, seval], by simp only [↓eA, eB, seval], by simp only [↓eA, eB, seval], by simp only [↓eA, eB, seval], by simp only [↓eA, eB, seval], rfl, rfl, rfl⟩, trivial, trivial, trivial, trivial⟩
    | true =>
      have ht := hc hq
      simp only [↓eA, eB, seval, l8023, h1, h2, h5, h6, h7, H2, H5, H6, h10, h11, h13, h14, hk, hx', hg', hn', hm, hq, ht, List.length_map, wrap_succ (show m < 4611686018427387904 by omega)]
      exact ⟨trivial, ⟨by simp only [↓eA, eB, seval], by simp only [↓eA, eB, seval], by simp only [↓eA, eB, seval], by simp only [↓eA, eB, seval], by simp only [↓eA, eB, seval], rfl, rfl, rfl⟩, trivial, trivial, trivial, trivial⟩
  · rintro u e H ⟨⟨h1, h2, h5, h6, h7, H2, H5, H6⟩, h10, h11, h13, h14⟩
    simp only [↓eA, eB, seval, l8023, h1, h2, h5, h6, h7, H2, H5, H6, h10, h11, h13, h14, Nat.lt_irrefl]
    exact ⟨trivial, trivial, ⟨by simp only [↓eA, eB, seval], by simp only [↓eA, eB, seval], by simp only [↓eA, eB, seval], by simp only [↓eA, eB, seval], by simp only [↓eA, eB, seval], rfl, rfl, rfl⟩, trivial, trivial, trivial, by first | trivial | rfl⟩
theorem lp_s20 (hb : s.blocks.length < 1000000) (nm : ByteArray) (cs : List ByteArray) (hcl : cs.length < 1000000) (hno : ∀ x ∈ s.blocks, ∀ n ∈ cs, seq x.name n = true → taken tk x = true) (e : Env) (H : Heap) (hE : EnvS s ch tk i p (gl s tk) e H) (h10 : Gs.get e 10 = .str nm) (h11 : Gs.get e 11 = .fz true 1 (cs.map .str)) (h13 : Gs.get e 13 = int 0) :
    Ends T 8020 e H (fun X e' H' => X = .ex 2 ∧ EnvS s ch tk i p (gl s tk) e' H' ∧ Gs.get e' 10 = .str nm ∧ H' = HS s tk p (gl s tk)) := by
  refine (loop_fold (T := T) (key := 8020) (li := l8020) rfl s.blocks (fun (u : Unit) _ => u)
    (fun k u e H => EnvS s ch tk i p (gl s tk) e H ∧ Gs.get e 10 = .str nm ∧ Gs.get e 11 = .fz true 1 (cs.map .str) ∧ Gs.get e 13 = int k)
    (fun u X e' H' => X = .ex 2 ∧ EnvS s ch tk i p (gl s tk) e' H' ∧ Gs.get e' 10 = .str nm ∧ H' = HS s tk p (gl s tk)) ?_ ?_ () e H ⟨hE, h10, h11, h13⟩).mono fun _ _ _ h => h
  · rintro k x u e H hx hk ⟨⟨h1, h2, h5, h6, h7, H2, H5, H6⟩, h10, h11, h13⟩
    simp only [↓eA, eB, seval, l8020, h1, h2, h5, h6, h7, H2, H5, H6, h10, h11, h13, hk, List.length_map]
    generalize hE : (lim T).loop 8023 _ _ = R
    obtain ⟨X, e', H', rfl, rfl, ⟨q1, q2, q5, q6, q7, Q2, Q5, Q6⟩, q10, q11, q13, rfl⟩ := Ends.at hE (lp_s23 s ch tk i p nm k x hx cs hcl (hno x (List.mem_of_getElem? hx)) _ _ ⟨by simp only [↓eA, eB, seval], by simp only [↓eA, eB, seval], by simp only [↓eA, eB, seval], by simp only [↓eA, eB, seval], by simp only [↓eA, eB, seval], rfl, rfl, rfl⟩ (by simp only [↓eA, eB, seval]) (by simp only [↓eA, eB, seval]) (by simp only [↓eA, eB, seval]) (by simp only [↓eA, eB, seval]))
    simp only [↓eA, eB, seval, q13, wrap_succ (show k < 4611686018427387904 by omega)]
    exact ⟨trivial, ⟨by simp only [↓eA, eB, seval, q1], by simp only [↓eA, eB, seval, q2], by simp only [↓eA, eB, seval, q5], by simp only [↓eA, eB, seval, q6], by simp only [↓eA, eB, seval, q7], Q2, Q5, Q6⟩, by simp only [↓eA, eB, seval, q10], by simp only [↓eA, eB, seval, q11], trivial⟩
  · rintro u e H ⟨⟨h1, h2, h5, h6, h7, H2, H5, H6⟩, h10, h11, h13⟩
    simp only [↓eA, eB, seval, l8020, h1, h2, h5, h6, h7, H2, H5, H6, h10, h11, h13, List.length_map, Nat.lt_irrefl]
    exact ⟨trivial, trivial, ⟨by simp only [↓eA, eB, seval], by simp only [↓eA, eB, seval], by simp only [↓eA, eB, seval], by simp only [↓eA, eB, seval], by simp only [↓eA, eB, seval], rfl, rfl, rfl⟩, trivial, by first | trivial | rfl⟩
end Tz.C18
