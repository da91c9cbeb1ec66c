/- Part S84; no conditions. -/
import Derived.Test.YthndcpffehneaaaGreatS83
set_option linter.unusedVariables false
set_option linter.unusedSimpArgs false
set_option linter.unusedSectionVars false
set_option linter.defProp false
set_option linter.deprecated false
set_option maxRecDepth 100000
open Gs Go
namespace Tz.C18
/-! SupportSafe: further inner loops. -/
def gm (s : Site) (tk tk' : List ByteArray) (k : Nat) : List D := ((s.blocks.take k).map fun b => D.bool (taken tk' b)) ++ ((s.blocks.drop k).map fun b => D.bool (taken tk b))
theorem gm_zero (s : Site) (tk tk' : List ByteArray) : gm s tk tk' 0 = gl s tk := by simp [gm]
theorem gm_all (s : Site) (tk tk' : List ByteArray) : gm s tk tk' s.blocks.length = gl s tk' := by simp [gm]
theorem gm_len (s : Site) (tk tk' : List ByteArray) (k : Nat) : (gm s tk tk' k).length = s.blocks.length := by simp [gm]; omega
theorem gm_split (s : Site) (tk tk' : List ByteArray) {k : Nat} {x : Block} (hx : s.blocks[k]? = some x) : gm s tk tk' k = ((s.blocks.take k).map fun b => D.bool (taken tk' b)) ++ D.bool (taken tk x) :: ((s.blocks.drop (k + 1)).map fun b => D.bool (taken tk b)) := by
  have hk := (List.getElem?_eq_some_iff.1 hx).1
  have hd : s.blocks.drop k = x :: s.blocks.drop (k + 1) := by rw [List.drop_eq_getElem_cons hk, (List.getElem?_eq_some_iff.1 hx).2]
  unfold gm
  rw [hd]; rfl
theorem gm_succ (s : Site) (tk tk' : List ByteArray) {k : Nat} {x : Block} (hx : s.blocks[k]? = some x) : gm s tk tk' (k + 1) = ((s.blocks.take k).map fun b => D.bool (taken tk' b)) ++ D.bool (taken tk' x) :: ((s.blocks.drop (k + 1)).map fun b => D.bool (taken tk b)) := by
  unfold gm
  rw [List.take_add_one, hx]
  simp
theorem gm_get (s : Site) (tk tk' : List ByteArray) {k : Nat} {x : Block} (hx : s.blocks[k]? = some x) : (gm s tk tk' k)[k]? = some (.bool (taken tk x)) := by
  have hk := (List.getElem?_eq_some_iff.1 hx).1
  rw [gm_split s tk tk' hx, List.getElem?_append_right (by simp; omega)]
  simp [Nat.min_eq_left (Nat.le_of_lt hk)]
theorem gm_set (s : Site) (tk tk' : List ByteArray) {k : Nat} {x : Block} (hx : s.blocks[k]? = some x) : (gm s tk tk' k).set k (.bool (taken tk' x)) = gm s tk tk' (k + 1) := by
  have hk := (List.getElem?_eq_some_iff.1 hx).1
  rw [gm_split s tk tk' hx, gm_succ s tk tk' hx, List.set_append_right _ _ (by simp; omega)]
  simp [Nat.min_eq_left (Nat.le_of_lt hk)]
theorem gm_same (s : Site) (tk tk' : List ByteArray) {k : Nat} {x : Block} (hx : s.blocks[k]? = some x) (h : taken tk' x = taken tk x) : gm s tk tk' (k + 1) = gm s tk tk' k := by
  rw [gm_split s tk tk' hx, gm_succ s tk tk' hx, h]
def fnd (s : Site) (b : Block) (k : Nat) : Bool := (s.blocks.take k).any fun x => seq x.name b.name
theorem fnd_succ (s : Site) (b : Block) {k : Nat} {x : Block} (hx : s.blocks[k]? = some x) : fnd s b (k + 1) = (fnd s b k || seq x.name b.name) := by
  unfold fnd
  rw [List.take_add_one, hx]
  simp
theorem fnd_all (s : Site) {b : Block} (hb : b ∈ s.blocks) : fnd s b s.blocks.length = true := by
  unfold fnd
  rw [List.take_length]
  exact List.any_eq_true.2 ⟨b, hb, seq_refl _⟩
variable (s : Site) (ch : List Int) (tk : List ByteArray) (i p : Nat)
theorem lp_s29 (hbl : s.blocks.length < 1000000) (hs : Sorted s.blocks) (b : Block) (hb : b ∈ s.blocks) (hbt : taken tk b = false) (e : Env) (H : Heap) (hE : EnvS s ch tk i p (gl s tk) e H) (h10 : Gs.get e 10 = .str b.name) (h15 : Gs.get e 15 = .bool false) (h16 : Gs.get e 16 = int 0) :
    Ends T 8029 e H (fun X e' H' => X = .ex 6 ∧ EnvS s ch tk i p (gl s (tk ++ [b.name])) e' H' ∧ Gs.get e' 10 = .str b.name ∧ Gs.get e' 15 = .bool true ∧ H' = HS s tk p (gl s (tk ++ [b.name]))) := by
  refine (loop_fold (T := T) (key := 8029) (li := l8029) rfl s.blocks (fun (u : Unit) _ => u)
    (fun k u e H => EnvS s ch tk i p (gm s tk (tk ++ [b.name]) k) e H ∧ Gs.get e 10 = .str b.name ∧ Gs.get e 15 = .bool (fnd s b k) ∧ Gs.get e 16 = int k)
    (fun u X e' H' => X = .ex 6 ∧ EnvS s ch tk i p (gl s (tk ++ [b.name])) e' H' ∧ Gs.get e' 10 = .str b.name ∧ Gs.get e' 15 = .bool true ∧ H' = HS s tk p (gl s (tk ++ [b.name]))) ?_ ?_ () e H ⟨by rw [gm_zero]; exact hE, h10, h15, h16⟩).mono fun _ _ _ h => h
  · rintro k x u e H hx hk ⟨⟨h1, h2, h5, h6, h7, H2, H5, H6⟩, h10, h15, h16⟩
    have hx' : (s.blocks.map Block.enc)[k]? = some x.enc := by simp [hx]
    have hgl := gm_len s tk (tk ++ [b.name]) k
    have hgg := gm_get s tk (tk ++ [b.name]) hx
    have hgs := gm_set s tk (tk ++ [b.name]) hx
    have hfs := fnd_succ s b hx
    have hgm := gm_same s tk (tk ++ [b.name]) hx
    generalize gm s tk (tk ++ [b.name]) k = g at H6 hgl hgg hgs hgm
    have hz : decide (0 ≤ k) = true := by simp
    cases hq : seq x.name b.name with
    | false =>
      rw [hq, Bool.or_false] at hfs
      have hsame := hgm (by rw [taken_snoc, hq, Bool.or_false])
      rw [hfs, hsame]
      simp only [↓eA, eB, seval, l8029, h1, h2, h5, h6, h7, H2, H5, H6, h10, h15, h16, hk, hx', hgl, hgg, hq, List.length_map, wrap_succ (show k < 4611686018427387904 by omega)]
      exact ⟨trivial, ⟨by simp only [↓eA, eB, seval], by simp only [↓eA, eB, seval], by simp only [↓eA, eB, seval], by simp only [↓eA, eB, seval], by simp only [↓eA, eB, seval], rfl, rfl, rfl⟩, trivial, trivial, trivial⟩
    | true =>
      have hxb := sorted_inj hs (List.mem_of_getElem? hx) hb (seq_iff.1 hq)
      have htx : taken tk x = false := by rw [hxb]; exact hbt
      have htx' : taken (tk ++ [b.name]) x = true := by rw [taken_snoc, hq, Bool.or_true]
      rw [hq, Bool.or_true] at hfs
      rw [htx] at hgg
      rw [htx'] at hgs
      rw [hfs, ← hgs]
      simp only [↓eA, eB, seval, l8029, h1, h2, h5, h6, h7, H2, H5, H6, h10, h15, h16, hk, hx', hgl, hgg, hq, hz, List.length_map, wrap_succ (show k < 4611686018427387904 by omega)]
      exact ⟨trivial, ⟨by simp only [↓eA, eB, seval], by simp only [↓eA, eB, seval], by simp only [↓eA, eB, seval], by simp only [↓eA, eB, seval], by simp only [↓eA, eB, seval], rfl, rfl, rfl⟩, trivial, trivial, trivial⟩
  · rintro u e H ⟨⟨h1, h2, h5, h6, h7, H2, H5, H6⟩, h10, h15, h16⟩
    rw [gm_all] at H6
    rw [fnd_all s hb] at h15
    simp only [↓eA, eB, seval, l8029, h1, h2, h5, h6, h7, H2, H5, H6, h10, h15, h16, List.length_map, Nat.lt_irrefl]
    exact ⟨trivial, trivial, ⟨by simp only [↓eA, eB, seval], by simp only [↓eA, eB, seval], by simp only [↓eA, eB, seval], by simp only [↓eA, eB, seval], by simp only [↓eA, eB, seval], rfl, rfl, rfl⟩, trivial, trivial, by first | trivial | rfl⟩
theorem lp_s42 (hbl : s.blocks.length < 1000000) (hI : ∀ k ∈ s.blocks, ∀ m ∈ s.blocks, taken tk k = true → taken tk m = false → clearB s.safety k.box m.box = true) (k : Nat) (x : Block) (hx : s.blocks[k]? = some x) (e : Env) (H : Heap) (hE : EnvS s ch tk i p (gl s tk) e H) (h19 : Gs.get e 19 = int k) (h20 : Gs.get e 20 = int 0) :
    Ends T 8042 e H (fun X e' H' => X = .ex 10 ∧ EnvS s ch tk i p (gl s tk) e' H' ∧ Gs.get e' 19 = int k ∧ H' = HS s tk p (gl s tk)) := by
  refine (loop_fold (T := T) (key := 8042) (li := l8042) rfl s.blocks (fun (u : Unit) _ => u)
    (fun m u e H => EnvS s ch tk i p (gl s tk) e H ∧ Gs.get e 19 = int k ∧ Gs.get e 20 = int m)
    (fun u X e' H' => X = .ex 10 ∧ EnvS s ch tk i p (gl s tk) e' H' ∧ Gs.get e' 19 = int k ∧ H' = HS s tk p (gl s tk)) ?_ ?_ () e H ⟨hE, h19, h20⟩).mono fun _ _ _ h => h
  · rintro m y u e H hy hm ⟨⟨h1, h2, h5, h6, h7, H2, H5, H6⟩, h19, h20⟩
    have hk := (List.getElem?_eq_some_iff.1 hx).1
    have hx' : (s.blocks.map Block.enc)[k]? = some x.enc := by simp [hx]
    have hy' : (s.blocks.map Block.enc)[m]? = some y.enc := by simp [hy]
    have hgx : (s.blocks.map fun b => D.bool (taken tk b))[k]? = some (.bool (taken tk x)) := by simp [hx]
    have hgy : (s.blocks.map fun b => D.bool (taken tk b))[m]? = some (.bool (taken tk y)) := by simp [hy]
    have hc := e_Clear s.safety x.box y.box
    have hw := wrap_succ (show m < 4611686018427387904 by omega)
    cases htx : taken tk x with
    | false =>
      rw [htx] at hgx
      simp only [↓eA, eB, seval, l8042, h1, h2, h5, h6, h7, H2, H5, H6, h19, h20, hk, hm, hx', hy', hgx, hgy, hc, List.length_map, hw]
      exact ⟨trivial, ⟨by simp only [↓eA, eB, seval], by simp only [↓eA, eB, seval], by simp only [↓eA, eB, seval], by simp only [↓eA, eB, seval], by simp only [↓eA, eB, seval], rfl, rfl, rfl⟩, trivial, trivial⟩
    | true =>
    rw [htx] at hgx
    cases hty : taken tk y with
    | true =>
      rw [hty] at hgy
      simp only [↓eA, eB, seval, l8042, h1, h2, h5, h6, h7, H2, H5, H6, h19, h20, hk, hm, hx', hy', hgx, hgy, hc, List.length_map, hw]
      exact ⟨trivial, ⟨by simp only [↓eA, eB, seval], by simp only [↓eA, eB, seval], by simp only [↓eA, eB, seval], by simp only [↓eA, eB, seval], by simp only [↓eA, eB, seval], rfl, rfl, rfl⟩, trivial, trivial⟩
    | false =>
      rw [hty] at hgy
      rw [hI x (List.mem_of_getElem? hx) y (List.mem_of_getElem? hy) htx hty] at hc
      simp only [↓eA, eB, seval, l8042, h1, h2, h5, h6, h7, H2, H5, H6, h19, h20, hk, hm, hx', hy', hgx, hgy, hc, List.length_map, hw]
      exact ⟨trivial, ⟨by simp only [↓eA, eB, seval], by simp only [↓eA, eB, seval], by simp only [↓eA, eB, seval], by simp only [↓eA, eB, seval], by simp only [↓eA, eB, seval], rfl, rfl, rfl⟩, trivial, trivial⟩
  · rintro u e H ⟨⟨h1, h2, h5, h6, h7, H2, H5, H6⟩, h19, h20⟩
    simp only [↓eA, eB, seval, l8042, h1, h2, h5, h6, h7, H2, H5, H6, h19, h20, List.length_map, Nat.lt_irrefl]
    exact ⟨trivial, trivial, ⟨by simp only [↓eA, eB, seval], by simp only [↓eA, eB, seval], by simp only [↓eA, eB, seval], by simp only [↓eA, eB, seval], by simp only [↓eA, eB, seval], rfl, rfl, rfl⟩, trivial, by first | trivial | rfl⟩
theorem lp_s39 (hbl : s.blocks.length < 1000000) (hI : ∀ k ∈ s.blocks, ∀ m ∈ s.blocks, taken tk k = true → taken tk m = false → clearB s.safety k.box m.box = true) (e : Env) (H : Heap) (hE : EnvS s ch tk i p (gl s tk) e H) (h19 : Gs.get e 19 = int 0) :
    Ends T 8039 e H (fun X e' H' => X = .ex 8 ∧ EnvS s ch tk i p (gl s tk) e' H' ∧ H' = HS s tk p (gl s tk)) := by
  refine (loop_fold (T := T) (key := 8039) (li := l8039) rfl s.blocks (fun (u : Unit) _ => u)
    (fun k u e H => EnvS s ch tk i p (gl s tk) e H ∧ Gs.get e 19 = int k)
    (fun u X e' H' => X = .ex 8 ∧ EnvS s ch tk i p (gl s tk) e' H' ∧ H' = HS s tk p (gl s tk)) ?_ ?_ () e H ⟨hE, h19⟩).mono fun _ _ _ h => h
  · rintro k x u e H hx hk ⟨⟨h1, h2, h5, h6, h7, H2, H5, H6⟩, h19⟩
    simp only [↓eA, eB, seval, l8039, h1, h2, h5, h6, h7, H2, H5, H6, h19, hk, List.length_map]
    generalize hE : (lim T).loop 8042 _ _ = R
    obtain ⟨X, e', H', rfl, rfl, ⟨q1, q2, q5, q6, q7, Q2, Q5, Q6⟩, q19, rfl⟩ := Ends.at hE (lp_s42 s ch tk i p hbl hI k x hx _ _ ⟨by simp only [↓eA, eB, seval], by simp only [↓eA, eB, seval], by simp only [↓eA, eB, seval], by simp only [↓eA, eB, seval], by simp only [↓eA, eB, seval], rfl, rfl, rfl⟩ (by simp only [↓eA, eB, seval]) (by simp only [↓eA, eB, seval]))
    simp only [↓eA, eB, seval, q19, wrap_succ (show k < 4611686018427387904 by omega)]
    exact ⟨trivial, ⟨by simp only [↓eA, eB, seval, q1], by simp only [↓eA, eB, seval, q2], by simp only [↓eA, eB, seval, q5], by simp only [↓eA, eB, seval, q6], by simp only [↓eA, eB, seval, q7], Q2, Q5, Q6⟩, trivial⟩
  · rintro u e H ⟨⟨h1, h2, h5, h6, h7, H2, H5, H6⟩, h19⟩
    simp only [↓eA, eB, seval, l8039, h1, h2, h5, h6, h7, H2, H5, H6, h19, List.length_map, Nat.lt_irrefl]
    exact ⟨trivial, trivial, ⟨by simp only [↓eA, eB, seval], by simp only [↓eA, eB, seval], by simp only [↓eA, eB, seval], by simp only [↓eA, eB, seval], by simp only [↓eA, eB, seval], rfl, rfl, rfl⟩, by first | trivial | rfl⟩
end Tz.C18
