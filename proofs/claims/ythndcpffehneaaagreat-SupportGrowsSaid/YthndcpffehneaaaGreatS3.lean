/- Names; no conditions. -/
import Derived.Test.YthndcpffehneaaaGreatS2
import Derived.KernelRfl
set_option linter.unusedVariables false
set_option linter.unusedSimpArgs false
set_option linter.unusedSectionVars false
set_option linter.defProp false
set_option linter.deprecated false
set_option maxRecDepth 100000
open Gs Go
namespace Tz

/-! The classes of bytes. -/
def cls (c : Nat) : Int := if 97 ≤ c ∧ c ≤ 122 ∨ 65 ≤ c ∧ c ≤ 90 then 1 else if 48 ≤ c ∧ c ≤ 57 then 2 else if c = 95 then 3 else if c = 40 ∨ c = 41 ∨ c = 44 ∨ c = 61 ∨ c = 58 ∨ c = 60 ∨ c = 62 ∨ c = 43 ∨ c = 47 then 4 else 0
def tblFrom : Nat → Nat → List D
  | 0, _ => []
  | k + 1, c => .int .u8 (cls c) :: tblFrom k (c + 1)
def tbl : List D := tblFrom 256 0
theorem cell_tblFrom : ∀ (k c i : Nat), i < k → cell (tblFrom k c) i = some (.int .u8 (cls (c + i)))
  | 0, c, i, h => by omega
  | k + 1, c, 0, h => rfl
  | k + 1, c, i + 1, h => by
    simp only [tblFrom, cell]
    rw [cell_tblFrom k (c + 1) i (by omega), show c + 1 + i = c + (i + 1) by omega]
theorem cell_tbl {i : Nat} (h : i < 256) : cell tbl i = some (.int .u8 (cls i)) := by
  rw [tbl, cell_tblFrom 256 0 i h, Nat.zero_add]
theorem renL_tbl : renL [] tbl = tbl := renL_closed (by kernel_rfl)
set_option maxRecDepth 100000 in
theorem e_table : L.call 233 [] [] = some (.agg tbl, []) := lim_call.2 ⟨150, by kernel_rfl⟩
theorem e_classes : L.call 218 [] [] = some (.agg tbl, []) := lim_call.2 ⟨152, by kernel_rfl⟩
theorem toNat_u8 (n : Nat) : ((n : Int).toNat * 1) = n := by simp
def inner (n : Nat) : Bool := (decide (cls n = 1) || decide (cls n = 2)) || decide (cls n = 3)
theorem e_inner (n : Nat) (h : n < 256) : L.call 184 [u8 n] [] = some (.bool (inner n), []) :=
  call_eq rfl rfl (by simp only [↓eA, eB, seval, c184, e_classes, renL_tbl, h, Nat.mul_one, cell_tbl h]; rfl)
def nmc (n : Nat) : Bool := inner n && (decide ((n : Int) < 65) || decide (90 < (n : Int)))
theorem e_nmc (n : Nat) (h : n < 256) : L.call 183 [u8 n] [] = some (.bool (nmc n), []) :=
  call_eq rfl rfl (by simp only [↓eA, eB, seval, c183, e_inner n h]; rfl)
theorem bat_eq (s : ByteArray) (i : Nat) : bat s i = (((s[i]?).getD 0).toNat : Int) := rfl
def byt (s : ByteArray) (i : Nat) : Nat := ((s[i]?).getD 0).toNat
theorem byt_lt (s : ByteArray) (i : Nat) : byt s i < 256 := UInt8.toNat_lt _
theorem bat_byt (s : ByteArray) (i : Nat) : bat s i = (byt s i : Int) := rfl
/-- How many bytes at the beginning satisfy a condition. -/
def runLen (p : Nat → Bool) (s : ByteArray) : Nat := match (List.range s.size).find? (fun i => !p (byt s i)) with | some i => i | none => s.size
theorem lp_run (p : Nat → Bool) (g : Nat) (caps : List D) (hc : closedL caps = true) (hp : ∀ n : Nat, n < 256 → L.call g (u8 n :: caps) [] = some (.bool (p n), [])) (s : ByteArray) (hb : s.size < 1000000000) (e : Env) (h0 : Gs.get e 0 = .str s) (h1 : Gs.get e 1 = .fn g caps) (h5 : Gs.get e 5 = int 0) :
    Ends T 182002 e [] (fun X e' H' => H' = [] ∧ X = .ex 0 ∧ Gs.get e' 5 = int (runLen p s)) := by
  refine (loop_find (T := T) (key := 182002) (li := l182002) rfl (List.range s.size) (fun i => !p (byt s i)) [] (fun i e => Gs.get e 0 = .str s ∧ Gs.get e 1 = .fn g caps ∧ Gs.get e 5 = int i) (fun i X e' => X = .ex 0 ∧ Gs.get e' 5 = int i) (fun X e' => X = .ex 0 ∧ Gs.get e' 5 = int s.size) ?_ ?_ e ⟨h0, h1, h5⟩).mono ?_
  · rintro i x e hi hl ⟨h0, h1, h5⟩
    have hlt : i < s.size := by simpa using hl
    rw [List.getElem?_range hlt] at hi; injection hi with hi; subst hi
    have hpi := hp (byt s i) (byt_lt s i)
    cases hpb : p (byt s i) with
    | true =>
      rw [hpb] at hpi
      simp only [↓eA, eB, seval, l182002, h0, h1, h5, hlt, bat_byt, renL_closed hc, hpi, wrap_succ (show i < 4611686018427387904 by omega)]
      exact ⟨trivial, trivial, trivial, trivial, trivial⟩
    | false =>
      rw [hpb] at hpi
      simp only [↓eA, eB, seval, l182002, h0, h1, h5, hlt, bat_byt, renL_closed hc, hpi]
      exact ⟨trivial, trivial, trivial, trivial⟩
  · rintro e ⟨h0, h1, h5⟩
    rw [List.length_range] at h5
    simp only [↓eA, eB, seval, l182002, h0, h1, h5, Nat.lt_irrefl]
    exact ⟨trivial, trivial, trivial, trivial⟩
  · rintro X e' H' ⟨rfl, h⟩
    unfold runLen
    cases hf : (List.range s.size).find? (fun i => !p (byt s i)) with
    | some i => rw [hf] at h; exact ⟨rfl, h⟩
    | none => rw [hf] at h; exact ⟨rfl, h⟩
theorem e_run (p : Nat → Bool) (g : Nat) (caps : List D) (hc : closedL caps = true) (hp : ∀ n : Nat, n < 256 → L.call g (u8 n :: caps) [] = some (.bool (p n), [])) (s : ByteArray) (hb : s.size < 1000000000) :
    L.call 182 [.str s, .fn g caps] [] = some (int (runLen p s), []) :=
  call_eq rfl rfl (by
    simp only [↓eA, eB, seval, c182]
    obtain ⟨X, e', H', h, rfl, rfl, h5⟩ := lp_run p g caps hc hp s hb [(0, .str s), (1, .fn g caps), (4, int 0), (5, int 0)] rfl rfl rfl
    rw [h]
    simp only [↓eA, eB, seval, h5])
theorem runLen_all (p : Nat → Bool) (s : ByteArray) : decide ((runLen p s : Int) = s.size) = (List.range s.size).all (fun i => p (byt s i)) := by
  unfold runLen
  cases hf : (List.range s.size).find? (fun i => !p (byt s i)) with
  | some i =>
    obtain ⟨h1, h2⟩ := List.find?_some hf, List.mem_of_find?_eq_some hf
    have hlt : i < s.size := by simpa using h2
    have : (List.range s.size).all (fun i => p (byt s i)) = false := by
      rw [List.all_eq_false]
      exact ⟨i, h2, by simpa using h1⟩
    rw [this]; simp; omega
  | none =>
    have : (List.range s.size).all (fun i => p (byt s i)) = true := by
      rw [List.all_eq_true]
      intro i hi
      have := List.find?_eq_none.1 hf i hi
      simpa using this
    rw [this]; simp
/-- lexer.Name. -/
def pName (s : ByteArray) : Bool := !(seq s ⟨#[]⟩ || decide (24 < (s.size : Int)) || decide (bat s 0 < 97) || decide (122 < bat s 0)) && (List.range s.size).all (fun i => nmc (byt s i))
theorem seq_empty {s : ByteArray} : seq s ⟨#[]⟩ = decide (s.size = 0) := by
  cases h : decide (s.size = 0) with
  | true =>
    have h0 := of_decide_eq_true h
    exact seq_iff.2 (ByteArray.ext (Array.eq_empty_of_size_eq_zero h0))
  | false =>
    have h0 := of_decide_eq_false h
    exact seq_false.2 fun e => h0 (by rw [e]; rfl)
theorem e_pName (s : ByteArray) (hb : s.size < 1000000000) : L.call 128 [.str s] [] = some (.bool (pName s), []) :=
  call_eq rfl rfl (by
    unfold pName
    cases h1 : (seq s ⟨#[]⟩) with
    | true => simp only [↓eA, eB, seval, c128, h1]
    | false =>
      have hs : 0 < s.size := by rw [seq_empty] at h1; have := of_decide_eq_false h1; omega
      cases h2 : (decide (24 < (s.size : Int))) with
      | true => simp only [↓eA, eB, seval, c128, h1, h2]
      | false =>
        have h0 : inb 0 s.size = true := by simp [inb]; exact hs
        cases h3 : (decide (bat s 0 < 97)) with
        | true => simp only [↓eA, eB, seval, c128, h1, h2, h0, h3]
        | false =>
          cases h4 : (decide (122 < bat s 0)) with
          | true => simp only [↓eA, eB, seval, c128, h1, h2, h0, h3, h4]
          | false => simp only [↓eA, eB, seval, c128, h1, h2, h0, h3, h4, e_run nmc 183 [] rfl e_nmc s hb, runLen_all])
theorem e_notName (s : ByteArray) (hb : s.size < 1000000000) : L.call 127 [.str s] [] = some (.bool (!pName s), []) :=
  call_eq rfl rfl (by simp only [↓eA, eB, seval, c127, e_pName s hb])
/-- The two words of a name agree. -/
theorem cls_inner {n : Nat} (h : n < 256) : nmc n = (wrd n && !(decide ((65:Int) ≤ n) && decide ((n:Int) ≤ 90))) := by
  unfold nmc inner cls wrd dig let_
  rw [Bool.eq_iff_iff]
  simp only [Bool.and_eq_true, Bool.or_eq_true, Bool.not_eq_true', decide_eq_true_eq, Bool.and_eq_false_iff, decide_eq_false_iff_not]
  constructor
  · intro h
    obtain ⟨h1, h2⟩ := h
    refine ⟨?_, by omega⟩
    repeat' (first | omega | split at h1)
  · rintro ⟨h1, h2⟩
    refine ⟨?_, by omega⟩
    split
    · omega
    · split
      · omega
      · split
        · omega
        · omega
theorem name_eq (s : ByteArray) : pName s = rName s := by
  unfold pName rName
  rw [Bool.eq_iff_iff]
  simp only [Bool.and_eq_true, Bool.not_eq_true', Bool.or_eq_false_iff, seq_empty, decide_eq_false_iff_not, List.all_eq_true, List.any_eq_false, List.mem_range, decide_eq_true_eq]
  constructor
  · rintro ⟨⟨⟨⟨h1, h2⟩, h3⟩, h4⟩, h5⟩
    refine ⟨fun i hi => ?_, by omega, by omega⟩
    have := h5 i hi
    rw [cls_inner (byt_lt s i)] at this
    simp only [Bool.and_eq_true, Bool.not_eq_true'] at this
    obtain ⟨k1, k2⟩ := this
    have k3 : (decide ((i : Int) = 0) && !let_ (bat s i)) = false := by
      by_cases h0 : i = 0
      · subst h0
        have : let_ (bat s 0) = true := by
          simp only [let_, Bool.or_eq_true, Bool.and_eq_true, decide_eq_true_eq]; omega
        rw [this]; simp
      · have : decide ((i : Int) = 0) = false := decide_eq_false (by omega)
        rw [this]; rfl
    have hb : badAt s i = false := by
      simp only [badAt, Bool.or_eq_false_iff]
      exact ⟨⟨by rw [bat_byt, k1]; rfl, k2⟩, k3⟩
    rw [hb]; simp
  · rintro ⟨h1, h2, h3⟩
    have h0 := h1 0 (by omega)
    have hb : badAt s 0 = false := by simpa using h0
    simp only [badAt, Bool.or_eq_false_iff] at hb
    obtain ⟨⟨k1, k2⟩, k3⟩ := hb
    have k4 : let_ (bat s 0) = true := by simpa using k3
    simp only [let_, Bool.or_eq_true, Bool.and_eq_true, decide_eq_true_eq] at k4
    have k2' : ¬ (65 ≤ bat s 0 ∧ bat s 0 ≤ 90) := by simpa using k2
    refine ⟨⟨⟨⟨by omega, by omega⟩, by omega⟩, by omega⟩, fun i hi => ?_⟩
    rw [cls_inner (byt_lt s i)]
    have hb : badAt s i = false := by simpa using h1 i hi
    simp only [badAt, Bool.or_eq_false_iff, bat_byt] at hb
    simp only [Bool.and_eq_true, Bool.not_eq_true']
    exact ⟨by simpa using hb.1.1, hb.1.2⟩
end Tz
