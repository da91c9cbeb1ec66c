/- Searches in blocks and benches; boxes; no conditions. -/
import Derived.Test.YthndcpffehneaaaGreatS64
set_option linter.unusedVariables false
set_option linter.unusedSimpArgs false
set_option linter.unusedSectionVars false
set_option linter.defProp false
set_option linter.deprecated false
set_option maxRecDepth 100000
open Gs Go
namespace Tz.C18
structure Bench where
  name : ByteArray
  lo : Int
  hi : Int
abbrev Bench.enc (b : Bench) : D := .agg [.str b.name, int b.lo, int b.hi]
/-! slices.IndexFunc, ContainsFunc of blocks and benches. -/
set_option maxHeartbeats 400000 in
theorem lp_idx_block (p : Block → Bool) (g : Nat) (caps : List D) (nz : Bool) (xs : List Block) (hb : xs.length < 1000000000) (hc : closedL caps = true)
    (hp : ∀ x ∈ xs, L.call g (Block.enc x :: caps) [] = some (.bool (p x), [])) (e : Env) (h0 : Gs.get e 0 = .fz nz 7 (xs.map Block.enc)) (h1 : Gs.get e 1 = .fn g caps) (h7 : Gs.get e 7 = int xs.length) (h8 : Gs.get e 8 = int 0) :
    Ends T 68002 e [] (fun X e' H' => H' = [] ∧ match xs.findIdx? p with | some i => X = .ret ∧ Gs.get e' 4 = int i | none => X = .ex 0) := by
  refine (loop_thru (T := T) (key := 68002) (li := l68002) rfl (R := Nat) (fun (i : Nat) x => bif p x then .inl i else .inr (i + 1)) xs (fun i j e H => H = [] ∧ j = i ∧ Gs.get e 0 = .fz nz 7 (xs.map Block.enc) ∧ Gs.get e 1 = .fn g caps ∧ Gs.get e 7 = int xs.length ∧ Gs.get e 8 = int i) (fun i X e' H' => H' = [] ∧ X = .ret ∧ Gs.get e' 4 = int i) (fun _ X e' H' => H' = [] ∧ X = .ex 0) ?_ ?_ ?_ xs [] 0 e [] rfl ⟨rfl, rfl, h0, h1, h7, h8⟩).mono ?_
  · rintro i x j j' e H hi ⟨rfl, hji, h0, h1, h7, h8⟩ hf
    have hij := hji.symm; subst hij
    have hlt : i < xs.length := (List.getElem?_eq_some_iff.1 hi).1
    have hp' := hp x (List.mem_of_getElem? hi)
    have hpf : p x = false := by cases h : p x <;> simp_all
    have hj : j' = i + 1 := by simp [hpf] at hf; exact hf.symm
    subst hj
    have hxi : (xs.map Block.enc)[i]? = some (Block.enc x) := by simp [hi]
    rw [hpf] at hp'
    simp only [↓eA, eB, seval, l68002, h0, h1, h7, h8, hlt, hxi, hp', renL_closed hc, wrap_succ (show i < 4611686018427387904 by omega)]
    exact ⟨trivial, trivial, trivial, trivial, trivial, trivial, trivial⟩
  · rintro i x j r e H hi ⟨rfl, hji, h0, h1, h7, h8⟩ hf
    have hij := hji.symm; subst hij
    have hlt : i < xs.length := (List.getElem?_eq_some_iff.1 hi).1
    have hp' := hp x (List.mem_of_getElem? hi)
    have hpf : p x = true := by cases h : p x <;> simp_all
    have hj : r = i := by simp [hpf] at hf; exact hf.symm
    subst hj
    have hxi : (xs.map Block.enc)[r]? = some (Block.enc x) := by simp [hi]
    rw [hpf] at hp'
    simp only [↓eA, eB, seval, l68002, h0, h1, h7, h8, hlt, hxi, hp', renL_closed hc]
    exact ⟨trivial, trivial, trivial, trivial⟩
  · rintro j e H ⟨rfl, rfl, h0, h1, h7, h8⟩
    simp only [↓eA, eB, seval, l68002, h0, h1, h7, h8, Nat.lt_irrefl]
    exact ⟨trivial, trivial, trivial⟩
  · intro X e' H' h
    rw [thru_idx] at h
    cases hf : xs.findIdx? p with
    | none => rw [hf] at h; exact h
    | some i => rw [hf] at h; simpa using h
theorem e_idx_block (p : Block → Bool) (g : Nat) (caps : List D) (nz : Bool) (xs : List Block) (hb : xs.length < 1000000000) (hc : closedL caps = true)
    (hp : ∀ x ∈ xs, L.call g (Block.enc x :: caps) [] = some (.bool (p x), [])) : L.call 68 [.fz nz 7 (xs.map Block.enc), .fn g caps] [] = some (int (idxOf p xs), []) :=
  call_eq rfl rfl (by
    simp only [↓eA, eB, seval, c68]
    obtain ⟨X, e', H', h, rfl, h2⟩ := lp_idx_block p g caps nz xs hb hc hp [(0, .fz nz 7 (xs.map Block.enc)), (1, .fn g caps), (4, int 0), (6, .fz nz 7 (xs.map Block.enc)), (7, int xs.length), (8, int 0)] rfl rfl rfl rfl
    rw [h]
    unfold idxOf
    cases hf : xs.findIdx? p with
    | none => rw [hf] at h2; subst h2; simp only [↓eA, eB, seval]
    | some i => rw [hf] at h2; obtain ⟨rfl, h4⟩ := h2; simp only [↓eA, eB, seval, h4])
theorem e_con_block (p : Block → Bool) (g : Nat) (caps : List D) (nz : Bool) (xs : List Block) (hb : xs.length < 1000000000) (hc : closedL caps = true)
    (hp : ∀ x ∈ xs, L.call g (Block.enc x :: caps) [] = some (.bool (p x), [])) : L.call 157 [.fz nz 7 (xs.map Block.enc), .fn g caps] [] = some (.bool (xs.any p), []) :=
  call_eq rfl rfl (by
    simp only [↓eA, eB, seval, c157, renL_closed hc, e_idx_block p g caps nz xs hb hc hp, idxOf_ge])
set_option maxHeartbeats 400000 in
theorem lp_idx_bench (p : Bench → Bool) (g : Nat) (caps : List D) (nz : Bool) (xs : List Bench) (hb : xs.length < 1000000000) (hc : closedL caps = true)
    (hp : ∀ x ∈ xs, L.call g (Bench.enc x :: caps) [] = some (.bool (p x), [])) (e : Env) (h0 : Gs.get e 0 = .fz nz 3 (xs.map Bench.enc)) (h1 : Gs.get e 1 = .fn g caps) (h7 : Gs.get e 7 = int xs.length) (h8 : Gs.get e 8 = int 0) :
    Ends T 199002 e [] (fun X e' H' => H' = [] ∧ match xs.findIdx? p with | some i => X = .ret ∧ Gs.get e' 4 = int i | none => X = .ex 0) := by
  refine (loop_thru (T := T) (key := 199002) (li := l199002) rfl (R := Nat) (fun (i : Nat) x => bif p x then .inl i else .inr (i + 1)) xs (fun i j e H => H = [] ∧ j = i ∧ Gs.get e 0 = .fz nz 3 (xs.map Bench.enc) ∧ Gs.get e 1 = .fn g caps ∧ Gs.get e 7 = int xs.length ∧ Gs.get e 8 = int i) (fun i X e' H' => H' = [] ∧ X = .ret ∧ Gs.get e' 4 = int i) (fun _ X e' H' => H' = [] ∧ X = .ex 0) ?_ ?_ ?_ xs [] 0 e [] rfl ⟨rfl, rfl, h0, h1, h7, h8⟩).mono ?_
  · rintro i x j j' e H hi ⟨rfl, hji, h0, h1, h7, h8⟩ hf
    have hij := hji.symm; subst hij
    have hlt : i < xs.length := (List.getElem?_eq_some_iff.1 hi).1
    have hp' := hp x (List.mem_of_getElem? hi)
    have hpf : p x = false := by cases h : p x <;> simp_all
    have hj : j' = i + 1 := by simp [hpf] at hf; exact hf.symm
    subst hj
    have hxi : (xs.map Bench.enc)[i]? = some (Bench.enc x) := by simp [hi]
    rw [hpf] at hp'
    simp only [↓eA, eB, seval, l199002, h0, h1, h7, h8, hlt, hxi, hp', renL_closed hc, wrap_succ (show i < 4611686018427387904 by omega)]
    exact ⟨trivial, trivial, trivial, trivial, trivial, trivial, trivial⟩
  · rintro i x j r e H hi ⟨rfl, hji, h0, h1, h7, h8⟩ hf
    have hij := hji.symm; subst hij
    have hlt : i < xs.length := (List.getElem?_eq_some_iff.1 hi).1
    have hp' := hp x (List.mem_of_getElem? hi)
    have hpf : p x = true := by cases h : p x <;> simp_all
    have hj : r = i := by simp [hpf] at hf; exact hf.symm
    subst hj
    have hxi : (xs.map Bench.enc)[r]? = some (Bench.enc x) := by simp [hi]
    rw [hpf] at hp'
    simp only [↓eA, eB, seval, l199002, h0, h1, h7, h8, hlt, hxi, hp', renL_closed hc]
    exact ⟨trivial, trivial, trivial, trivial⟩
  · rintro j e H ⟨rfl, rfl, h0, h1, h7, h8⟩
    simp only [↓eA, eB, seval, l199002, h0, h1, h7, h8, Nat.lt_irrefl]
    exact ⟨trivial, trivial, trivial⟩
  · intro X e' H' h
    rw [thru_idx] at h
    cases hf : xs.findIdx? p with
    | none => rw [hf] at h; exact h
    | some i => rw [hf] at h; simpa using h
theorem e_idx_bench (p : Bench → Bool) (g : Nat) (caps : List D) (nz : Bool) (xs : List Bench) (hb : xs.length < 1000000000) (hc : closedL caps = true)
    (hp : ∀ x ∈ xs, L.call g (Bench.enc x :: caps) [] = some (.bool (p x), [])) : L.call 199 [.fz nz 3 (xs.map Bench.enc), .fn g caps] [] = some (int (idxOf p xs), []) :=
  call_eq rfl rfl (by
    simp only [↓eA, eB, seval, c199]
    obtain ⟨X, e', H', h, rfl, h2⟩ := lp_idx_bench p g caps nz xs hb hc hp [(0, .fz nz 3 (xs.map Bench.enc)), (1, .fn g caps), (4, int 0), (6, .fz nz 3 (xs.map Bench.enc)), (7, int xs.length), (8, int 0)] rfl rfl rfl rfl
    rw [h]
    unfold idxOf
    cases hf : xs.findIdx? p with
    | none => rw [hf] at h2; subst h2; simp only [↓eA, eB, seval]
    | some i => rw [hf] at h2; obtain ⟨rfl, h4⟩ := h2; simp only [↓eA, eB, seval, h4])
theorem e_con_bench (p : Bench → Bool) (g : Nat) (caps : List D) (nz : Bool) (xs : List Bench) (hb : xs.length < 1000000000) (hc : closedL caps = true)
    (hp : ∀ x ∈ xs, L.call g (Bench.enc x :: caps) [] = some (.bool (p x), [])) : L.call 195 [.fz nz 3 (xs.map Bench.enc), .fn g caps] [] = some (.bool (xs.any p), []) :=
  call_eq rfl rfl (by
    simp only [↓eA, eB, seval, c195, renL_closed hc, e_idx_bench p g caps nz xs hb hc hp, idxOf_ge])
/-! gangsaw/box: Inside, Overlap. -/
theorem e_bCommon (a b : Box) : L.call 201 [a.enc, b.enc] [] = some (.agg [int (max a.x0 b.x0), int (min a.x1 b.x1), int (max a.y0 b.y0), int (min a.y1 b.y1), int (max a.z0 b.z0), int (min a.z1 b.z1)], []) :=
  call_eq rfl rfl (by
    simp only [↓eA, eB, seval, c201, e_bsides a, e_bsides b]
    rw [loop_unfold_c (T := T) (k := 201003) rfl]
    simp only [↓eA, eB, seval, l201003, i30, i20, i21]
    rw [loop_unfold_c (T := T) (k := 201003) rfl]
    simp only [↓eA, eB, seval, l201003, i31, i20, i21]
    rw [loop_unfold_c (T := T) (k := 201003) rfl]
    simp only [↓eA, eB, seval, l201003, i32, i20, i21]
    rw [loop_unfold_c (T := T) (k := 201003) rfl]
    simp only [↓eA, eB, seval, l201003])
def apart (a b : Box) : Bool := decide (min a.x1 b.x1 ≤ max a.x0 b.x0) || (decide (min a.y1 b.y1 ≤ max a.y0 b.y0) || decide (min a.z1 b.z1 ≤ max a.z0 b.z0))
theorem e_bOverlap (a b : Box) : L.call 159 [a.enc, b.enc] [] = some (.bool (!apart a b), []) :=
  call_eq rfl rfl (by
    simp only [↓eA, eB, seval, c159, e_bCommon a b]
    unfold apart
    rw [loop_unfold_c (T := T) (k := 159002) rfl]
    simp only [↓eA, eB, seval, l159002, i30, i20, i21]
    cases h0 : decide (min a.x1 b.x1 ≤ max a.x0 b.x0) with
    | true => simp only [↓eA, eB, seval]
    | false =>
    simp only [↓eA, eB, seval]
    rw [loop_unfold_c (T := T) (k := 159002) rfl]
    simp only [↓eA, eB, seval, l159002, i31, i20, i21]
    cases h1 : decide (min a.y1 b.y1 ≤ max a.y0 b.y0) with
    | true => simp only [↓eA, eB, seval]
    | false =>
    simp only [↓eA, eB, seval]
    rw [loop_unfold_c (T := T) (k := 159002) rfl]
    simp only [↓eA, eB, seval, l159002, i32, i20, i21]
    cases h2 : decide (min a.z1 b.z1 ≤ max a.z0 b.z0) with
    | true => simp only [↓eA, eB, seval]
    | false =>
    simp only [↓eA, eB, seval]
    rw [loop_unfold_c (T := T) (k := 159002) rfl]
    simp only [↓eA, eB, seval, l159002])
def insideB (a b : Box) : Bool := !((decide (a.x0 < b.x0) || decide (b.x1 < a.x1)) || ((decide (a.y0 < b.y0) || decide (b.y1 < a.y1)) || (decide (a.z0 < b.z0) || decide (b.z1 < a.z1))))
theorem e_bInside (a b : Box) : L.call 150 [a.enc, b.enc] [] = some (.bool (insideB a b), []) :=
  call_eq rfl rfl (by
    simp only [↓eA, eB, seval, c150, e_bsides a, e_bsides b]
    unfold insideB
    rw [loop_unfold_c (T := T) (k := 150003) rfl]
    simp only [↓eA, eB, seval, l150003, i30, i20, i21]
    cases h0 : (decide (a.x0 < b.x0) || decide (b.x1 < a.x1)) with
    | true => simp only [↓eA, eB, seval]
    | false =>
    simp only [↓eA, eB, seval]
    rw [loop_unfold_c (T := T) (k := 150003) rfl]
    simp only [↓eA, eB, seval, l150003, i31, i20, i21]
    cases h1 : (decide (a.y0 < b.y0) || decide (b.y1 < a.y1)) with
    | true => simp only [↓eA, eB, seval]
    | false =>
    simp only [↓eA, eB, seval]
    rw [loop_unfold_c (T := T) (k := 150003) rfl]
    simp only [↓eA, eB, seval, l150003, i32, i20, i21]
    cases h2 : (decide (a.z0 < b.z0) || decide (b.z1 < a.z1)) with
    | true => simp only [↓eA, eB, seval]
    | false =>
    simp only [↓eA, eB, seval]
    rw [loop_unfold_c (T := T) (k := 150003) rfl]
    simp only [↓eA, eB, seval, l150003])
end Tz.C18
