/- Searches in lists; no conditions. -/
import Derived.Test.YthndcpffehneaaaGreatS1
set_option linter.unusedVariables false
set_option linter.unusedSimpArgs false
set_option linter.unusedSectionVars false
set_option linter.defProp false
set_option linter.deprecated false
set_option maxRecDepth 100000
open Gs Go
namespace Tz

/-! slices.IndexFunc, ContainsFunc. -/
theorem findIdx_any {α : Type} (p : α → Bool) (xs : List α) : (xs.any p = true → ∃ i : Nat, i < xs.length ∧ xs.findIdx? p = some i) ∧ (xs.any p = false → xs.findIdx? p = none) := by
  constructor
  · intro h
    cases hf : xs.findIdx? p with
    | none =>
      rw [List.findIdx?_eq_none_iff] at hf
      obtain ⟨x, hx, hp⟩ := List.any_eq_true.1 h
      rw [hf x hx] at hp; cases hp
    | some i => exact ⟨i, (List.findIdx?_eq_some_iff_getElem.1 hf).1, rfl⟩
  · intro h
    rw [List.findIdx?_eq_none_iff]
    intro x hx
    cases hp : p x with
    | false => rfl
    | true => rw [List.any_eq_true.2 ⟨x, hx, hp⟩] at h; cases h
/-- The first place at which a condition holds, or -1. -/
def idxOf {α : Type} (p : α → Bool) (xs : List α) : Int := match xs.findIdx? p with | some i => (i : Int) | none => -1
theorem idxOf_ge {α : Type} (p : α → Bool) (xs : List α) : decide (0 ≤ idxOf p xs) = xs.any p := by
  unfold idxOf
  cases h : xs.any p with
  | true => obtain ⟨i, _, hi⟩ := (findIdx_any p xs).1 h; rw [hi]; simp
  | false => rw [(findIdx_any p xs).2 h]; rfl
theorem thru_idx {α : Type} (p : α → Bool) : ∀ (xs : List α) (i : Nat), thru (R := Nat) (fun (i : Nat) x => bif p x then .inl i else .inr (i + 1)) xs i = match xs.findIdx? p with | some j => .inl (i + j) | none => .inr (i + xs.length)
  | [], i => rfl
  | x :: r, i => by
    simp only [thru, List.findIdx?_cons]
    cases p x with
    | true => rfl
    | false =>
      simp only [cond_false, thru_idx p r (i + 1), Bool.false_eq_true, if_false]
      cases r.findIdx? p with
      | none => simp only [Option.map_none, List.length_cons]; congr 1; omega
      | some j => simp only [Option.map_some]; congr 1; omega
set_option maxHeartbeats 400000 in
theorem lp_idx_int (p : Int → Bool) (g : Nat) (caps : List D) (nz : Bool) (xs : List Int) (hb : xs.length < 1000000000) (hc : closedL caps = true)
    (hp : ∀ x ∈ xs, L.call g (int x :: caps) [] = some (.bool (p x), [])) (e : Env) (h0 : Gs.get e 0 = .fz nz 1 (xs.map int)) (h1 : Gs.get e 1 = .fn g caps) (h7 : Gs.get e 7 = int xs.length) (h8 : Gs.get e 8 = int 0) :
    Ends T 217002 e [] (fun X e' H' => H' = [] ∧ match xs.findIdx? p with | some i => X = .ret ∧ Gs.get e' 4 = int i | none => X = .ex 0) := by
  refine (loop_thru (T := T) (key := 217002) (li := l217002) rfl (R := Nat) (fun (i : Nat) x => bif p x then .inl i else .inr (i + 1)) xs (fun i j e H => H = [] ∧ j = i ∧ Gs.get e 0 = .fz nz 1 (xs.map int) ∧ Gs.get e 1 = .fn g caps ∧ Gs.get e 7 = int xs.length ∧ Gs.get e 8 = int i) (fun i X e' H' => H' = [] ∧ X = .ret ∧ Gs.get e' 4 = int i) (fun _ X e' H' => H' = [] ∧ X = .ex 0) ?_ ?_ ?_ xs [] 0 e [] rfl ⟨rfl, rfl, h0, h1, h7, h8⟩).mono ?_
  · rintro i x j j' e H hi ⟨rfl, hji, h0, h1, h7, h8⟩ hf
    have hij := hji.symm; subst hij
    have hlt : i < xs.length := (List.getElem?_eq_some_iff.1 hi).1
    have hp' := hp x (List.mem_of_getElem? hi)
    have hpf : p x = false := by cases h : p x <;> simp_all
    have hj : j' = i + 1 := by simp [hpf] at hf; exact hf.symm
    subst hj
    have hxi : (xs.map int)[i]? = some (int x) := by simp [hi]
    rw [hpf] at hp'
    simp only [↓eA, eB, seval, l217002, h0, h1, h7, h8, hlt, hxi, hp', renL_closed hc, wrap_succ (show i < 4611686018427387904 by omega)]
    exact ⟨trivial, trivial, trivial, trivial, trivial, trivial, trivial⟩
  · rintro i x j r e H hi ⟨rfl, hji, h0, h1, h7, h8⟩ hf
    have hij := hji.symm; subst hij
    have hlt : i < xs.length := (List.getElem?_eq_some_iff.1 hi).1
    have hp' := hp x (List.mem_of_getElem? hi)
    have hpf : p x = true := by cases h : p x <;> simp_all
    have hj : r = i := by simp [hpf] at hf; exact hf.symm
    subst hj
    have hxi : (xs.map int)[r]? = some (int x) := by simp [hi]
    rw [hpf] at hp'
    simp only [↓eA, eB, seval, l217002, h0, h1, h7, h8, hlt, hxi, hp', renL_closed hc]
    exact ⟨trivial, trivial, trivial, trivial⟩
  · rintro j e H ⟨rfl, rfl, h0, h1, h7, h8⟩
    simp only [↓eA, eB, seval, l217002, h0, h1, h7, h8, Nat.lt_irrefl]
    exact ⟨trivial, trivial, trivial⟩
  · intro X e' H' h
    rw [thru_idx] at h
    cases hf : xs.findIdx? p with
    | none => rw [hf] at h; exact h
    | some i => rw [hf] at h; simpa using h
theorem e_idx_int (p : Int → Bool) (g : Nat) (caps : List D) (nz : Bool) (xs : List Int) (hb : xs.length < 1000000000) (hc : closedL caps = true)
    (hp : ∀ x ∈ xs, L.call g (int x :: caps) [] = some (.bool (p x), [])) : L.call 217 [.fz nz 1 (xs.map int), .fn g caps] [] = some (int (idxOf p xs), []) :=
  call_eq rfl rfl (by
    simp only [↓eA, eB, seval, c217]
    obtain ⟨X, e', H', h, rfl, h2⟩ := lp_idx_int p g caps nz xs hb hc hp [(0, .fz nz 1 (xs.map int)), (1, .fn g caps), (4, int 0), (6, .fz nz 1 (xs.map int)), (7, int xs.length), (8, int 0)] rfl rfl rfl rfl
    rw [h]
    unfold idxOf
    cases hf : xs.findIdx? p with
    | none => rw [hf] at h2; subst h2; simp only [↓eA, eB, seval]
    | some i => rw [hf] at h2; obtain ⟨rfl, h4⟩ := h2; simp only [↓eA, eB, seval, h4])
theorem e_con_int (p : Int → Bool) (g : Nat) (caps : List D) (nz : Bool) (xs : List Int) (hb : xs.length < 1000000000) (hc : closedL caps = true)
    (hp : ∀ x ∈ xs, L.call g (int x :: caps) [] = some (.bool (p x), [])) : L.call 179 [.fz nz 1 (xs.map int), .fn g caps] [] = some (.bool (xs.any p), []) :=
  call_eq rfl rfl (by
    simp only [↓eA, eB, seval, c179, renL_closed hc, e_idx_int p g caps nz xs hb hc hp, idxOf_ge])
set_option maxHeartbeats 400000 in
theorem lp_idx_str (p : ByteArray → Bool) (g : Nat) (caps : List D) (nz : Bool) (xs : List ByteArray) (hb : xs.length < 1000000000) (hc : closedL caps = true)
    (hp : ∀ x ∈ xs, L.call g (D.str x :: caps) [] = some (.bool (p x), [])) (e : Env) (h0 : Gs.get e 0 = .fz nz 1 (xs.map D.str)) (h1 : Gs.get e 1 = .fn g caps) (h7 : Gs.get e 7 = int xs.length) (h8 : Gs.get e 8 = int 0) :
    Ends T 181002 e [] (fun X e' H' => H' = [] ∧ match xs.findIdx? p with | some i => X = .ret ∧ Gs.get e' 4 = int i | none => X = .ex 0) := by
  refine (loop_thru (T := T) (key := 181002) (li := l181002) rfl (R := Nat) (fun (i : Nat) x => bif p x then .inl i else .inr (i + 1)) xs (fun i j e H => H = [] ∧ j = i ∧ Gs.get e 0 = .fz nz 1 (xs.map D.str) ∧ Gs.get e 1 = .fn g caps ∧ Gs.get e 7 = int xs.length ∧ Gs.get e 8 = int i) (fun i X e' H' => H' = [] ∧ X = .ret ∧ Gs.get e' 4 = int i) (fun _ X e' H' => H' = [] ∧ X = .ex 0) ?_ ?_ ?_ xs [] 0 e [] rfl ⟨rfl, rfl, h0, h1, h7, h8⟩).mono ?_
  · rintro i x j j' e H hi ⟨rfl, hji, h0, h1, h7, h8⟩ hf
    have hij := hji.symm; subst hij
    have hlt : i < xs.length := (List.getElem?_eq_some_iff.1 hi).1
    have hp' := hp x (List.mem_of_getElem? hi)
    have hpf : p x = false := by cases h : p x <;> simp_all
    have hj : j' = i + 1 := by simp [hpf] at hf; exact hf.symm
    subst hj
    have hxi : (xs.map D.str)[i]? = some (D.str x) := by simp [hi]
    rw [hpf] at hp'
    simp only [↓eA, eB, seval, l181002, h0, h1, h7, h8, hlt, hxi, hp', renL_closed hc, wrap_succ (show i < 4611686018427387904 by omega)]
    exact ⟨trivial, trivial, trivial, trivial, trivial, trivial, trivial⟩
  · rintro i x j r e H hi ⟨rfl, hji, h0, h1, h7, h8⟩ hf
    have hij := hji.symm; subst hij
    have hlt : i < xs.length := (List.getElem?_eq_some_iff.1 hi).1
    have hp' := hp x (List.mem_of_getElem? hi)
    have hpf : p x = true := by cases h : p x <;> simp_all
    have hj : r = i := by simp [hpf] at hf; exact hf.symm
    subst hj
    have hxi : (xs.map D.str)[r]? = some (D.str x) := by simp [hi]
    rw [hpf] at hp'
    simp only [↓eA, eB, seval, l181002, h0, h1, h7, h8, hlt, hxi, hp', renL_closed hc]
    exact ⟨trivial, trivial, trivial, trivial⟩
  · rintro j e H ⟨rfl, rfl, h0, h1, h7, h8⟩
    simp only [↓eA, eB, seval, l181002, h0, h1, h7, h8, Nat.lt_irrefl]
    exact ⟨trivial, trivial, trivial⟩
  · intro X e' H' h
    rw [thru_idx] at h
    cases hf : xs.findIdx? p with
    | none => rw [hf] at h; exact h
    | some i => rw [hf] at h; simpa using h
theorem e_idx_str (p : ByteArray → Bool) (g : Nat) (caps : List D) (nz : Bool) (xs : List ByteArray) (hb : xs.length < 1000000000) (hc : closedL caps = true)
    (hp : ∀ x ∈ xs, L.call g (D.str x :: caps) [] = some (.bool (p x), [])) : L.call 181 [.fz nz 1 (xs.map D.str), .fn g caps] [] = some (int (idxOf p xs), []) :=
  call_eq rfl rfl (by
    simp only [↓eA, eB, seval, c181]
    obtain ⟨X, e', H', h, rfl, h2⟩ := lp_idx_str p g caps nz xs hb hc hp [(0, .fz nz 1 (xs.map D.str)), (1, .fn g caps), (4, int 0), (6, .fz nz 1 (xs.map D.str)), (7, int xs.length), (8, int 0)] rfl rfl rfl rfl
    rw [h]
    unfold idxOf
    cases hf : xs.findIdx? p with
    | none => rw [hf] at h2; subst h2; simp only [↓eA, eB, seval]
    | some i => rw [hf] at h2; obtain ⟨rfl, h4⟩ := h2; simp only [↓eA, eB, seval, h4])
theorem e_con_str (p : ByteArray → Bool) (g : Nat) (caps : List D) (nz : Bool) (xs : List ByteArray) (hb : xs.length < 1000000000) (hc : closedL caps = true)
    (hp : ∀ x ∈ xs, L.call g (D.str x :: caps) [] = some (.bool (p x), [])) : L.call 125 [.fz nz 1 (xs.map D.str), .fn g caps] [] = some (.bool (xs.any p), []) :=
  call_eq rfl rfl (by
    simp only [↓eA, eB, seval, c125, renL_closed hc, e_idx_str p g caps nz xs hb hc hp, idxOf_ge])
set_option maxHeartbeats 400000 in
theorem lp_idx_joint (p : Joint → Bool) (g : Nat) (caps : List D) (nz : Bool) (xs : List Joint) (hb : xs.length < 1000000000) (hc : closedL caps = true)
    (hp : ∀ x ∈ xs, L.call g (Joint.enc x :: caps) [] = some (.bool (p x), [])) (e : Env) (h0 : Gs.get e 0 = .fz nz 5 (xs.map Joint.enc)) (h1 : Gs.get e 1 = .fn g caps) (h7 : Gs.get e 7 = int xs.length) (h8 : Gs.get e 8 = int 0) :
    Ends T 185002 e [] (fun X e' H' => H' = [] ∧ match xs.findIdx? p with | some i => X = .ret ∧ Gs.get e' 4 = int i | none => X = .ex 0) := by
  refine (loop_thru (T := T) (key := 185002) (li := l185002) rfl (R := Nat) (fun (i : Nat) x => bif p x then .inl i else .inr (i + 1)) xs (fun i j e H => H = [] ∧ j = i ∧ Gs.get e 0 = .fz nz 5 (xs.map Joint.enc) ∧ Gs.get e 1 = .fn g caps ∧ Gs.get e 7 = int xs.length ∧ Gs.get e 8 = int i) (fun i X e' H' => H' = [] ∧ X = .ret ∧ Gs.get e' 4 = int i) (fun _ X e' H' => H' = [] ∧ X = .ex 0) ?_ ?_ ?_ xs [] 0 e [] rfl ⟨rfl, rfl, h0, h1, h7, h8⟩).mono ?_
  · rintro i x j j' e H hi ⟨rfl, hji, h0, h1, h7, h8⟩ hf
    have hij := hji.symm; subst hij
    have hlt : i < xs.length := (List.getElem?_eq_some_iff.1 hi).1
    have hp' := hp x (List.mem_of_getElem? hi)
    have hpf : p x = false := by cases h : p x <;> simp_all
    have hj : j' = i + 1 := by simp [hpf] at hf; exact hf.symm
    subst hj
    have hxi : (xs.map Joint.enc)[i]? = some (Joint.enc x) := by simp [hi]
    rw [hpf] at hp'
    simp only [↓eA, eB, seval, l185002, h0, h1, h7, h8, hlt, hxi, hp', renL_closed hc, wrap_succ (show i < 4611686018427387904 by omega)]
    exact ⟨trivial, trivial, trivial, trivial, trivial, trivial, trivial⟩
  · rintro i x j r e H hi ⟨rfl, hji, h0, h1, h7, h8⟩ hf
    have hij := hji.symm; subst hij
    have hlt : i < xs.length := (List.getElem?_eq_some_iff.1 hi).1
    have hp' := hp x (List.mem_of_getElem? hi)
    have hpf : p x = true := by cases h : p x <;> simp_all
    have hj : r = i := by simp [hpf] at hf; exact hf.symm
    subst hj
    have hxi : (xs.map Joint.enc)[r]? = some (Joint.enc x) := by simp [hi]
    rw [hpf] at hp'
    simp only [↓eA, eB, seval, l185002, h0, h1, h7, h8, hlt, hxi, hp', renL_closed hc]
    exact ⟨trivial, trivial, trivial, trivial⟩
  · rintro j e H ⟨rfl, rfl, h0, h1, h7, h8⟩
    simp only [↓eA, eB, seval, l185002, h0, h1, h7, h8, Nat.lt_irrefl]
    exact ⟨trivial, trivial, trivial⟩
  · intro X e' H' h
    rw [thru_idx] at h
    cases hf : xs.findIdx? p with
    | none => rw [hf] at h; exact h
    | some i => rw [hf] at h; simpa using h
theorem e_idx_joint (p : Joint → Bool) (g : Nat) (caps : List D) (nz : Bool) (xs : List Joint) (hb : xs.length < 1000000000) (hc : closedL caps = true)
    (hp : ∀ x ∈ xs, L.call g (Joint.enc x :: caps) [] = some (.bool (p x), [])) : L.call 185 [.fz nz 5 (xs.map Joint.enc), .fn g caps] [] = some (int (idxOf p xs), []) :=
  call_eq rfl rfl (by
    simp only [↓eA, eB, seval, c185]
    obtain ⟨X, e', H', h, rfl, h2⟩ := lp_idx_joint p g caps nz xs hb hc hp [(0, .fz nz 5 (xs.map Joint.enc)), (1, .fn g caps), (4, int 0), (6, .fz nz 5 (xs.map Joint.enc)), (7, int xs.length), (8, int 0)] rfl rfl rfl rfl
    rw [h]
    unfold idxOf
    cases hf : xs.findIdx? p with
    | none => rw [hf] at h2; subst h2; simp only [↓eA, eB, seval]
    | some i => rw [hf] at h2; obtain ⟨rfl, h4⟩ := h2; simp only [↓eA, eB, seval, h4])
theorem e_con_joint (p : Joint → Bool) (g : Nat) (caps : List D) (nz : Bool) (xs : List Joint) (hb : xs.length < 1000000000) (hc : closedL caps = true)
    (hp : ∀ x ∈ xs, L.call g (Joint.enc x :: caps) [] = some (.bool (p x), [])) : L.call 129 [.fz nz 5 (xs.map Joint.enc), .fn g caps] [] = some (.bool (xs.any p), []) :=
  call_eq rfl rfl (by
    simp only [↓eA, eB, seval, c129, renL_closed hc, e_idx_joint p g caps nz xs hb hc hp, idxOf_ge])
set_option maxHeartbeats 400000 in
theorem lp_idx_flaw (p : Flaw → Bool) (g : Nat) (caps : List D) (nz : Bool) (xs : List Flaw) (hb : xs.length < 1000000000) (hc : closedL caps = true)
    (hp : ∀ x ∈ xs, L.call g (Flaw.enc x :: caps) [] = some (.bool (p x), [])) (e : Env) (h0 : Gs.get e 0 = .fz nz 4 (xs.map Flaw.enc)) (h1 : Gs.get e 1 = .fn g caps) (h7 : Gs.get e 7 = int xs.length) (h8 : Gs.get e 8 = int 0) :
    Ends T 186002 e [] (fun X e' H' => H' = [] ∧ match xs.findIdx? p with | some i => X = .ret ∧ Gs.get e' 4 = int i | none => X = .ex 0) := by
  refine (loop_thru (T := T) (key := 186002) (li := l186002) rfl (R := Nat) (fun (i : Nat) x => bif p x then .inl i else .inr (i + 1)) xs (fun i j e H => H = [] ∧ j = i ∧ Gs.get e 0 = .fz nz 4 (xs.map Flaw.enc) ∧ Gs.get e 1 = .fn g caps ∧ Gs.get e 7 = int xs.length ∧ Gs.get e 8 = int i) (fun i X e' H' => H' = [] ∧ X = .ret ∧ Gs.get e' 4 = int i) (fun _ X e' H' => H' = [] ∧ X = .ex 0) ?_ ?_ ?_ xs [] 0 e [] rfl ⟨rfl, rfl, h0, h1, h7, h8⟩).mono ?_
  · rintro i x j j' e H hi ⟨rfl, hji, h0, h1, h7, h8⟩ hf
    have hij := hji.symm; subst hij
    have hlt : i < xs.length := (List.getElem?_eq_some_iff.1 hi).1
    have hp' := hp x (List.mem_of_getElem? hi)
    have hpf : p x = false := by cases h : p x <;> simp_all
    have hj : j' = i + 1 := by simp [hpf] at hf; exact hf.symm
    subst hj
    have hxi : (xs.map Flaw.enc)[i]? = some (Flaw.enc x) := by simp [hi]
    rw [hpf] at hp'
    simp only [↓eA, eB, seval, l186002, h0, h1, h7, h8, hlt, hxi, hp', renL_closed hc, wrap_succ (show i < 4611686018427387904 by omega)]
    exact ⟨trivial, trivial, trivial, trivial, trivial, trivial, trivial⟩
  · rintro i x j r e H hi ⟨rfl, hji, h0, h1, h7, h8⟩ hf
    have hij := hji.symm; subst hij
    have hlt : i < xs.length := (List.getElem?_eq_some_iff.1 hi).1
    have hp' := hp x (List.mem_of_getElem? hi)
    have hpf : p x = true := by cases h : p x <;> simp_all
    have hj : r = i := by simp [hpf] at hf; exact hf.symm
    subst hj
    have hxi : (xs.map Flaw.enc)[r]? = some (Flaw.enc x) := by simp [hi]
    rw [hpf] at hp'
    simp only [↓eA, eB, seval, l186002, h0, h1, h7, h8, hlt, hxi, hp', renL_closed hc]
    exact ⟨trivial, trivial, trivial, trivial⟩
  · rintro j e H ⟨rfl, rfl, h0, h1, h7, h8⟩
    simp only [↓eA, eB, seval, l186002, h0, h1, h7, h8, Nat.lt_irrefl]
    exact ⟨trivial, trivial, trivial⟩
  · intro X e' H' h
    rw [thru_idx] at h
    cases hf : xs.findIdx? p with
    | none => rw [hf] at h; exact h
    | some i => rw [hf] at h; simpa using h
theorem e_idx_flaw (p : Flaw → Bool) (g : Nat) (caps : List D) (nz : Bool) (xs : List Flaw) (hb : xs.length < 1000000000) (hc : closedL caps = true)
    (hp : ∀ x ∈ xs, L.call g (Flaw.enc x :: caps) [] = some (.bool (p x), [])) : L.call 186 [.fz nz 4 (xs.map Flaw.enc), .fn g caps] [] = some (int (idxOf p xs), []) :=
  call_eq rfl rfl (by
    simp only [↓eA, eB, seval, c186]
    obtain ⟨X, e', H', h, rfl, h2⟩ := lp_idx_flaw p g caps nz xs hb hc hp [(0, .fz nz 4 (xs.map Flaw.enc)), (1, .fn g caps), (4, int 0), (6, .fz nz 4 (xs.map Flaw.enc)), (7, int xs.length), (8, int 0)] rfl rfl rfl rfl
    rw [h]
    unfold idxOf
    cases hf : xs.findIdx? p with
    | none => rw [hf] at h2; subst h2; simp only [↓eA, eB, seval]
    | some i => rw [hf] at h2; obtain ⟨rfl, h4⟩ := h2; simp only [↓eA, eB, seval, h4])
theorem e_con_flaw (p : Flaw → Bool) (g : Nat) (caps : List D) (nz : Bool) (xs : List Flaw) (hb : xs.length < 1000000000) (hc : closedL caps = true)
    (hp : ∀ x ∈ xs, L.call g (Flaw.enc x :: caps) [] = some (.bool (p x), [])) : L.call 131 [.fz nz 4 (xs.map Flaw.enc), .fn g caps] [] = some (.bool (xs.any p), []) :=
  call_eq rfl rfl (by
    simp only [↓eA, eB, seval, c131, renL_closed hc, e_idx_flaw p g caps nz xs hb hc hp, idxOf_ge])
set_option maxHeartbeats 400000 in
theorem lp_idx_bed (p : Bed → Bool) (g : Nat) (caps : List D) (nz : Bool) (xs : List Bed) (hb : xs.length < 1000000000) (hc : closedL caps = true)
    (hp : ∀ x ∈ xs, L.call g (Bed.enc x :: caps) [] = some (.bool (p x), [])) (e : Env) (h0 : Gs.get e 0 = .fz nz 2 (xs.map Bed.enc)) (h1 : Gs.get e 1 = .fn g caps) (h7 : Gs.get e 7 = int xs.length) (h8 : Gs.get e 8 = int 0) :
    Ends T 164002 e [] (fun X e' H' => H' = [] ∧ match xs.findIdx? p with | some i => X = .ret ∧ Gs.get e' 4 = int i | none => X = .ex 0) := by
  refine (loop_thru (T := T) (key := 164002) (li := l164002) rfl (R := Nat) (fun (i : Nat) x => bif p x then .inl i else .inr (i + 1)) xs (fun i j e H => H = [] ∧ j = i ∧ Gs.get e 0 = .fz nz 2 (xs.map Bed.enc) ∧ Gs.get e 1 = .fn g caps ∧ Gs.get e 7 = int xs.length ∧ Gs.get e 8 = int i) (fun i X e' H' => H' = [] ∧ X = .ret ∧ Gs.get e' 4 = int i) (fun _ X e' H' => H' = [] ∧ X = .ex 0) ?_ ?_ ?_ xs [] 0 e [] rfl ⟨rfl, rfl, h0, h1, h7, h8⟩).mono ?_
  · rintro i x j j' e H hi ⟨rfl, hji, h0, h1, h7, h8⟩ hf
    have hij := hji.symm; subst hij
    have hlt : i < xs.length := (List.getElem?_eq_some_iff.1 hi).1
    have hp' := hp x (List.mem_of_getElem? hi)
    have hpf : p x = false := by cases h : p x <;> simp_all
    have hj : j' = i + 1 := by simp [hpf] at hf; exact hf.symm
    subst hj
    have hxi : (xs.map Bed.enc)[i]? = some (Bed.enc x) := by simp [hi]
    rw [hpf] at hp'
    simp only [↓eA, eB, seval, l164002, h0, h1, h7, h8, hlt, hxi, hp', renL_closed hc, wrap_succ (show i < 4611686018427387904 by omega)]
    exact ⟨trivial, trivial, trivial, trivial, trivial, trivial, trivial⟩
  · rintro i x j r e H hi ⟨rfl, hji, h0, h1, h7, h8⟩ hf
    have hij := hji.symm; subst hij
    have hlt : i < xs.length := (List.getElem?_eq_some_iff.1 hi).1
    have hp' := hp x (List.mem_of_getElem? hi)
    have hpf : p x = true := by cases h : p x <;> simp_all
    have hj : r = i := by simp [hpf] at hf; exact hf.symm
    subst hj
    have hxi : (xs.map Bed.enc)[r]? = some (Bed.enc x) := by simp [hi]
    rw [hpf] at hp'
    simp only [↓eA, eB, seval, l164002, h0, h1, h7, h8, hlt, hxi, hp', renL_closed hc]
    exact ⟨trivial, trivial, trivial, trivial⟩
  · rintro j e H ⟨rfl, rfl, h0, h1, h7, h8⟩
    simp only [↓eA, eB, seval, l164002, h0, h1, h7, h8, Nat.lt_irrefl]
    exact ⟨trivial, trivial, trivial⟩
  · intro X e' H' h
    rw [thru_idx] at h
    cases hf : xs.findIdx? p with
    | none => rw [hf] at h; exact h
    | some i => rw [hf] at h; simpa using h
theorem e_idx_bed (p : Bed → Bool) (g : Nat) (caps : List D) (nz : Bool) (xs : List Bed) (hb : xs.length < 1000000000) (hc : closedL caps = true)
    (hp : ∀ x ∈ xs, L.call g (Bed.enc x :: caps) [] = some (.bool (p x), [])) : L.call 164 [.fz nz 2 (xs.map Bed.enc), .fn g caps] [] = some (int (idxOf p xs), []) :=
  call_eq rfl rfl (by
    simp only [↓eA, eB, seval, c164]
    obtain ⟨X, e', H', h, rfl, h2⟩ := lp_idx_bed p g caps nz xs hb hc hp [(0, .fz nz 2 (xs.map Bed.enc)), (1, .fn g caps), (4, int 0), (6, .fz nz 2 (xs.map Bed.enc)), (7, int xs.length), (8, int 0)] rfl rfl rfl rfl
    rw [h]
    unfold idxOf
    cases hf : xs.findIdx? p with
    | none => rw [hf] at h2; subst h2; simp only [↓eA, eB, seval]
    | some i => rw [hf] at h2; obtain ⟨rfl, h4⟩ := h2; simp only [↓eA, eB, seval, h4])
theorem e_con_bed (p : Bed → Bool) (g : Nat) (caps : List D) (nz : Bool) (xs : List Bed) (hb : xs.length < 1000000000) (hc : closedL caps = true)
    (hp : ∀ x ∈ xs, L.call g (Bed.enc x :: caps) [] = some (.bool (p x), [])) : L.call 96 [.fz nz 2 (xs.map Bed.enc), .fn g caps] [] = some (.bool (xs.any p), []) :=
  call_eq rfl rfl (by
    simp only [↓eA, eB, seval, c96, renL_closed hc, e_idx_bed p g caps nz xs hb hc hp, idxOf_ge])
end Tz
