/- Small sites; no conditions. -/
import Derived.Test.YthndcpffehneaaaGreatS77
import Derived.Test.YthndcpffehneaaaGreatS17
set_option linter.unusedVariables false
set_option linter.unusedSimpArgs false
set_option linter.unusedSectionVars false
set_option linter.defProp false
set_option linter.deprecated false
set_option maxRecDepth 100000
open Gs Go
namespace Tz.C18
/-! Small sites. -/
def sizeOver (s : Survey) : Bool := decide (70 < (s.beds.length : Int)) || decide (140 < (s.joints.length : Int)) || decide (70 < (s.flaws.length : Int))
theorem e_small_over (s : Survey) (h : sizeOver s = true) : L.call 66 [s.enc] [] = some (.bool false, []) :=
  call_eq rfl rfl (by
    have h' := h
    simp only [sizeOver] at h'
    simp only [↓eA, eB, seval, c66, h']
    skip)
theorem small_fit {s : Survey} (h0 : sizeOver s = false) (h : smallB s = true) : s.Fit := by
  simp only [sizeOver, Bool.or_eq_false_iff, decide_eq_false_iff_not] at h0
  unfold smallB at h
  simp only [Bool.and_eq_true, Bool.not_eq_true'] at h
  obtain ⟨_, h1, h2⟩ := h
  refine ⟨⟨by omega, by omega, by omega⟩, fun f hf => ?_, fun n hn => ?_⟩
  · have := List.any_eq_false.1 h1 f hf
    simp only [smallF, decide_eq_true_eq] at this
    omega
  · have := List.any_eq_false.1 h2 n hn
    simp only [decide_eq_true_eq] at this
    omega
theorem small13 (s : Survey) : ∃ v, L.call 66 [s.enc] [] = some (.bool v, []) ∧ (v = true → s.Fit) := by
  cases h0 : sizeOver s with
  | true => exact ⟨false, e_small_over s h0, fun h => by cases h⟩
  | false =>
    have h1 := h0
    simp only [sizeOver, Bool.or_eq_false_iff, decide_eq_false_iff_not] at h1
    exact ⟨_, e_small s ⟨by omega, by omega, by omega⟩, fun h => small_fit h0 h⟩
def longE (b : Bench) : Bool := decide (100 < (b.name.size : Int))
def longK (b : Block) : Bool := decide (100 < (b.name.size : Int))
theorem lp_sm1 (s : Site) (hb : s.benches.length < 1000000) (e : Env) (H : Heap) (h1 : Gs.get e 1 = .ptr 1 0) (hi : Gs.get e 3 = int 0) (hH : hget H 1 = some (.box s.cells false)) :
    Ends T 45004 e H (fun X e' H' => match s.benches.any longE with | true => X = .ret ∧ Gs.get e' 2 = .bool false | false => X = .ex 0 ∧ Gs.get e' 1 = .ptr 1 0 ∧ H' = Hst s) := by
  refine (loop_anyH (T := T) (key := 45004) (li := l45004) rfl s.benches longE (fun i e H => Gs.get e 1 = .ptr 1 0 ∧ Gs.get e 3 = int i ∧ hget H 1 = some (.box s.cells false))
    (fun X e' H' => X = .ret ∧ Gs.get e' 2 = .bool false) (fun X e' H' => X = .ex 0 ∧ Gs.get e' 1 = .ptr 1 0 ∧ H' = Hst s) ?_ ?_ e H ⟨h1, hi, hH⟩).mono fun X e' H' h => by cases hf : s.benches.any longE <;> rw [hf] at h <;> exact h
  · rintro i b e H hx hi ⟨h1, h3, hH⟩
    have hx' : (s.benches.map Bench.enc)[i]? = some b.enc := by simp [hx]
    cases hp : longE b <;> unfold longE at hp <;> simp only [↓eA, eB, seval, l45004, h1, h3, hH, hi, hx', hp, wrap_succ (show i < 4611686018427387904 by omega)] <;> and_intros <;> first | trivial | rfl
  · rintro e H ⟨h1, h3, hH⟩
    simp only [↓eA, eB, seval, l45004, h1, h3, hH, Nat.lt_irrefl]
    and_intros <;> first | trivial | rfl
theorem lp_sm2 (s : Site) (hb : s.blocks.length < 1000000) (e : Env) (H : Heap) (h1 : Gs.get e 1 = .ptr 1 0) (hi : Gs.get e 4 = int 0) (hH : hget H 1 = some (.box s.cells false)) :
    Ends T 45009 e H (fun X e' H' => match s.blocks.any longK with | true => X = .ret ∧ Gs.get e' 2 = .bool false | false => X = .ex 2 ∧ Gs.get e' 1 = .ptr 1 0 ∧ H' = Hst s) := by
  refine (loop_anyH (T := T) (key := 45009) (li := l45009) rfl s.blocks longK (fun i e H => Gs.get e 1 = .ptr 1 0 ∧ Gs.get e 4 = int i ∧ hget H 1 = some (.box s.cells false))
    (fun X e' H' => X = .ret ∧ Gs.get e' 2 = .bool false) (fun X e' H' => X = .ex 2 ∧ Gs.get e' 1 = .ptr 1 0 ∧ H' = Hst s) ?_ ?_ e H ⟨h1, hi, hH⟩).mono fun X e' H' h => by cases hf : s.blocks.any longK <;> rw [hf] at h <;> exact h
  · rintro i b e H hx hi ⟨h1, h3, hH⟩
    have hx' : (s.blocks.map Block.enc)[i]? = some b.enc := by simp [hx]
    cases hp : longK b <;> unfold longK at hp <;> simp only [↓eA, eB, seval, l45009, h1, h3, hH, hi, hx', hp, wrap_succ (show i < 4611686018427387904 by omega)] <;> and_intros <;> first | trivial | rfl
  · rintro e H ⟨h1, h3, hH⟩
    simp only [↓eA, eB, seval, l45009, h1, h3, hH, Nat.lt_irrefl]
    and_intros <;> first | trivial | rfl
theorem small17 (s : Site) : ∃ v, L.call 45 [s.enc] [] = some (.bool v, []) ∧ (v = true → s.Fit) := by
  obtain ⟨w, e1, hw⟩ := small13 s.survey
  cases hg : (((!w || decide (40 < (s.benches.length : Int))) || (decide (16 < (s.blocks.length : Int)) && decide ((s.blocks.length : Int) ≤ 256))) || decide (260 < (s.blocks.length : Int))) with
  | true => exact ⟨false, call_eq rfl rfl (by simp only [↓eA, eB, seval, c45, e1, hg, List.length_map]), fun h => by cases h⟩
  | false =>
  have hg' := hg
  simp only [Bool.or_eq_false_iff, decide_eq_false_iff_not, Bool.not_eq_false'] at hg'
  obtain ⟨⟨⟨g1, g2⟩, _⟩, g3⟩ := hg'
  refine ⟨!s.benches.any longE && !s.blocks.any longK, call_eq rfl rfl ?_, fun h => ?_⟩
  · simp only [↓eA, eB, seval, c45, e1, hg, List.length_map]
    generalize hE : (lim T).loop 45004 _ _ = R
    obtain ⟨X, e', H', rfl, hp⟩ := Ends.at hE (lp_sm1 s (by omega) _ _ (by simp only [↓eA, eB, seval]) (by simp only [↓eA, eB, seval]) rfl)
    cases ha : s.benches.any longE with
    | true => rw [ha] at hp; obtain ⟨rfl, g2⟩ := hp; simp only [↓eA, eB, seval, g2]
    | false =>
    rw [ha] at hp
    obtain ⟨rfl, q1, rfl⟩ := hp
    simp only [↓eA, eB, seval, q1]
    generalize hE : (lim T).loop 45009 _ _ = R
    obtain ⟨X, e', H', rfl, hp⟩ := Ends.at hE (lp_sm2 s (by omega) _ _ (by simp only [↓eA, eB, seval, q1]) (by simp only [↓eA, eB, seval]) rfl)
    cases hk : s.blocks.any longK with
    | true => rw [hk] at hp; obtain ⟨rfl, g2⟩ := hp; simp only [↓eA, eB, seval, g2]
    | false => rw [hk] at hp; obtain ⟨rfl, q1, rfl⟩ := hp; simp only [↓eA, eB, seval, q1]
  · simp only [Bool.and_eq_true, Bool.not_eq_true'] at h
    refine ⟨hw g1, by omega, by omega, fun b hb => ?_, fun b hb => ?_⟩
    · have := List.any_eq_false.1 h.2 b hb
      simp only [longK, decide_eq_true_eq] at this
      omega
    · have := List.any_eq_false.1 h.1 b hb
      simp only [longE, decide_eq_true_eq] at this
      omega
theorem small18 (s : Site) (nz : Bool) (tk : List ByteArray) : ∃ v, L.call 19 [s.enc, .fz nz 1 (tk.map .str)] [] = some (.bool v, []) ∧ (v = true → s.Fit ∧ tk.length ≤ 20) := by
  obtain ⟨w, e1, hw⟩ := small17 s
  refine ⟨(w && (decide ((s.blocks.length : Int) ≤ 12) || decide (256 < (s.blocks.length : Int)))) && decide ((tk.length : Int) ≤ 20), call_eq rfl rfl (by simp only [↓eA, eB, seval, c19, e1, List.length_map]), fun h => ?_⟩
  simp only [Bool.and_eq_true, decide_eq_true_eq] at h
  exact ⟨hw h.1.1, by omega⟩
/-! has -/
end Tz.C18
