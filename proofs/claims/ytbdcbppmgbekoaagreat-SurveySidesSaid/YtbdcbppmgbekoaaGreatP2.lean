/- The form of the reference is normal; no conditions. -/
import Derived.Test.YtbdcbppmgbekoaaGreatP1
set_option linter.unusedVariables false
set_option linter.unusedSimpArgs false
set_option linter.unusedSectionVars false
set_option linter.defProp false
set_option linter.deprecated false
open Gs Go
namespace Tz
theorem at0_eq {es : List Int} {i : Nat} (h : i < es.length) : at0 es i = es[i] := by simp [at0, List.getElem?_eq_getElem h]
/-- Between two ends next to each other nothing turns. -/
theorem any_flat {es : List Int} (hs : es.Pairwise (· < ·)) {l : List (Int × Int)} (hm : ∀ p ∈ l, p.1 ∈ es ∧ p.2 + 1 ∈ es) {i : Nat} (hi : i + 1 < es.length) {n : Int} (h1 : at0 es i ≤ n) (h2 : n < at0 es (i + 1)) : l.any (hasIv n) = l.any (hasIv (at0 es i)) := by
  have hi0 : i < es.length := by omega
  rw [at0_eq hi0] at *
  rw [at0_eq hi] at *
  have mono := List.pairwise_iff_getElem.1 hs
  rw [Bool.eq_iff_iff, pts_any, pts_any]
  constructor
  · rintro ⟨p, hp, h3, h4⟩
    obtain ⟨j, hj, hg⟩ := List.mem_iff_getElem.1 (hm p hp).1
    refine ⟨p, hp, ?_, by omega⟩
    by_cases hji : j ≤ i
    · rcases Nat.lt_or_eq_of_le hji with hlt | rfl
      · have := mono j i hj hi0 hlt; omega
      · omega
    · rcases Nat.lt_or_eq_of_le (show i + 1 ≤ j by omega) with hlt | rfl
      · have := mono (i + 1) j hi hj hlt; omega
      · omega
  · rintro ⟨p, hp, h3, h4⟩
    obtain ⟨j, hj, hg⟩ := List.mem_iff_getElem.1 (hm p hp).2
    refine ⟨p, hp, by omega, ?_⟩
    by_cases hji : j ≤ i
    · rcases Nat.lt_or_eq_of_le hji with hlt | rfl
      · have := mono j i hj hi0 hlt; omega
      · omega
    · rcases Nat.lt_or_eq_of_le (show i + 1 ≤ j by omega) with hlt | rfl
      · have := mono (i + 1) j hi hj hlt; omega
      · omega
theorem fput_norm {acc : List (Int × Int)} {lo nx : Int} (ha : Norm acc) (hlt : lo < nx) (h : ∀ q ∈ acc, q.2 + 1 ≤ lo) :
    Norm (fput acc lo nx) ∧ (∀ q ∈ fput acc lo nx, q.2 + 1 ≤ nx) ∧ ∀ n, Pts (fput acc lo nx) n ↔ Pts acc n ∨ lo ≤ n ∧ n < nx := by
  unfold fput
  cases hl : acc.getLast? with
  | none =>
    have : acc = [] := by simpa using hl
    subst this
    refine ⟨norm_snoc ha (by simp only; omega) (by simp), by simp, fun n => ?_⟩
    rw [pts_append, pts_one]
    simp only
    constructor
    · rintro (h | h)
      · exact .inl h
      · exact .inr ⟨h.1, by omega⟩
    · rintro (h | h)
      · exact .inl h
      · exact .inr ⟨h.1, by omega⟩
  | some p =>
    obtain ⟨pre, rfl⟩ : ∃ pre, acc = pre ++ [p] := List.getLast?_eq_some_iff.1 hl
    obtain ⟨h1, h2, h3⟩ := norm_init ha
    have hpx := h p (by simp)
    simp only
    cases hc : decide (p.2 + 1 = lo) with
    | true =>
      have hc' := of_decide_eq_true hc
      simp only [cond_true, List.dropLast_concat]
      refine ⟨norm_snoc h1 (by simp only; omega) h3, ?_, fun n => ?_⟩
      · intro q hq
        rcases List.mem_append.1 hq with hq | hq
        · have := h q (by simp [hq]); omega
        · rw [List.mem_singleton] at hq; subst hq; simp only; omega
      · rw [pts_append, pts_one, pts_append, pts_one]
        simp only
        constructor
        · rintro (hq | hq)
          · exact .inl (.inl hq)
          · by_cases hn : n ≤ p.2
            · exact .inl (.inr ⟨hq.1, hn⟩)
            · exact .inr ⟨by omega, by omega⟩
        · rintro ((hq | hq) | hq)
          · exact .inl hq
          · exact .inr ⟨hq.1, by omega⟩
          · exact .inr ⟨by omega, by omega⟩
    | false =>
      have hc' := of_decide_eq_false hc
      simp only [cond_false]
      refine ⟨norm_snoc ha (by simp only; omega) fun q hq => ?_, ?_, fun n => ?_⟩
      · rcases List.mem_append.1 hq with hq | hq
        · have := h3 q hq; simp only; omega
        · rw [List.mem_singleton] at hq; subst hq; simp only; omega
      · intro q hq
        rcases List.mem_append.1 hq with hq | hq
        · have := h q hq; omega
        · rw [List.mem_singleton] at hq; subst hq; simp only; omega
      · rw [pts_append, pts_one]
        simp only
        constructor
        · rintro (h | h)
          · exact .inl h
          · exact .inr ⟨h.1, by omega⟩
        · rintro (h | h)
          · exact .inl h
          · exact .inr ⟨h.1, by omega⟩
def Keep (op : Int) (a b : List (Int × Int)) (n : Int) : Prop := skipO op (a.any (hasIv n)) (b.any (hasIv n)) = false
theorem skip_out {op : Int} (ho : op = 1 ∨ op = 2 ∨ op = 3) : skipO op false false = true := by rcases ho with rfl | rfl | rfl <;> rfl
theorem form_spec {op : Int} (ho : op = 1 ∨ op = 2 ∨ op = 3) (a b : List (Int × Int)) (hab : ∀ p ∈ a ++ b, p.1 ≤ p.2) : Norm (formL op a b) ∧ ∀ n, Pts (formL op a b) n ↔ Keep op a b n := by
  obtain ⟨hs, hmem⟩ := endsL_spec (a ++ b)
  unfold formL
  generalize hes : endsL (a ++ b) = es at hs hmem
  have hA : ∀ p ∈ a, p.1 ∈ es ∧ p.2 + 1 ∈ es := fun p hp => ⟨(hmem _).2 ⟨p, by simp [hp], .inl rfl⟩, (hmem _).2 ⟨p, by simp [hp], .inr rfl⟩⟩
  have hB : ∀ p ∈ b, p.1 ∈ es ∧ p.2 + 1 ∈ es := fun p hp => ⟨(hmem _).2 ⟨p, by simp [hp], .inl rfl⟩, (hmem _).2 ⟨p, by simp [hp], .inr rfl⟩⟩
  have mono := List.pairwise_iff_getElem.1 hs
  have key : ∀ k, k ≤ es.length - 1 → Norm ((List.range k).foldl (fstep op a b es) []) ∧ (∀ q ∈ (List.range k).foldl (fstep op a b es) [], q.2 + 1 ≤ at0 es k) ∧ ∀ n, Pts ((List.range k).foldl (fstep op a b es) []) n ↔ (∃ i, i < k ∧ at0 es i ≤ n ∧ n < at0 es (i + 1)) ∧ Keep op a b n := by
    intro k
    induction k with
    | zero => intro _; exact ⟨⟨List.Pairwise.nil, by simp⟩, by simp, fun n => by simp [Pts]⟩
    | succ k ih =>
      intro hk
      obtain ⟨i1, i2, i3⟩ := ih (by omega)
      have hk1 : k + 1 < es.length := by omega
      have hlt : at0 es k < at0 es (k + 1) := by
        rw [at0_eq (by omega), at0_eq hk1]; exact mono k (k + 1) (by omega) hk1 (by omega)
      rw [List.range_succ, List.foldl_append, List.foldl_cons, List.foldl_nil]
      generalize (List.range k).foldl (fstep op a b es) [] = acc at i1 i2 i3 ⊢
      have hflat : ∀ n, at0 es k ≤ n → n < at0 es (k + 1) → (Keep op a b n ↔ skipO op (a.any (hasIv (at0 es k))) (b.any (hasIv (at0 es k))) = false) := by
        intro n h1 h2
        unfold Keep
        rw [any_flat hs hA hk1 h1 h2, any_flat hs hB hk1 h1 h2]
      have hsplit : ∀ n, (∃ i, i < k + 1 ∧ at0 es i ≤ n ∧ n < at0 es (i + 1)) ↔ (∃ i, i < k ∧ at0 es i ≤ n ∧ n < at0 es (i + 1)) ∨ at0 es k ≤ n ∧ n < at0 es (k + 1) := by
        intro n
        constructor
        · rintro ⟨i, hi, h⟩
          rcases Nat.lt_or_eq_of_le (Nat.le_of_lt_succ hi) with hlt | rfl
          · exact .inl ⟨i, hlt, h⟩
          · exact .inr h
        · rintro (⟨i, hi, h⟩ | h)
          · exact ⟨i, by omega, h⟩
          · exact ⟨k, by omega, h⟩
      unfold fstep
      cases hc : skipO op (a.any (hasIv (at0 es k))) (b.any (hasIv (at0 es k))) with
      | true =>
        refine ⟨i1, fun q hq => by have := i2 q hq; omega, fun n => ?_⟩
        simp only [cond_true]
        rw [i3, hsplit]
        constructor
        · rintro ⟨h1, h2⟩; exact ⟨.inl h1, h2⟩
        · rintro ⟨h1 | h1, h2⟩
          · exact ⟨h1, h2⟩
          · have := (hflat n h1.1 h1.2).1 h2; rw [hc] at this; cases this
      | false =>
        obtain ⟨f1, f2, f3⟩ := fput_norm i1 hlt i2
        refine ⟨f1, f2, fun n => ?_⟩
        simp only [cond_false]
        rw [f3, i3, hsplit]
        constructor
        · rintro (⟨h1, h2⟩ | h1)
          · exact ⟨.inl h1, h2⟩
          · exact ⟨.inr h1, (hflat n h1.1 h1.2).2 hc⟩
        · rintro ⟨h1 | h1, h2⟩
          · exact .inl ⟨h1, h2⟩
          · exact .inr h1
  obtain ⟨k1, k2, k3⟩ := key (es.length - 1) (Nat.le_refl _)
  refine ⟨k1, fun n => ?_⟩
  rw [k3]
  constructor
  · exact fun h => h.2
  · intro h
    refine ⟨?_, h⟩
    have hin : Pts (a ++ b) n := by
      have : a.any (hasIv n) = true ∨ b.any (hasIv n) = true := by
        cases h1 : a.any (hasIv n) with
        | true => exact .inl rfl
        | false =>
          cases h2 : b.any (hasIv n) with
          | true => exact .inr rfl
          | false => unfold Keep at h; rw [h1, h2, skip_out ho] at h; cases h
      rw [pts_append, ← pts_any, ← pts_any]; exact this
    obtain ⟨p, hp, h1, h2⟩ := hin
    obtain ⟨j1, hj1, hg1⟩ := List.mem_iff_getElem.1 ((hmem p.1).2 ⟨p, hp, .inl rfl⟩)
    obtain ⟨j2, hj2, hg2⟩ := List.mem_iff_getElem.1 ((hmem (p.2 + 1)).2 ⟨p, hp, .inr rfl⟩)
    -- the last end that is not beyond n
    have hex : ∀ d, ∀ i, i < es.length → i + d = j2 → at0 es i ≤ n → ∃ i, i < es.length - 1 ∧ at0 es i ≤ n ∧ n < at0 es (i + 1) := by
      intro d
      induction d with
      | zero => intro i hi hd hle; rw [at0_eq hi] at hle; have : i = j2 := by omega
                subst this; omega
      | succ d ihd =>
        intro i hi hd hle
        by_cases hn : n < at0 es (i + 1)
        · exact ⟨i, by omega, hle, hn⟩
        · exact ihd (i + 1) (by omega) (by omega) (by omega)
    have hlt : j1 < j2 := by
      rcases Nat.lt_trichotomy j1 j2 with h3 | h3 | h3
      · exact h3
      · subst h3; omega
      · have := mono j2 j1 hj2 hj1 h3; omega
    exact hex (j2 - j1) j1 hj1 (by omega) (by rw [at0_eq hj1, hg1]; exact h1)
theorem keep_union (a : List (Int × Int)) (n : Int) : Keep 1 a [] n ↔ Pts a n := by
  unfold Keep skipO
  rw [← pts_any]
  cases a.any (hasIv n) <;> simp
/-- One list in normal form, in both ways. -/
theorem merged_form (l : List (Int × Int)) (h : ∀ x ∈ l, x.1 ≤ x.2) : merged l = formL 1 l [] := by
  obtain ⟨h1, h2⟩ := merged_norm l h
  obtain ⟨h3, h4⟩ := form_spec (.inl rfl) l [] (by simpa using h)
  refine norm_unique h1 h3 fun n => ?_
  rw [h2, h4, keep_union]
end Tz
