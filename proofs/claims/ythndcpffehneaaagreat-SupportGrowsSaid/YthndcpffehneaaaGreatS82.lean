/- Part S82; no conditions. -/
import Derived.Test.YthndcpffehneaaaGreatS79
set_option linter.unusedVariables false
set_option linter.unusedSimpArgs false
set_option linter.unusedSectionVars false
set_option linter.defProp false
set_option linter.deprecated false
set_option maxRecDepth 100000
open Gs Go
namespace Tz.C18
/-! Freeing one block after the other. -/
theorem wrap_lo (x : Int) : -9223372036854775808 ≤ IntKind.i64.wrap x ∧ IntKind.i64.wrap x < 9223372036854775808 := by
  rw [IntKind.wrap_i64]; omega
theorem wrap_wrap (x : Int) : IntKind.i64.wrap (IntKind.i64.wrap x) = IntKind.i64.wrap x := wrap_in (wrap_lo x).1 (wrap_lo x).2
theorem lap_pairs : ∀ (r s : List Block), lapF s r = false → (∀ b ∈ r, ∀ c ∈ s, apart b.box c.box = true) ∧ r.Pairwise (fun c b => apart b.box c.box = true)
  | [], s, _ => ⟨fun b hb => by (cases hb), List.Pairwise.nil⟩
  | b :: r, s, h => by
    simp only [lapF, Bool.or_eq_false_iff] at h
    obtain ⟨h1, h2⟩ := lap_pairs r (s ++ [b]) h.2
    have h0 : ∀ c ∈ s, apart b.box c.box = true := fun c hc => by
      have := List.any_eq_false.1 h.1 c hc
      simpa using this
    refine ⟨fun x hx c hc => ?_, List.pairwise_cons.2 ⟨fun x hx => h1 x hx b (by simp), h2⟩⟩
    rcases List.mem_cons.1 hx with rfl | hx
    · exact h0 c hc
    · exact h1 x hx c (by simp [hc])
theorem apart_symm (a b : Box) : apart a b = apart b a := by
  unfold apart
  rw [Int.min_comm a.x1, Int.min_comm a.y1, Int.min_comm a.z1, Int.max_comm a.x0, Int.max_comm a.y0, Int.max_comm a.z0]
theorem pw_all {α : Type} {R : α → α → Prop} (hs : ∀ a b, R a b → R b a) : ∀ {l : List α}, l.Pairwise R → ∀ {a b}, a ∈ l → b ∈ l → a ≠ b → R a b
  | [], _, a, b, ha, _, _ => by cases ha
  | x :: r, h, a, b, ha, hb, hab => by
    have hx := List.pairwise_cons.1 h
    rcases List.mem_cons.1 ha with h1 | h1 <;> rcases List.mem_cons.1 hb with h2 | h2
    · exact absurd (h1.trans h2.symm) hab
    · rw [h1]; exact hx.1 b h2
    · rw [h2]; exact hs _ _ (hx.1 a h1)
    · exact pw_all hs hx.2 h1 h2 hab
theorem disjoint {s : Site} (h : SiteOk s) {a b : Block} (ha : a ∈ s.blocks) (hb : b ∈ s.blocks) (hab : a ≠ b) : apart a.box b.box = true := by
  have hp := (lap_pairs s.blocks [] h.lap).2
  have := pw_all (R := fun c b : Block => apart b.box c.box = true) (fun x y hxy => by rw [apart_symm]; exact hxy) hp ha hb hab
  rw [apart_symm]; exact this
theorem taken_snoc (tk : List ByteArray) (n : ByteArray) (x : Block) : taken (tk ++ [n]) x = (taken tk x || seq x.name n) := by
  unfold taken; simp
theorem possible_facts {s : Site} {tk : List ByteArray} {b : Block} (h : possible s tk b = true) : taken tk b = false ∧ firstR s tk b.name (fun x => decide (b.box.z1 ≤ x.z0) && over2 x b.box) = none ∧ beddedB s.survey b.box.z0 = true ∧
    decide (cntB (freeB s tk b.box 0) (freeB s tk b.box 1) (freeB s tk b.box 2) (freeB s tk b.box 3) < 2) = false ∧ firstR s tk b.name (fun x => !clearB s.safety b.box x) = none := by
  have h := of_decide_eq_true h
  unfold whyB at h
  cases h1 : taken tk b with
  | true => rw [h1] at h; simp at h
  | false =>
  rw [h1] at h
  simp only [cond_false] at h
  cases h2 : firstR s tk b.name (fun x => decide (b.box.z1 ≤ x.z0) && over2 x b.box) with
  | some c => rw [h2] at h; simp at h
  | none =>
  rw [h2] at h
  simp only at h
  cases h3 : beddedB s.survey b.box.z0 with
  | false => rw [h3] at h; simp at h
  | true =>
  rw [h3] at h
  simp only [Bool.not_true, cond_false] at h
  cases h4 : decide (cntB (freeB s tk b.box 0) (freeB s tk b.box 1) (freeB s tk b.box 2) (freeB s tk b.box 3) < 2) with
  | true => rw [h4] at h; simp at h
  | false =>
  rw [h4] at h
  simp only [cond_false] at h
  cases h5 : firstR s tk b.name (fun x => !clearB s.safety b.box x) with
  | some c => rw [h5] at h; simp at h
  | none => exact ⟨rfl, rfl, rfl, rfl, rfl⟩
theorem first_none {s : Site} {tk : List ByteArray} {n : ByteArray} {p : Box → Bool} (h : firstR s tk n p = none) {x : Block} (hx : x ∈ s.blocks) (h1 : seq x.name n = false) (h2 : taken tk x = false) : p x.box = false := by
  have := List.find?_eq_none.1 h x hx
  unfold firstP at this
  rw [h1, h2] at this
  simpa using this
theorem over_self {b : Box} (h : BoxIn b) : leansB b b = false := by
  unfold leansB
  rw [decide_eq_false (by have := h.z; omega)]; rfl
theorem carries_taken {s : Site} (hok : SiteOk s) {tk : List ByteArray} {b x : Block} (hb : b ∈ s.blocks) (hx : x ∈ s.blocks) (hp : possible s tk b = true) (hl : leansB x.box b.box = true) : taken tk x = true := by
  obtain ⟨_, h2, _⟩ := possible_facts hp
  cases ht : taken tk x with
  | true => rfl
  | false =>
    cases hs : seq x.name b.name with
    | true =>
      have := sorted_inj (sorted_of hok.srt) hx hb (seq_iff.1 hs)
      subst this
      rw [over_self (box_in hok hx)] at hl; cases hl
    | false =>
      have := first_none h2 hx hs ht
      unfold leansB at hl
      simp only [Bool.and_eq_true, decide_eq_true_eq] at hl
      rw [hl.2, decide_eq_true (by omega)] at this; cases this
theorem size_pos {c : Box} (h : sizeB c ≠ 0) : 0 < wsub c.x1 c.x0 ∧ 0 < wsub c.y1 c.y0 ∧ 0 < wsub c.z1 c.z0 := by
  unfold sizeB at h
  cases h1 : ((decide (wsub c.x1 c.x0 ≤ 0) || decide (wsub c.y1 c.y0 ≤ 0)) || decide (wsub c.z1 c.z0 ≤ 0)) with
  | true => rw [h1] at h; exact absurd rfl h
  | false =>
    simp only [Bool.or_eq_false_iff, decide_eq_false_iff_not] at h1
    omega
theorem size_wrap (c : Box) : IntKind.i64.wrap (sizeB c) = sizeB c := by
  unfold sizeB
  cases ((decide (wsub c.x1 c.x0 ≤ 0) || decide (wsub c.y1 c.y0 ≤ 0)) || decide (wsub c.z1 c.z0 ≤ 0)) with
  | true => rfl
  | false => exact wrap_wrap _
theorem fold_same (tk : List ByteArray) (b : Block) (c : Box) (hz : sizeB (inter c b.box) = 0) : ∀ (l : List Block) (left : Int), (∀ x ∈ l, seq x.name b.name = true → x = b) → taken tk b = false → IntKind.i64.wrap left = left → l.foldl (openStep (tk ++ [b.name]) c) left = l.foldl (openStep tk c) left
  | [], _, _, _, _ => rfl
  | x :: r, left, hinj, hb, hw => by
    simp only [List.foldl_cons]
    have hstep : openStep (tk ++ [b.name]) c left x = openStep tk c left x := by
      unfold openStep
      rw [taken_snoc]
      cases hs : seq x.name b.name with
      | false => rw [Bool.or_false]
      | true =>
        have := hinj x List.mem_cons_self hs
        subst this
        rw [hb, hz]
        simp only [Bool.or_true, cond_true, cond_false, wsub, Int.sub_zero]
        exact hw
    rw [hstep]
    refine fold_same tk b c hz r _ (fun y hy => hinj y (List.mem_cons_of_mem _ hy)) hb ?_
    unfold openStep
    cases taken tk x with
    | true => exact wrap_wrap _
    | false => exact hw
structure Inv (s : Site) (tk : List ByteArray) : Prop where
  st : startErr s tk = 0
  hang : ∀ x ∈ s.blocks, taken tk x = false → openSt s tk (under x.box) = false
  clr : ∀ k ∈ s.blocks, ∀ m ∈ s.blocks, taken tk k = true → taken tk m = false → clearB s.safety k.box m.box = true
theorem fold_nil (c : Box) : ∀ (l : List Block) (left : Int), l.foldl (openStep [] c) left = left
  | [], _ => rfl
  | x :: r, left => by
    simp only [List.foldl_cons]
    have : openStep [] c left x = left := rfl
    rw [this]; exact fold_nil c r left
theorem wsub_in {p q : Int} (h1 : -2000000 ≤ p) (h2 : p ≤ 2000000) (h3 : -2000000 ≤ q) (h4 : q ≤ 2000000) : wsub p q = p - q := wrap_in (by omega) (by omega)
theorem under_size {b : Box} (h : BoxIn b) : sizeB (under b) ≠ 0 := by
  obtain ⟨h1, h2, h3, h4, h5, h6, h7, h8, h9⟩ := h
  unfold sizeB under
  simp only
  have ez : wsub b.z0 1 = b.z0 - 1 := wsub_in (by omega) (by omega) (by omega) (by omega)
  have e1 : wsub b.x1 b.x0 = b.x1 - b.x0 := wsub_in (by omega) (by omega) (by omega) (by omega)
  have e2 : wsub b.y1 b.y0 = b.y1 - b.y0 := wsub_in (by omega) (by omega) (by omega) (by omega)
  have e3 : wsub b.z0 (b.z0 - 1) = 1 := by rw [wsub_in (by omega) (by omega) (by omega) (by omega)]; omega
  rw [ez, e1, e2, e3, decide_eq_false (by omega), decide_eq_false (by omega)]
  simp only [Bool.or_self, Bool.false_or, cond_false, wmul, Int.mul_one]
  have hp : 0 < (b.x1 - b.x0) * (b.y1 - b.y0) := Int.mul_pos (by omega) (by omega)
  have hq : (b.x1 - b.x0) * (b.y1 - b.y0) ≤ 2000000 * 2000000 := Int.mul_le_mul (by omega) (by omega) (by omega) (by omega)
  have hw : IntKind.i64.wrap ((b.x1 - b.x0) * (b.y1 - b.y0)) = (b.x1 - b.x0) * (b.y1 - b.y0) := wrap_in (by omega) (by omega)
  rw [hw, hw]
  simp only [Int.reduceLE, decide_false, cond_false]
  omega
theorem inv_nil {s : Site} (h : startErr s [] = 0) : Inv s [] := by
  have hok := site_ok (start_ok h).1
  refine ⟨h, fun x hx _ => ?_, fun k _ m _ hk => by (cases hk)⟩
  unfold openSt
  rw [fold_nil]
  exact decide_eq_false (under_size (box_in hok hx))
theorem inv_step {s : Site} {tk : List ByteArray} (hI : Inv s tk) {b : Block} (hb : b ∈ s.blocks) (hp : possible s tk b = true) : Inv s (tk ++ [b.name]) := by
  have hok := site_ok (start_ok hI.st).1
  have hs := sorted_of hok.srt
  obtain ⟨f1, f2, _, _, f5⟩ := possible_facts hp
  refine ⟨?_, fun x hx ht => ?_, fun k hk m hm hkt hmt => ?_⟩
  · obtain ⟨g1, g2, g3⟩ := start_ok hI.st
    have hu : unknown s b.name = false := by
      unfold unknown
      rw [List.any_eq_true.2 ⟨b, hb, seq_refl _⟩]; rfl
    have hd : dupS [] (tk ++ [b.name]) = false := by
      rw [dupS_iff] at g3 ⊢
      refine ⟨by simp, List.nodup_append.2 ⟨g3.2, by simp, fun x hx y hy => ?_⟩⟩
      rw [List.mem_singleton.1 hy]
      rintro rfl
      unfold taken at f1
      exact List.any_eq_false.1 f1 _ hx (seq_refl _)
    unfold startErr
    rw [decide_eq_true g1, List.any_append, g2, hd]
    simp [hu]
  · rw [taken_snoc, Bool.or_eq_false_iff] at ht
    have h0 := hI.hang x hx ht.1
    by_cases hz : sizeB (inter (under x.box) b.box) = 0
    · unfold openSt at h0 ⊢
      rw [fold_same tk b _ hz s.blocks _ (fun y hy he => sorted_inj hs hy hb (seq_iff.1 he)) f1 (size_wrap _)]
      exact h0
    · exfalso
      have hxb : x ≠ b := by rintro rfl; rw [seq_refl] at ht; cases ht.2
      have hap := disjoint hok hx hb hxb
      have hc := first_none f2 hx ht.2 ht.1
      obtain ⟨p1, p2, p3⟩ := size_pos hz
      obtain ⟨a1, a2, a3, a4, a5, a6, a7, a8, a9⟩ := box_in hok hx
      obtain ⟨c1, c2, c3, c4, c5, c6, c7, c8, c9⟩ := box_in hok hb
      have ez : wsub x.box.z0 1 = x.box.z0 - 1 := wsub_in (by omega) (by omega) (by omega) (by omega)
      simp only [inter, under, ez] at p1 p2 p3
      rw [wsub_in (by omega) (by omega) (by omega) (by omega)] at p1 p2 p3
      unfold apart at hap
      unfold over2 at hc
      simp only [Bool.or_eq_true, decide_eq_true_eq, Bool.and_eq_false_iff, decide_eq_false_iff_not] at hap hc
      omega
  · rw [taken_snoc, Bool.or_eq_false_iff] at hmt
    rw [taken_snoc, Bool.or_eq_true] at hkt
    rcases hkt with hkt | hkt
    · exact hI.clr k hk m hm hkt hmt.1
    · have := sorted_inj hs hk hb (seq_iff.1 hkt)
      subst this
      have := first_none f5 hm hmt.2 hmt.1
      simpa using this
end Tz.C18
