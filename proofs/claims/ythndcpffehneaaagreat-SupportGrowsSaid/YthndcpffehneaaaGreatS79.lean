/- Valid sites; no conditions. -/
import Derived.Test.YthndcpffehneaaaGreatS78
set_option linter.unusedVariables false
set_option linter.unusedSimpArgs false
set_option linter.unusedSectionVars false
set_option linter.defProp false
set_option linter.deprecated false
set_option maxRecDepth 100000
open Gs Go
namespace Tz.C18
/-! What a valid site is; the order of the taken names. -/
structure SiteOk (s : Site) : Prop where
  sv : surveyErr s.survey = 0
  many : cMany s = false
  out : s.blocks.any (blockOut s) = false
  emp : s.blocks.any (fun b => emptyB b.box) = false
  srt : steps s.blocks geBlock = false
  lap : lapF [] s.blocks = false
  cfl : s.blocks.any (conflict s) = false
  saf : cRange s = false
theorem site_ok {s : Site} (h : siteErr s = 0) : SiteOk s := by
  unfold siteErr at h
  cases h0 : decide (surveyErr s.survey = 0) with
  | false => rw [h0] at h; simp only [Bool.not_false, cond_true] at h; rw [h] at h0; simp at h0
  | true =>
  rw [h0] at h
  simp only [Bool.not_true, cond_false] at h
  have hn : (condL s).find? (·.val) = none := by
    cases hf : (condL s).find? (·.val) with
    | none => rfl
    | some c =>
      rw [hf] at h
      have hm := List.mem_of_find?_eq_some hf
      simp only [condL, List.mem_cons, List.not_mem_nil, or_false] at hm
      simp only at h
      rcases hm with rfl | rfl | rfl | rfl | rfl | rfl | rfl | rfl | rfl <;> simp at h
  have hall : ∀ c ∈ condL s, c.val = false := fun c hc => by
    have := List.find?_eq_none.1 hn c hc
    simpa using this
  simp only [condL, List.mem_cons, List.not_mem_nil, or_false, forall_eq_or_imp, forall_eq] at hall
  obtain ⟨c1, c2, c3, c4, c5, c6, c7, c8, c9⟩ := hall
  simp only [Bool.or_eq_false_iff] at c3 c4 c5 c7
  exact ⟨of_decide_eq_true h0, c1, c5.2, c4.2, c7.2, c9, c8, c2⟩
theorem adj_pairwise {α : Type} (lt : α → α → Prop) (tr : ∀ a b c, lt a b → lt b c → lt a c) : ∀ l : List α, (∀ i a b, l[i]? = some a → l[i + 1]? = some b → lt a b) → l.Pairwise lt
  | [], _ => List.Pairwise.nil
  | a :: r, h => by
    have hr := adj_pairwise lt tr r (fun i x y hx hy => h (i + 1) x y (by simpa using hx) (by simpa using hy))
    refine List.pairwise_cons.2 ⟨fun z hz => ?_, hr⟩
    cases r with
    | nil => cases hz
    | cons b r =>
      have hab := h 0 a b rfl rfl
      rcases List.mem_cons.1 hz with rfl | hz
      · exact hab
      · exact tr a b z hab ((List.pairwise_cons.1 hr).1 z hz)
abbrev Sorted (bs : List Block) : Prop := bs.Pairwise fun a b => slt a.name b.name = true
theorem sorted_of {bs : List Block} (h : steps bs geBlock = false) : Sorted bs := by
  refine adj_pairwise (fun a b : Block => slt a.name b.name = true) (fun a b c h1 h2 => slt_trans h1 h2) bs fun i a b ha hb => ?_
  unfold steps at h
  have hi := (List.getElem?_eq_some_iff.1 hb).1
  have := List.any_eq_false.1 h (i + 1) (by rw [List.mem_range'_1]; omega)
  simp only [badIx, Nat.add_sub_cancel, ha, hb, geBlock, Bool.not_eq_true', Bool.not_eq_false] at this
  exact this
/-- Names in order, and none twice. -/
theorem sorted_find {bs : List Block} (h : Sorted bs) {b : Block} (hb : b ∈ bs) : bs.find? (called b.name) = some b := by
  induction bs with
  | nil => cases hb
  | cons a r ih =>
    have ha := List.pairwise_cons.1 h
    rw [List.find?_cons]
    rcases List.mem_cons.1 hb with rfl | hb
    · have : called b.name b = true := seq_refl _
      rw [this]
    · have hlt := ha.1 b hb
      have : called b.name a = false := slt_ne hlt
      rw [this]
      exact ih ha.2 hb
theorem sorted_inj {bs : List Block} (h : Sorted bs) {a b : Block} (ha : a ∈ bs) (hb : b ∈ bs) (he : a.name = b.name) : a = b := by
  have h1 := sorted_find h ha
  have h2 := sorted_find h hb
  rw [he, h2] at h1
  injection h1 with h1
  exact h1.symm
theorem names_sorted {bs : List Block} (h : Sorted bs) (p : Block → Bool) : sortB (namesOf p bs) = namesOf p bs := by
  refine sortedB_unique (sortB_perm _) (sortB_sorted _) ?_
  unfold namesOf SortedB
  rw [List.pairwise_map]
  exact (h.filter p).imp fun hab => slt_asymm hab
theorem names_any {bs : List Block} (h : Sorted bs) (p : Block → Bool) {b : Block} (hb : b ∈ bs) : (namesOf p bs).any (fun x => seq x b.name) = p b := by
  rw [Bool.eq_iff_iff, List.any_eq_true]
  constructor
  · rintro ⟨x, hx, he⟩
    unfold namesOf at hx
    obtain ⟨c, hc, rfl⟩ := List.mem_map.1 hx
    obtain ⟨hc1, hc2⟩ := List.mem_filter.1 hc
    rw [← sorted_inj h hc1 hb (seq_iff.1 he)]; exact hc2
  · intro hp
    exact ⟨b.name, List.mem_map.2 ⟨b, List.mem_filter.2 ⟨hb, hp⟩, rfl⟩, seq_refl _⟩
theorem sortB_any (l : List ByteArray) (p : ByteArray → Bool) : (sortB l).any p = l.any p := by
  rw [Bool.eq_iff_iff, List.any_eq_true, List.any_eq_true]
  constructor
  · rintro ⟨x, hx, he⟩; exact ⟨x, (sortB_perm l).mem_iff.1 hx, he⟩
  · rintro ⟨x, hx, he⟩; exact ⟨x, (sortB_perm l).mem_iff.2 hx, he⟩
theorem dupF_sorted : ∀ (r s : List Block), Sorted (s ++ r) → dupF s r = false
  | [], _, _ => rfl
  | b :: r, s, h => by
    simp only [dupF, Bool.or_eq_false_iff]
    have hp := List.pairwise_append.1 h
    refine ⟨List.any_eq_false.2 fun c hc he => ?_, dupF_sorted r (s ++ [b]) (by simpa using h)⟩
    have hlt := hp.2.2 c hc b List.mem_cons_self
    rw [seq_iff.1 he] at hlt
    rw [slt_irrefl] at hlt; cases hlt
/-! Boxes of a valid site. -/
theorem surveyOk_of {s : Site} (h : SiteOk s) : SurveyOk s.survey := survey_ok h.sv
theorem pit_in {s : Site} (h : SiteOk s) : (-1000000 ≤ s.survey.pit.x0 ∧ s.survey.pit.x1 ≤ 1000000) ∧ (-1000000 ≤ s.survey.pit.y0 ∧ s.survey.pit.y1 ≤ 1000000) ∧ (-1000000 ≤ s.survey.pit.z0 ∧ s.survey.pit.z1 ≤ 1000000) := by
  have h1 := (surveyOk_of h).far
  simp only [Box.six, far6, List.any_cons, List.any_nil, Bool.or_false, Bool.or_eq_false_iff, decide_eq_false_iff_not] at h1
  omega
structure BoxIn (b : Box) : Prop where
  x : b.x0 < b.x1
  y : b.y0 < b.y1
  z : b.z0 < b.z1
  x0 : -1000000 ≤ b.x0
  y0 : -1000000 ≤ b.y0
  z0 : -1000000 ≤ b.z0
  x1 : b.x1 ≤ 1000000
  y1 : b.y1 ≤ 1000000
  z1 : b.z1 ≤ 1000000
theorem box_in {s : Site} (h : SiteOk s) {b : Block} (hb : b ∈ s.blocks) : BoxIn b.box := by
  have h1 := List.any_eq_false.1 h.out b hb
  have h2 := List.any_eq_false.1 h.emp b hb
  have h3 := pit_in h
  simp only [blockOut, insideB, Bool.not_not, Bool.or_eq_true, decide_eq_true_eq, not_or] at h1
  simp only [emptyB, Bool.or_eq_true, decide_eq_true_eq, not_or] at h2
  constructor <;> omega
theorem box_err {b : Box} (h : BoxIn b) : boxErr b = 0 := by
  obtain ⟨h1, h2, h3, h4, h5, h6, h7, h8, h9⟩ := h
  have hf : ∀ p q : Int, -1000000 ≤ p → p ≤ 1000000 → -1000000 ≤ q → q ≤ 1000000 → far2 p q = false := fun p q a b c d => by
    unfold far2 inr
    rw [decide_eq_true a, decide_eq_true b, decide_eq_true c, decide_eq_true d]; rfl
  unfold boxErr
  rw [hf _ _ h4 (by omega) (by omega) h7, hf _ _ h5 (by omega) (by omega) h8, hf _ _ h6 (by omega) (by omega) h9, decide_eq_false (by omega), decide_eq_false (by omega), decide_eq_false (by omega)]
  rfl
theorem find_ok {s : Site} (h : SiteOk s) {b : Block} (hb : b ∈ s.blocks) : findR s.blocks b.name = (0, b.cells) := by
  have hs := sorted_of h.srt
  have hm := h.many
  simp only [cMany, Bool.or_eq_false_iff] at hm
  unfold findR
  rw [hm.2]
  have h1 : s.blocks.find? badBox = none := List.find?_eq_none.2 fun c hc => by
    unfold badBox
    rw [decide_eq_true (box_err (box_in h hc))]; simp
  have h2 : dupF [] s.blocks = false := dupF_sorted _ _ hs
  have h3 : s.blocks.find? (named b.name) = some b := by
    have := sorted_find hs hb
    have he : named b.name = called b.name := by funext c; exact seq_comm _ _
    rw [he]; exact this
  rw [h1, h2, h3]
  rfl
/-! What is taken, is all that counts. -/
theorem why_congr {s : Site} {tk tk' : List ByteArray} (h : taken tk = taken tk') (b : Block) : whyB s tk b = whyB s tk' b := by
  have h1 : openStep tk = openStep tk' := by funext c l x; unfold openStep; rw [h]
  have h2 : openSt s tk = openSt s tk' := by funext c; unfold openSt; rw [h1]
  have h3 : partB s tk = partB s tk' := by funext c l u; unfold partB; rw [h2]
  have h4 : ∀ c t l lo, scanB s tk c t l lo = scanB s tk' c t l lo := by
    intro c t l
    induction l with
    | nil => intro lo; simp only [scanB, h3]
    | cons j r ih => intro lo; simp only [scanB, h3, ih]
  have h5 : freeB s tk = freeB s tk' := by funext c d; unfold freeB; rw [h4]
  have h6 : firstP tk = firstP tk' := by funext n p x; unfold firstP; rw [h]
  have h7 : firstR s tk = firstR s tk' := by funext n p; unfold firstR; rw [h6]
  unfold whyB
  rw [h, h7, h5]
theorem dupS_iff : ∀ (l s : List ByteArray), dupS s l = false ↔ (∀ x ∈ l, x ∉ s) ∧ l.Nodup
  | [], s => by simp [dupS]
  | n :: r, s => by
    simp only [dupS, Bool.or_eq_false_iff, dupS_iff r (s ++ [n]), List.nodup_cons, List.forall_mem_cons]
    have hs : s.any (seq n) = false ↔ n ∉ s := by
      rw [List.any_eq_false]
      constructor
      · intro h hm; exact h n hm (seq_refl _)
      · intro h x hx he; rw [seq_iff.1 he] at h; exact h hx
    rw [hs]
    constructor
    · rintro ⟨h1, h2, h3⟩
      refine ⟨⟨h1, fun x hx hxs => h2 x hx (by simp [hxs])⟩, fun hn => h2 n hn (by simp), h3⟩
    · rintro ⟨⟨h1, h2⟩, h3, h4⟩
      refine ⟨h1, fun x hx hxs => ?_, h4⟩
      rcases List.mem_append.1 hxs with g | g
      · exact h2 x hx g
      · rw [List.mem_singleton.1 g] at hx; exact h3 hx
theorem start_perm {s : Site} {tk tk' : List ByteArray} (h : tk.Perm tk') : startErr s tk = startErr s tk' := by
  have h1 : tk.any (unknown s) = tk'.any (unknown s) := by
    rw [Bool.eq_iff_iff, List.any_eq_true, List.any_eq_true]
    constructor
    · rintro ⟨x, hx, he⟩; exact ⟨x, h.mem_iff.1 hx, he⟩
    · rintro ⟨x, hx, he⟩; exact ⟨x, h.mem_iff.2 hx, he⟩
  have h2 : dupS [] tk = dupS [] tk' := by
    have e : dupS [] tk = false ↔ dupS [] tk' = false := by rw [dupS_iff, dupS_iff, h.nodup_iff]; simp
    cases ha : dupS [] tk <;> cases hb : dupS [] tk' <;> simp_all
  unfold startErr
  rw [h1, h2]
theorem taken_perm {tk tk' : List ByteArray} (h : tk.Perm tk') : taken tk = taken tk' := by
  funext b
  unfold taken
  rw [Bool.eq_iff_iff, List.any_eq_true, List.any_eq_true]
  constructor
  · rintro ⟨x, hx, he⟩; exact ⟨x, h.mem_iff.1 hx, he⟩
  · rintro ⟨x, hx, he⟩; exact ⟨x, h.mem_iff.2 hx, he⟩
end Tz.C18
