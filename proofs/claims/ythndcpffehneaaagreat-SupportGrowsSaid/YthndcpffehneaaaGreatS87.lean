/- Part S87; no conditions. -/
import Derived.Test.YthndcpffehneaaaGreatS86
import Derived.Test.YthndcpffehneaaaGreatP0
import Derived.Test.YthndcpffehneaaaGreatS16
set_option linter.unusedVariables false
set_option linter.unusedSimpArgs false
set_option linter.unusedSectionVars false
set_option linter.defProp false
set_option linter.deprecated false
set_option maxRecDepth 100000
open Gs Go
namespace Tz.C18
/-! Cells are open exactly if each point lies in a taken block. -/
structure Near (c : Box) : Prop where
  x0 : -1000001 ≤ c.x0 ∧ c.x0 ≤ 1000001
  x1 : -1000001 ≤ c.x1 ∧ c.x1 ≤ 1000001
  y0 : -1000001 ≤ c.y0 ∧ c.y0 ≤ 1000001
  y1 : -1000001 ≤ c.y1 ∧ c.y1 ≤ 1000001
  z0 : -1000001 ≤ c.z0 ∧ c.z0 ≤ 1000001
  z1 : -1000001 ≤ c.z1 ∧ c.z1 ≤ 1000001
theorem near_of {b : Box} (h : BoxIn b) : Near b := by
  obtain ⟨h1, h2, h3, h4, h5, h6, h7, h8, h9⟩ := h
  constructor <;> omega
theorem near_inter {b c : Box} (hb : Near b) (hc : Near c) : Near (inter b c) := by
  obtain ⟨a1, a2, a3, a4, a5, a6⟩ := hb
  obtain ⟨b1, b2, b3, b4, b5, b6⟩ := hc
  unfold inter
  constructor <;> simp only <;> omega
theorem mul_le3 {a b c : Int} (ha : 0 ≤ a) (hb : 0 ≤ b) (hc : 0 ≤ c) (ha' : a ≤ 2000002) (hb' : b ≤ 2000002) (hc' : c ≤ 2000002) : 0 ≤ a * b ∧ a * b ≤ 4000008000004 ∧ 0 ≤ a * b * c ∧ a * b * c ≤ 8000024000024000008 := by
  have h1 : a * b ≤ 2000002 * 2000002 := Int.le_trans (Int.mul_le_mul_of_nonneg_right ha' hb) (Int.mul_le_mul_of_nonneg_left hb' (by omega))
  have h0 := Int.mul_nonneg ha hb
  have h2 : a * b * c ≤ 4000008000004 * 2000002 := Int.le_trans (Int.mul_le_mul_of_nonneg_right (by omega) hc) (Int.mul_le_mul_of_nonneg_left hc' (by omega))
  exact ⟨h0, by omega, Int.mul_nonneg h0 hc, by omega⟩
theorem len_in {c : Box} (h : Near c) : (0 ≤ len c.x0 c.x1 ∧ len c.x0 c.x1 ≤ 2000002) ∧ (0 ≤ len c.y0 c.y1 ∧ len c.y0 c.y1 ≤ 2000002) ∧ (0 ≤ len c.z0 c.z1 ∧ len c.z0 c.z1 ≤ 2000002) := by
  obtain ⟨a1, a2, a3, a4, a5, a6⟩ := h
  unfold len
  omega
theorem vol_in {c : Box} (h : Near c) : 0 ≤ vol c ∧ vol c ≤ 8000024000024000008 := by
  obtain ⟨⟨a1, a2⟩, ⟨b1, b2⟩, ⟨c1, c2⟩⟩ := len_in h
  have := mul_le3 a1 b1 c1 a2 b2 c2
  exact ⟨this.2.2.1, this.2.2.2⟩
theorem size_vol {c : Box} (h : Near c) : sizeB c = vol c := by
  have hl := len_in h
  obtain ⟨a1, a2, a3, a4, a5, a6⟩ := h
  have e1 : wsub c.x1 c.x0 = c.x1 - c.x0 := wsub_in (by omega) (by omega) (by omega) (by omega)
  have e2 : wsub c.y1 c.y0 = c.y1 - c.y0 := wsub_in (by omega) (by omega) (by omega) (by omega)
  have e3 : wsub c.z1 c.z0 = c.z1 - c.z0 := wsub_in (by omega) (by omega) (by omega) (by omega)
  unfold sizeB vol
  rw [e1, e2, e3]
  have l0 : ∀ a b : Int, b - a ≤ 0 → len a b = 0 := fun a b h => by unfold len; omega
  have l1 : ∀ a b : Int, ¬ b - a ≤ 0 → len a b = b - a := fun a b h => by unfold len; omega
  by_cases hx : c.x1 - c.x0 ≤ 0
  · rw [decide_eq_true hx, l0 _ _ hx]; simp
  by_cases hy : c.y1 - c.y0 ≤ 0
  · rw [decide_eq_true hy, l0 _ _ hy]; simp
  by_cases hz : c.z1 - c.z0 ≤ 0
  · rw [decide_eq_true hz, l0 _ _ hz]; simp
  rw [l1 _ _ hx, l1 _ _ hy, l1 _ _ hz] at *
  rw [decide_eq_false hx, decide_eq_false hy, decide_eq_false hz]
  obtain ⟨m1, m2, m3, m4⟩ := mul_le3 hl.1.1 hl.2.1.1 hl.2.2.1 hl.1.2 hl.2.1.2 hl.2.2.2
  have w1 : wmul (c.x1 - c.x0) (c.y1 - c.y0) = (c.x1 - c.x0) * (c.y1 - c.y0) := wrap_in (by omega) (by omega)
  simp only [Bool.or_self, cond_false]
  rw [w1]
  exact wrap_in (by omega) (by omega)
abbrev tkB (s : Site) (tk : List ByteArray) : List Box := (s.blocks.filter (taken tk)).map (·.box)
theorem fold_open (tk : List ByteArray) {c : Box} (hc : Near c) : ∀ (l : List Block) (left : Int), (∀ x ∈ l, Near x.box) → left ≤ 9223372036854775807 → vols c ((l.filter (taken tk)).map (·.box)) ≤ left →
    l.foldl (openStep tk c) left = left - vols c ((l.filter (taken tk)).map (·.box))
  | [], left, _, _, _ => by simp [vols]
  | x :: l, left, hl, h1, h2 => by
    have hv := vol_in (near_inter hc (hl x List.mem_cons_self))
    have hr : 0 ≤ vols c ((l.filter (taken tk)).map (·.box)) := by rw [← pts_cnt, ← pts_zero c]; exact pts_le fun x y z _ => cnt_nn x y z _
    rw [List.foldl_cons]
    cases ht : taken tk x with
    | false =>
      rw [List.filter_cons_of_neg (by rw [ht]; decide)] at h2 ⊢
      have : openStep tk c left x = left := by unfold openStep; rw [ht]; rfl
      rw [this]
      exact fold_open tk hc l left (fun y hy => hl y (List.mem_cons_of_mem _ hy)) h1 h2
    | true =>
      rw [List.filter_cons_of_pos ht] at h2 ⊢
      simp only [List.map_cons, vols] at h2 ⊢
      have : openStep tk c left x = left - vol (inter c x.box) := by
        unfold openStep
        rw [ht, size_vol (near_inter hc (hl x List.mem_cons_self))]
        exact wrap_in (by omega) (by omega)
      rw [this, fold_open tk hc l _ (fun y hy => hl y (List.mem_cons_of_mem _ hy)) (by omega) (by omega)]
      omega
theorem tk_apart {s : Site} (h : SiteOk s) (tk : List ByteArray) : (tkB s tk).Pairwise (fun a b => apart a b = true) := by
  unfold tkB
  rw [List.pairwise_map]
  exact ((lap_pairs s.blocks [] h.lap).2.filter _).imp fun h => by rw [apart_symm]; exact h
/-- A point lies in a taken block. -/
def Cov (s : Site) (tk : List ByteArray) (x y z : Int) : Prop := ∃ b ∈ s.blocks, taken tk b = true ∧ In3 b.box x y z
theorem open_iff {s : Site} (h : SiteOk s) (tk : List ByteArray) {c : Box} (hc : Near c) : openSt s tk c = true ↔ ∀ x y z, In3 c x y z → Cov s tk x y z := by
  have hv := vol_in hc
  have hle := vols_le (tk_apart h tk) c
  unfold openSt
  rw [size_vol hc, fold_open tk hc s.blocks (vol c) (fun x hx => near_of (box_in h hx)) (by omega) hle, decide_eq_true_eq]
  have hf := vols_full (tk_apart h tk) c
  constructor
  · intro he x y z hi
    obtain ⟨b, hb, hin⟩ := hf.1 (by unfold tkB; omega) x y z hi
    obtain ⟨b', hb', rfl⟩ := List.mem_map.1 hb
    obtain ⟨h1, h2⟩ := List.mem_filter.1 hb'
    exact ⟨b', h1, h2, hin⟩
  · intro hall
    have := hf.2 fun x y z hi => by
      obtain ⟨b, h1, h2, h3⟩ := hall x y z hi
      exact ⟨b.box, List.mem_map.2 ⟨b, List.mem_filter.2 ⟨h1, h2⟩, rfl⟩, h3⟩
    unfold tkB at this
    omega
/-! The sides. -/
theorem near_out {b : Box} (h : BoxIn b) {d : Int} (hd : d = 0 ∨ d = 1 ∨ d = 2 ∨ d = 3) : Near (outB b d) ∧ (outB b d).z0 = b.z0 ∧ (outB b d).z1 = b.z1 := by
  obtain ⟨h1, h2, h3, h4, h5, h6, h7, h8, h9⟩ := h
  have w1 : ∀ n : Int, -1000000 ≤ n → n ≤ 1000000 → IntKind.i64.wrap (n + 1) = n + 1 := fun n h h' => wrap_in (by omega) (by omega)
  have w2 : ∀ n : Int, -1000000 ≤ n → n ≤ 1000000 → wsub n 1 = n - 1 := fun n h h' => wrap_in (by omega) (by omega)
  rcases hd with rfl | rfl | rfl | rfl
  · have e : outB b 0 = ⟨b.x1, b.y0, b.z0, IntKind.i64.wrap (b.x1 + 1), b.y1, b.z1⟩ := rfl
    rw [e, w1 _ (by omega) (by omega)]; exact ⟨by constructor <;> simp only <;> omega, rfl, rfl⟩
  · have e : outB b 1 = ⟨wsub b.x0 1, b.y0, b.z0, b.x0, b.y1, b.z1⟩ := rfl
    rw [e, w2 _ (by omega) (by omega)]; exact ⟨by constructor <;> simp only <;> omega, rfl, rfl⟩
  · have e : outB b 2 = ⟨b.x0, b.y1, b.z0, b.x1, IntKind.i64.wrap (b.y1 + 1), b.z1⟩ := rfl
    rw [e, w1 _ (by omega) (by omega)]; exact ⟨by constructor <;> simp only <;> omega, rfl, rfl⟩
  · have e : outB b 3 = ⟨b.x0, wsub b.y0 1, b.z0, b.x1, b.y0, b.z1⟩ := rfl
    rw [e, w2 _ (by omega) (by omega)]; exact ⟨by constructor <;> simp only <;> omega, rfl, rfl⟩
theorem part_iff {s : Site} (h : SiteOk s) (tk : List ByteArray) {c : Box} (hc : Near c) {lo hi : Int} (h1 : -1000001 ≤ lo) (h2 : lo ≤ 1000001) (h3 : -1000001 ≤ hi) (h4 : hi ≤ 1000001) :
    partB s tk c lo hi = true ↔ ∀ x y z, In3 ⟨c.x0, c.y0, lo, c.x1, c.y1, hi⟩ x y z → Cov s tk x y z := by
  unfold partB
  rw [Bool.or_eq_true, decide_eq_true_eq, open_iff h tk (c := ⟨c.x0, c.y0, lo, c.x1, c.y1, hi⟩) ⟨hc.x0, hc.x1, hc.y0, hc.y1, ⟨h1, h2⟩, ⟨h3, h4⟩⟩]
  constructor
  · rintro (h | h) x y z hi
    · obtain ⟨a1, a2, b1, b2, c1, c2⟩ := hi; simp only at c1 c2; omega
    · exact h x y z hi
  · exact fun h => .inr h
theorem scan_iff {s : Site} (h : SiteOk s) (tk : List ByteArray) {c : Box} (hc : Near c) {top : Int} (ht : -1000000 ≤ top ∧ top ≤ 1000000) : ∀ (l : List (Int × Int)) (lo : Int), -1000000 ≤ lo → lo ≤ top → Norm l → (∀ j ∈ l, lo ≤ j.1 ∧ j.2 < top) →
    (scanB s tk c top l lo = true ↔ ∀ x y z, In3 ⟨c.x0, c.y0, lo, c.x1, c.y1, top⟩ x y z → Cov s tk x y z ∨ Pts l z)
  | [], lo, h1, h2, _, _ => by
    unfold scanB
    rw [part_iff h tk hc (by omega) (by omega) (by omega) (by omega)]
    constructor
    · exact fun h x y z hi => .inl (h x y z hi)
    · intro h x y z hi
      rcases h x y z hi with h | ⟨p, hp, _⟩
      · exact h
      · cases hp
  | j :: r, lo, h1, h2, hn, hj => by
    have hj0 := hj j List.mem_cons_self
    have hjj := hn.2 j List.mem_cons_self
    have hnr := (List.pairwise_cons.1 hn.1).1
    have hw : IntKind.i64.wrap (j.2 + 1) = j.2 + 1 := wrap_in (by omega) (by omega)
    have ih := scan_iff h tk hc ht r (j.2 + 1) (by omega) (by omega) (norm_tail hn) (fun q hq => ⟨by have := hnr q hq; omega, (hj q (List.mem_cons_of_mem _ hq)).2⟩)
    unfold scanB
    rw [hw]
    have hp := part_iff h tk hc (lo := lo) (hi := j.1) (by omega) (by omega) (by omega) (by omega)
    cases hb : partB s tk c lo j.1 with
    | false =>
      simp only [cond_false]
      constructor
      · intro h; cases h
      · intro hall
        rw [← hb, hp]
        intro x y z ⟨a1, a2, b1, b2, c1, c2⟩
        simp only at c1 c2
        rcases hall x y z ⟨a1, a2, b1, b2, c1, by simp only; omega⟩ with h | ⟨p, hp, q1, q2⟩
        · exact h
        · rcases List.mem_cons.1 hp with rfl | hp
          · omega
          · have := hnr p hp; omega
    | true =>
      simp only [cond_true]
      rw [ih]
      have hp' := hp.1 hb
      constructor
      · intro hall x y z ⟨a1, a2, b1, b2, c1, c2⟩
        simp only at a1 a2 b1 b2 c1 c2
        by_cases g1 : z < j.1
        · exact .inl (hp' x y z ⟨a1, a2, b1, b2, c1, g1⟩)
        · by_cases g2 : z ≤ j.2
          · exact .inr ⟨j, List.mem_cons_self, by omega, g2⟩
          · rcases hall x y z ⟨a1, a2, b1, b2, by simp only; omega, c2⟩ with h | ⟨p, hp, q⟩
            · exact .inl h
            · exact .inr ⟨p, List.mem_cons_of_mem _ hp, q⟩
      · intro hall x y z ⟨a1, a2, b1, b2, c1, c2⟩
        simp only at a1 a2 b1 b2 c1 c2
        rcases hall x y z ⟨a1, a2, b1, b2, by simp only; omega, c2⟩ with h | ⟨p, hp, q1, q2⟩
        · exact .inl h
        · rcases List.mem_cons.1 hp with rfl | hp
          · omega
          · exact .inr ⟨p, hp, q1, q2⟩
theorem boxed_site {s : Site} (h : SiteOk s) {b : Block} (hb : b ∈ s.blocks) : boxedErr s.survey b.box = 0 := by
  have hi := box_in h hb
  obtain ⟨h1, h2, h3, h4, h5, h6, h7, h8, h9⟩ := hi
  have ho := List.any_eq_false.1 h.out b hb
  simp only [blockOut, insideB, Bool.not_not, Bool.or_eq_true, decide_eq_true_eq, not_or] at ho
  unfold boxedErr
  have e1 : b.box.ok = true := by unfold Box.ok; simp only [Bool.and_eq_true, decide_eq_true_eq]; omega
  have e2 : outOf b.box s.survey.pit = false := by
    unfold outOf
    simp only [Bool.or_eq_false_iff, decide_eq_false_iff_not]
    omega
  rw [e1, e2]; rfl
theorem sided_site {s : Site} (h : SiteOk s) {b : Block} (hb : b ∈ s.blocks) {d : Int} (hd : d = 0 ∨ d = 1 ∨ d = 2 ∨ d = 3) : sidedErr s.survey b.box d = 0 := by
  have hs : sideBad d = false := by unfold sideBad; rcases hd with rfl | rfl | rfl | rfl <;> rfl
  unfold sidedErr
  rw [decide_eq_true h.sv, hs, boxed_site h hb]; rfl
theorem joints_in {s : Survey} {b : Box} {d : Int} : ∀ x ∈ pJointed s b d, b.z0 ≤ x.1 ∧ x.2 < b.z1 ∧ x.1 ≤ x.2 := by
  unfold pJointed jList
  have : ∀ (l : List Joint) (a : List (Int × Int)), (∀ x ∈ a, b.z0 ≤ x.1 ∧ x.2 < b.z1 ∧ x.1 ≤ x.2) → ∀ x ∈ l.foldl (jStep b (planeAx d) (planeAt b d)) a, b.z0 ≤ x.1 ∧ x.2 < b.z1 ∧ x.1 ≤ x.2 := by
    intro l
    induction l with
    | nil => exact fun a h => h
    | cons j r ih =>
      intro a ha
      refine ih _ fun x hx => ?_
      unfold jStep at hx
      cases hj : jHit b (planeAx d) (planeAt b d) j with
      | false => rw [hj] at hx; exact ha x hx
      | true =>
        rw [hj] at hx
        simp only [cond_true, List.mem_append, List.mem_cons, List.not_mem_nil, or_false] at hx
        rcases hx with hx | rfl
        · exact ha x hx
        · unfold jHit at hj
          simp only [Bool.and_eq_true, decide_eq_true_eq] at hj
          unfold jIv
          simp only
          omega
  exact this s.joints [] (by simp)
/-- The list of what is jointed is fit. -/
theorem jn_ok {s : Survey} {b : Box} {d : Int} (h : SurveyOk s) (hb : boxedErr s b = 0) : nrmErr (pJointed s b d) = 0 ∧ ∀ x ∈ pJointed s b d, x.1 ≤ x.2 := by
  have hJ := jb_of h hb
  have hlen := jList_len s b (planeAx d) (planeAt b d)
  have hsz := h.size
  simp only [sizeBad, Bool.or_eq_false_iff, decide_eq_false_iff_not] at hsz
  have hall : ∀ (l : List Joint) (acc : List (Int × Int)), (∀ j ∈ l, j ∈ s.joints) → (∀ x ∈ acc, x.1 ≤ x.2 ∧ -1000000 ≤ x.1 ∧ x.2 ≤ 1000000) → ∀ x ∈ l.foldl (jStep b (planeAx d) (planeAt b d)) acc, x.1 ≤ x.2 ∧ -1000000 ≤ x.1 ∧ x.2 ≤ 1000000 := by
    intro l
    induction l with
    | nil => intro acc _ h; exact h
    | cons j r ih =>
      intro acc hm hacc
      refine ih _ (fun y hy => hm y (by simp [hy])) ?_
      intro x hx
      unfold jStep at hx
      cases hc : jHit b (planeAx d) (planeAt b d) j with
      | false => rw [hc] at hx; exact hacc x hx
      | true =>
        rw [hc] at hx
        simp only [cond_true, List.mem_append, List.mem_singleton] at hx
        rcases hx with hx | rfl
        · exact hacc x hx
        · simp only [jHit, Bool.and_eq_true, decide_eq_true_eq] at hc
          have := hJ.z0; have := hJ.z1
          simp only [jIv]
          refine ⟨hc.2, by omega, by omega⟩
  have hx := hall s.joints [] (fun j h => h) (by simp)
  have hl : (pJointed s b d).length ≤ 128 := by unfold pJointed; omega
  have he : ivErr (pJointed s b d) = 0 := by
    unfold ivErr
    have h1 : (pJointed s b d).any ivFar = false := by
      rw [List.any_eq_false]
      intro x hm
      have := hx x hm
      simp only [ivFar, Bool.or_eq_true, Bool.not_eq_true', Bool.and_eq_false_iff, decide_eq_false_iff_not]
      omega
    have h2 : (pJointed s b d).any ivRev = false := by
      rw [List.any_eq_false]
      intro x hm
      have := hx x hm
      simp only [ivRev, decide_eq_true_eq]
      omega
    rw [h1, h2]; rfl
  refine ⟨?_, fun x hm => (hx x hm).1⟩
  · unfold nrmErr
    rw [show decide (10000 < ((pJointed s b d).length : Int)) = false by rw [decide_eq_false_iff_not]; omega, he]; rfl
theorem jointed_site {s : Site} (h : SiteOk s) {b : Block} (hb : b ∈ s.blocks) {d : Int} (hd : d = 0 ∨ d = 1 ∨ d = 2 ∨ d = 3) :
    (jointedR s.survey b.box d).1 = merged (pJointed s.survey b.box d) ∧ Norm (merged (pJointed s.survey b.box d)) ∧ ∀ n, Pts (merged (pJointed s.survey b.box d)) n ↔ Pts (pJointed s.survey b.box d) n := by
  obtain ⟨k1, k3⟩ := jn_ok (d := d) (surveyOk_of h) (boxed_site h hb)
  obtain ⟨m1, m2⟩ := merged_norm _ k3
  refine ⟨?_, m1, m2⟩
  unfold jointedR
  rw [decide_eq_true (sided_site h hb hd), decide_eq_true k1]; rfl
/-- A side is free: it is an open side of the pit, or each cell beside it lies in a taken block or at a joint. -/
theorem free_iff {s : Site} (h : SiteOk s) (tk : List ByteArray) {b : Block} (hb : b ∈ s.blocks) {d : Int} (hd : d = 0 ∨ d = 1 ∨ d = 2 ∨ d = 3) :
    freeB s tk b.box d = true ↔ openB s.survey b.box d = true ∨ ∀ x y z, In3 (outB b.box d) x y z → Cov s tk x y z ∨ Pts (pJointed s.survey b.box d) z := by
  have hi := box_in h hb
  obtain ⟨hn, e0, e1⟩ := near_out hi hd
  obtain ⟨j1, j2, j3⟩ := jointed_site h hb hd
  unfold freeB
  rw [decide_eq_true (sided_site h hb hd), Bool.true_and, Bool.or_eq_true, j1]
  have hm : ∀ j ∈ merged (pJointed s.survey b.box d), b.box.z0 ≤ j.1 ∧ j.2 < b.box.z1 := by
    intro j hj
    have h12 := j2.2 j hj
    obtain ⟨p, hp, p1, p2⟩ := (j3 j.1).1 ⟨j, hj, by omega, h12⟩
    obtain ⟨q, hq, q1, q2⟩ := (j3 j.2).1 ⟨j, hj, h12, by omega⟩
    have a := joints_in p hp
    have a' := joints_in q hq
    omega
  obtain ⟨h1, h2, h3, h4, h5, h6, h7, h8, h9⟩ := hi
  rw [scan_iff h tk hn ⟨by omega, by omega⟩ _ b.box.z0 (by omega) (by omega) j2 hm]
  have hbox : (⟨(outB b.box d).x0, (outB b.box d).y0, b.box.z0, (outB b.box d).x1, (outB b.box d).y1, b.box.z1⟩ : Box) = outB b.box d := by rw [← e0, ← e1]
  rw [hbox]
  simp only [j3]
end Tz.C18
