/- Part S86; no conditions. -/
import Derived.Test.YthndcpffehneaaaGreatS82
set_option linter.unusedVariables false
set_option linter.unusedSimpArgs false
set_option linter.unusedSectionVars false
set_option linter.defProp false
set_option linter.deprecated false
set_option maxRecDepth 100000
open Gs Go
namespace Tz.C18
/-! Volumes by counting points: boxes that are apart from each other fill a box exactly if each of its points lies in one of them. -/
def sumR (lo : Int) : Nat → (Int → Int) → Int
  | 0, _ => 0
  | n + 1, f => sumR lo n f + f (lo + n)
theorem sumR_add (lo : Int) (f g : Int → Int) : ∀ n, sumR lo n (fun i => f i + g i) = sumR lo n f + sumR lo n g
  | 0 => rfl
  | n + 1 => by simp only [sumR]; rw [sumR_add lo f g n]; omega
theorem sumR_zero (lo : Int) : ∀ n, sumR lo n (fun _ => 0) = 0
  | 0 => rfl
  | n + 1 => by simp only [sumR]; rw [sumR_zero lo n]; rfl
theorem sumR_mulL (lo c : Int) (f : Int → Int) : ∀ n, sumR lo n (fun i => c * f i) = c * sumR lo n f
  | 0 => by simp [sumR]
  | n + 1 => by simp only [sumR]; rw [sumR_mulL lo c f n, Int.mul_add]
theorem sumR_mulR (lo c : Int) (f : Int → Int) : ∀ n, sumR lo n (fun i => f i * c) = sumR lo n f * c
  | 0 => by simp [sumR]
  | n + 1 => by simp only [sumR]; rw [sumR_mulR lo c f n, Int.add_mul]
theorem sumR_le (lo : Int) {f g : Int → Int} : ∀ n : Nat, (∀ i, lo ≤ i → i < lo + n → f i ≤ g i) → sumR lo n f ≤ sumR lo n g
  | 0, _ => Int.le_refl _
  | n + 1, h => by
    simp only [sumR]
    have := sumR_le lo n fun i h1 h2 => h i h1 (by omega)
    have := h (lo + n) (by omega) (by omega)
    omega
theorem sumR_eq (lo : Int) {f g : Int → Int} : ∀ n : Nat, (∀ i, lo ≤ i → i < lo + n → f i ≤ g i) → sumR lo n f = sumR lo n g → ∀ i, lo ≤ i → i < lo + n → f i = g i
  | 0, _, _, i, h1, h2 => by omega
  | n + 1, h, he, i, h1, h2 => by
    simp only [sumR] at he
    have a := sumR_le lo n fun i h1 h2 => h i h1 (by omega)
    have b := h (lo + n) (by omega) (by omega)
    by_cases hi : i = lo + n
    · subst hi; omega
    · exact sumR_eq lo n (fun i h1 h2 => h i h1 (by omega)) (by omega) i h1 (by omega)
theorem sumR_congr (lo : Int) {f g : Int → Int} : ∀ n : Nat, (∀ i, lo ≤ i → i < lo + n → f i = g i) → sumR lo n f = sumR lo n g
  | 0, _ => rfl
  | n + 1, h => by
    simp only [sumR]
    rw [sumR_congr lo n fun i h1 h2 => h i h1 (by omega), h (lo + n) (by omega) (by omega)]
/-- 1 in [a, b), 0 outside. -/
def ind (a b i : Int) : Int := if a ≤ i ∧ i < b then 1 else 0
theorem ind_le (a b i : Int) : ind a b i ≤ 1 := by unfold ind; split <;> omega
theorem ind_nn (a b i : Int) : 0 ≤ ind a b i := by unfold ind; split <;> omega
theorem sumR_ind (lo a b : Int) : ∀ n : Nat, sumR lo n (ind a b) = max 0 (min b (lo + n) - max a lo)
  | 0 => by simp only [sumR]; omega
  | n + 1 => by
    simp only [sumR]
    rw [sumR_ind lo a b n]
    unfold ind
    split <;> omega
theorem sumR_one (lo : Int) : ∀ n : Nat, sumR lo n (fun _ => 1) = n
  | 0 => rfl
  | n + 1 => by simp only [sumR]; rw [sumR_one lo n]; omega
abbrev F3 := Int → Int → Int → Int
def pts (c : Box) (f : F3) : Int := sumR c.x0 (c.x1 - c.x0).toNat fun x => sumR c.y0 (c.y1 - c.y0).toNat fun y => sumR c.z0 (c.z1 - c.z0).toNat fun z => f x y z
structure In3 (c : Box) (x y z : Int) : Prop where
  x0 : c.x0 ≤ x
  x1 : x < c.x1
  y0 : c.y0 ≤ y
  y1 : y < c.y1
  z0 : c.z0 ≤ z
  z1 : z < c.z1
theorem pts_add (c : Box) (f g : F3) : pts c (fun x y z => f x y z + g x y z) = pts c f + pts c g := by
  unfold pts
  simp only [sumR_add]
theorem pts_zero (c : Box) : pts c (fun _ _ _ => 0) = 0 := by
  unfold pts
  simp only [sumR_zero]
theorem pts_le {c : Box} {f g : F3} (h : ∀ x y z, In3 c x y z → f x y z ≤ g x y z) : pts c f ≤ pts c g :=
  sumR_le _ _ fun x a1 a2 => sumR_le _ _ fun y b1 b2 => sumR_le _ _ fun z c1 c2 => h x y z ⟨a1, by omega, b1, by omega, c1, by omega⟩
theorem pts_congr {c : Box} {f g : F3} (h : ∀ x y z, In3 c x y z → f x y z = g x y z) : pts c f = pts c g :=
  sumR_congr _ _ fun x a1 a2 => sumR_congr _ _ fun y b1 b2 => sumR_congr _ _ fun z c1 c2 => h x y z ⟨a1, by omega, b1, by omega, c1, by omega⟩
theorem pts_eq {c : Box} {f g : F3} (h : ∀ x y z, In3 c x y z → f x y z ≤ g x y z) (he : pts c f = pts c g) (x y z : Int) (hp : In3 c x y z) : f x y z = g x y z := by
  obtain ⟨a1, a2, b1, b2, c1, c2⟩ := hp
  have h1 := sumR_eq _ _ (fun x a1 a2 => sumR_le _ _ fun y b1 b2 => sumR_le _ _ fun z c1 c2 => h x y z ⟨a1, by omega, b1, by omega, c1, by omega⟩) he x a1 (by omega)
  have h2 := sumR_eq _ _ (fun y b1 b2 => sumR_le _ _ fun z c1 c2 => h x y z ⟨a1, by omega, b1, by omega, c1, by omega⟩) h1 y b1 (by omega)
  exact sumR_eq _ _ (fun z c1 c2 => h x y z ⟨a1, by omega, b1, by omega, c1, by omega⟩) h2 z c1 (by omega)
def len (a b : Int) : Int := max 0 (b - a)
def vol (c : Box) : Int := len c.x0 c.x1 * len c.y0 c.y1 * len c.z0 c.z1
def ins (b : Box) : F3 := fun x y z => ind b.x0 b.x1 x * ind b.y0 b.y1 y * ind b.z0 b.z1 z
theorem pts_ins (c b : Box) : pts c (ins b) = vol (inter c b) := by
  unfold pts ins
  simp only [sumR_mulL, sumR_mulR, sumR_ind]
  have key : ∀ p q r s : Int, max 0 (min q (r + ((s - r).toNat : Nat)) - max p r) = len (max r p) (min s q) := by
    intro p q r s
    unfold len
    omega
  simp only [key]
  rfl
theorem pts_one (c : Box) : pts c (fun _ _ _ => 1) = vol c := by
  unfold pts
  simp only [sumR_one]
  have h1 : ∀ k : Int, (fun _ : Int => k) = fun i => k * (fun _ => 1 : Int → Int) i := fun k => by funext i; simp
  rw [h1 ((c.z1 - c.z0).toNat : Int), sumR_mulL, sumR_one, h1, sumR_mulL, sumR_one]
  have h2 : ∀ a b : Int, (((b - a).toNat : Nat) : Int) = len a b := fun a b => by unfold len; omega
  rw [h2, h2, h2]
  unfold vol
  rw [Int.mul_comm, Int.mul_comm (len c.z0 c.z1), ← Int.mul_assoc]
theorem ins_one {b : Box} {x y z : Int} (h : In3 b x y z) : ins b x y z = 1 := by
  obtain ⟨a1, a2, b1, b2, c1, c2⟩ := h
  unfold ins ind
  rw [if_pos ⟨a1, a2⟩, if_pos ⟨b1, b2⟩, if_pos ⟨c1, c2⟩]; rfl
theorem ins_zero {b : Box} {x y z : Int} (h : ¬ In3 b x y z) : ins b x y z = 0 := by
  unfold ins ind
  by_cases hx : b.x0 ≤ x ∧ x < b.x1
  · by_cases hy : b.y0 ≤ y ∧ y < b.y1
    · by_cases hz : b.z0 ≤ z ∧ z < b.z1
      · exact absurd ⟨hx.1, hx.2, hy.1, hy.2, hz.1, hz.2⟩ h
      · rw [if_neg hz]; simp
    · rw [if_neg hy]; simp
  · rw [if_neg hx]; simp
theorem ins_nn (b : Box) (x y z : Int) : 0 ≤ ins b x y z := by
  by_cases h : In3 b x y z
  · rw [ins_one h]; omega
  · rw [ins_zero h]; omega
theorem vol_nn (c : Box) : 0 ≤ vol c := by
  unfold vol
  have h : ∀ a b, 0 ≤ len a b := fun a b => by unfold len; omega
  exact Int.mul_nonneg (Int.mul_nonneg (h _ _) (h _ _)) (h _ _)
theorem apart_in {a b : Box} (h : apart a b = true) {x y z : Int} (ha : In3 a x y z) (hb : In3 b x y z) : False := by
  obtain ⟨a1, a2, b1, b2, c1, c2⟩ := ha
  obtain ⟨d1, d2, e1, e2, f1, f2⟩ := hb
  unfold apart at h
  simp only [Bool.or_eq_true, decide_eq_true_eq] at h
  omega
/-- In how many boxes a point lies. -/
def cnt : List Box → F3
  | [], _, _, _ => 0
  | b :: l, x, y, z => ins b x y z + cnt l x y z
def vols (c : Box) : List Box → Int
  | [] => 0
  | b :: l => vol (inter c b) + vols c l
theorem pts_cnt (c : Box) : ∀ l, pts c (cnt l) = vols c l
  | [] => pts_zero c
  | b :: l => by
    have h : pts c (cnt (b :: l)) = pts c (fun x y z => ins b x y z + cnt l x y z) := rfl
    rw [h, pts_add, pts_ins, pts_cnt c l]; rfl
theorem cnt_nn (x y z : Int) : ∀ l, 0 ≤ cnt l x y z
  | [] => Int.le_refl _
  | b :: l => by simp only [cnt]; have := cnt_nn x y z l; have := ins_nn b x y z; omega
theorem cnt_zero {x y z : Int} : ∀ {l : List Box}, (∀ b ∈ l, ¬ In3 b x y z) → cnt l x y z = 0
  | [], _ => rfl
  | b :: l, h => by simp only [cnt]; rw [ins_zero (h b List.mem_cons_self), cnt_zero fun c hc => h c (List.mem_cons_of_mem _ hc)]; rfl
theorem cnt_one {x y z : Int} : ∀ {l : List Box}, l.Pairwise (fun a b => apart a b = true) → (∃ b ∈ l, In3 b x y z) → cnt l x y z = 1
  | [], _, ⟨b, hb, _⟩ => by cases hb
  | a :: l, hp, ⟨b, hb, hi⟩ => by
    obtain ⟨h1, h2⟩ := List.pairwise_cons.1 hp
    simp only [cnt]
    by_cases ha : In3 a x y z
    · rw [ins_one ha, cnt_zero fun c hc hi => apart_in (h1 c hc) ha hi]; rfl
    · rcases List.mem_cons.1 hb with rfl | hb
      · exact absurd hi ha
      · rw [ins_zero ha, cnt_one h2 ⟨b, hb, hi⟩]; rfl
theorem cnt_le {x y z : Int} {l : List Box} (hp : l.Pairwise (fun a b => apart a b = true)) : cnt l x y z ≤ 1 := by
  by_cases h : ∃ b ∈ l, In3 b x y z
  · rw [cnt_one hp h]; omega
  · rw [cnt_zero fun b hb hi => h ⟨b, hb, hi⟩]; omega
theorem vols_le {l : List Box} (hp : l.Pairwise (fun a b => apart a b = true)) (c : Box) : vols c l ≤ vol c := by
  rw [← pts_cnt, ← pts_one]
  exact pts_le fun x y z _ => cnt_le hp
/-- The law. -/
theorem vols_full {l : List Box} (hp : l.Pairwise (fun a b => apart a b = true)) (c : Box) : vols c l = vol c ↔ ∀ x y z, In3 c x y z → ∃ b ∈ l, In3 b x y z := by
  rw [← pts_cnt, ← pts_one]
  constructor
  · intro he x y z hi
    have := pts_eq (fun x y z _ => cnt_le hp) he x y z hi
    by_cases h : ∃ b ∈ l, In3 b x y z
    · exact h
    · rw [cnt_zero fun b hb hi => h ⟨b, hb, hi⟩] at this; exact absurd this (by omega)
  · intro h
    exact pts_congr fun x y z hi => cnt_one hp (h x y z hi)
end Tz.C18
