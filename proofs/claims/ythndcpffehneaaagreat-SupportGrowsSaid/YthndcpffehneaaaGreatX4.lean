/- Rows that a call turns; no conditions. -/
import Derived.Test.YthndcpffehneaaaGreatX3
import Derived.Test.YthndcpffehneaaaGreatGsF
set_option linter.unusedVariables false
set_option linter.unusedSimpArgs false
set_option linter.unusedSectionVars false
set_option linter.defProp false
set_option linter.deprecated false
namespace Gs
open Go Go.Sort
variable [GlobTab]
/-! Rows that a call of the library turns. -/
theorem blk_in {K : Km} {Q : Pm} {w : World} {b : Nat} {x : Blk} (h : BlkOk K Q w b x) {B o n : Nat} {k : Option (Bool × Nat × Nat)} (hk : K b = some ⟨some (B, o, n), k⟩) : B < w.heap.size := by
  have key : ∀ {ob : Obj}, w.heap[B]? = some ob → B < w.heap.size := fun h => (Array.getElem?_eq_some_iff.1 h).1
  cases x with
  | itr s pos => obtain ⟨B', h1, h2, h3⟩ := h; rw [hk] at h1; injection h1 with h1; injection h1 with h1 _; injection h1 with h1; injection h1 with h1 _; subst h1; exact key h2
  | mapB cs fr => obtain ⟨B', es, cl, h1, h2, _⟩ := h; rw [hk] at h1; injection h1 with h1; injection h1 with h1 _; injection h1 with h1; injection h1 with h1 _; subst h1; exact key h2
  | box cs fr => obtain ⟨B', vs, t, h1, h2, _⟩ := h; rw [hk] at h1; injection h1 with h1; injection h1 with h1 _; injection h1 with h1; injection h1 with h1 _; subst h1; exact key h2
  | row nz esz xs p d =>
    obtain ⟨_, _, _, h⟩ := h
    rcases h with ⟨g1, _⟩ | ⟨B', base, vs, t, g1, _, g3, _⟩
    · rw [hk] at g1; injection g1 with g1; injection g1 with g1 _; cases g1
    · rw [hk] at g1; injection g1 with g1; injection g1 with g1 _; injection g1 with g1; injection g1 with g1 _; subst g1; exact key g3
theorem lt_of_peek {w : World} {B o : Nat} {v : Value} (h : Peek w B o v) : B < w.heap.size := by
  rcases h with h | ⟨_, es, c, h, _⟩
  · exact lt_of_cell h.1
  · exact (Array.getElem?_eq_some_iff.1 h).1
theorem Sim.turn {w0 : World0} {K0 K : Km} {Q : Pm} {H : Heap} {w w' : World} (hs : Sim w0 K0 K Q H w) {b B base n : Nat} {k : Option (Bool × Nat × Nat)} {x y : Blk} (hx : hget H b = some x) (hk : K b = some ⟨some (B, base, n), k⟩)
    (hw : ∀ k, k ≠ B → k < w.heap.size → w'.heap[k]? = w.heap[k]?) (hsz : w.heap.size ≤ w'.heap.size) (hos : w'.os = w.os) (hta : w'.tape = w.tape) (hou : w'.output = w.output)
    (hq : ∀ o v, Q B o = some v → Peek w' B o v) (hnew : BlkOk K Q w' b y) (hcl : isClean y = true → isClean x = true) : Sim w0 K0 K Q (hset H b y) w' := by
  have hlow := hs.low b _ B base n hk rfl
  refine ⟨⟨fun B' o v h => ?_, fun c z hz => ?_, fun c j hj => ?_, hs.inj⟩, ⟨?_, ?_, ?_, ?_, fun k hk' hn => ?_⟩, hs.low, fun c hc hc' z hz hcz => ?_, hs.qk, hs.grow⟩
  · by_cases e : B' = B
    · subst e; exact hq o v h
    · have hv := hs.val B' o v h
      exact hv.congr (hw B' e (lt_of_peek hv))
  · rw [hget_hset] at hz
    by_cases e : b = c
    · subst e; simp at hz; subst hz; exact hnew
    · rw [if_neg e] at hz
      have hbo := hs.blk c z hz
      refine hbo.heap (fun _ h => h) (fun _ _ h _ => h) (fun B' o n k h => hw B' (fun e' => ?_) (blk_in hbo h)) (fun _ _ _ h => h) fun _ _ _ _ _ _ => rfl
      subst e'
      exact e (hs.inj b c _ _ _ _ _ _ _ hk h rfl rfl)
  · rw [hget_hset]
    by_cases e : b = c
    · simp [e]
    · rw [if_neg e]; exact hs.dom c j hj
  · rw [hos]; exact hs.kept.os
  · rw [hta]; exact hs.kept.tape
  · rw [hou]; exact hs.kept.output
  · exact Nat.le_trans hs.kept.size hsz
  · rw [hw k (fun e => ?_) (Nat.lt_of_lt_of_le hk' hs.kept.size)]
    · exact hs.kept.block k hk' hn
    · subst e
      rcases hlow with h | h
      · exact hn h
      · omega
  · rw [hget_hset] at hz
    by_cases e : b = c
    · subst e; simp at hz; subst hz; exact hs.clean b hc hc' x hx (hcl hcz)
    · rw [if_neg e] at hz; exact hs.clean c hc hc' z hz hcz
theorem sim_of {K : Km} {Q : Pm} {H : Heap} {w : World} (hc : Core K Q H w) : Sim ⟨w, Q⟩ K K Q H w := ⟨hc, ⟨rfl, rfl, rfl, Nat.le_refl _, fun _ _ _ => rfl⟩, fun b i B o n hk hl => .inl ⟨b, i, o, n, hk, hl⟩, fun _ _ _ _ _ _ => rfl, fun _ _ _ _ => rfl, fun _ _ _ h => h⟩
/-- The row of an own block, laid anew. -/
theorem row_turn {K : Km} {Q : Pm} {H : Heap} {w : World} (hc : Core K Q H w) {b : Nat} {nz : Bool} {esz : Nat} {xs ys : List D} (hx : hget H b = some (.row nz esz xs 0 false)) {B base : Nat} {vs : Array Value} {t : TypeId}
    (hk : K b = some ⟨some (B, base, vs.size), some (nz, esz, xs.length)⟩) (hnz : nz = true → xs ≠ []) (hB : w.heap[B]? = some (.cells vs t (0, 0))) (hsz : base + xs.length * esz ≤ vs.size) (hq : ∀ o, base ≤ o → Q B o = none) (hq0 : ∀ o, o < base → True)
    (hlen : ys.length = xs.length) (hcl : closedL ys = true) (hsh : Shaped esz ys) {F : Array Value} (hF : F.size = xs.length * esz)
    (hel : ∀ (i : Nat) (d : D), ys[i]? = some d → ∀ (j : Nat) (c : D), (cellsOf d)[j]? = some c → ∃ v, F[i * esz + j]? = some v ∧ Rel K Q c v ∧ v.oneCell' = true) (n : Nat) (os : Array Obj) :
    Sim ⟨w, Q⟩ K K Q (hset H b (.row nz esz ys 0 false)) (grow (putRow id (Sort.ahead w n) B base F) os) := by
  have hBl : B < w.heap.size := (Array.getElem?_eq_some_iff.1 hB).1
  have hwB : (grow (putRow id (Sort.ahead w n) B base F) os).heap[B]? = some (.cells (putCells id base F vs) t (0, 0)) := by
    have h1 : (putRow id (Sort.ahead w n) B base F).heap[B]? = some (.cells (putCells id base F vs) t (0, 0)) := by
      simp [putRow, mapBlock, Array.getElem?_modify, hB, onCells]
    show ((putRow id (Sort.ahead w n) B base F).heap ++ os)[B]? = _
    rw [Array.getElem?_append_left (by simpa using hBl)]; exact h1
  have hsz' : (putCells id base F vs).size = vs.size := by simp [putCells]
  refine (sim_of hc).turn hx hk (fun k hne hlt => ?_) ?_ rfl rfl rfl (fun o v ho => ?_) ?_ (fun _ => rfl)
  · show ((putRow id (Sort.ahead w n) B base F).heap ++ os)[k]? = _
    rw [Array.getElem?_append_left (by simpa using hlt)]
    simp only [putRow, mapBlock, Array.getElem?_modify, heap_ahead]
    rw [if_neg (fun e => hne e.symm)]
  · show w.heap.size ≤ ((putRow id (Sort.ahead w n) B base F).heap ++ os).size
    simp
  · have hob : o < base := by
      rcases Nat.lt_or_ge o base with h | h
      · exact h
      · rw [hq o h] at ho; cases ho
    have hv : w.cell? ⟨B, o, none⟩ = some v ∧ v.oneCell' = true := by
      rcases hc.val B o v ho with h | ⟨_, es, c, h, _⟩
      · exact h
      · rw [hB] at h; cases h
    refine .inl ⟨?_, hv.2⟩
    rw [cell_of_heap hwB]
    have := hv.1
    rw [cell_of_heap hB] at this
    simp only [putCells, Array.getElem?_mapIdx, this, Option.map_some]
    rw [if_neg (by omega)]
  · refine ⟨hcl, hsh, Nat.zero_le _, .inr ⟨B, base, putCells id base F vs, t, ?_, ?_, hwB, ?_, ?_, ?_, ?_⟩⟩
    · rw [hsz', hlen]; exact hk
    · intro h; have := hnz h; intro he; apply this; rw [he] at hlen; exact List.eq_nil_of_length_eq_zero hlen.symm
    · rw [hsz', hlen]; exact hsz
    · intro i d hd j c hcj
      obtain ⟨v, h1, h2, h3⟩ := hel i d hd j c hcj
      refine ⟨v, ?_, h2, h3⟩
      have hlt : i * esz + j < F.size := (Array.getElem?_eq_some_iff.1 h1).1
      have hin : base + i * esz + j < vs.size := by omega
      simp only [putCells, Array.getElem?_mapIdx, Array.getElem?_eq_getElem hin, Option.map_some]
      rw [if_pos (by omega)]
      have he : base + i * esz + j - base = i * esz + j := by omega
      rw [he, getElem!_pos F _ hlt]
      have := Array.getElem?_eq_getElem hlt
      rw [this] at h1; injection h1 with h1; rw [h1]; rfl
    · intro o ho; exact hq o (by omega)
    · intro o h1 h2; omega
end Gs
