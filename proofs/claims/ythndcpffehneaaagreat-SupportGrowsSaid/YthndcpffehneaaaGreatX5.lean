/- slices.Sort of strings; no conditions. -/
import Derived.Test.YthndcpffehneaaaGreatX4
import Derived.Test.YthndcpffehneaaaGreatTab
set_option linter.unusedVariables false
set_option linter.unusedSimpArgs false
set_option linter.unusedSectionVars false
set_option linter.defProp false
set_option linter.deprecated false
namespace Gs
open Go Go.Sort Go.Proofs
theorem putRow_map {α : Type} [Inhabited α] (enc : α → Value) (w : World) (blk off : Nat) (d : Array α) : putRow enc w blk off d = putRow id w blk off (d.map enc) := by
  unfold putRow
  congr 1
  funext c
  unfold putCells
  apply Array.ext
  · simp
  · intro i h1 h2
    simp only [Array.getElem_mapIdx, Array.size_map]
    split
    · rename_i h
      have hi : i - off < d.size := by omega
      rw [getElem!_pos d _ hi, getElem!_pos (d.map enc) _ (by simpa using hi)]
      simp
    · rfl
theorem bytes_sorted (l : List ByteArray) : (l.map fun s => s.data.toList).mergeSort (fun x y => decide (x ≤ y)) = (sortB l).map fun s => s.data.toList := by
  have hp : ((l.map fun s => s.data.toList).mergeSort (fun x y => decide (x ≤ y))).Perm (l.map fun s => s.data.toList) := List.mergeSort_perm _ _
  have hs : ((l.map fun s => s.data.toList).mergeSort (fun x y => decide (x ≤ y))).Pairwise (fun a b => decide (a ≤ b) = true) := by
    apply List.pairwise_mergeSort
    · intro a b c h1 h2
      simp only [decide_eq_true_eq] at *
      exact List.le_trans h1 h2
    · intro a b
      simp only [Bool.or_eq_true, decide_eq_true_eq]
      exact List.le_total a b
  generalize (l.map fun s => s.data.toList).mergeSort (fun x y => decide (x ≤ y)) = m at hp hs
  have hm : (m.map fun bs => (⟨bs.toArray⟩ : ByteArray)) = sortB l := by
    apply sortedB_unique
    · refine ((hp.map _).trans ?_).trans (sortB_perm l).symm
      rw [List.map_map]
      have e : ((fun bs : List UInt8 => (⟨bs.toArray⟩ : ByteArray)) ∘ fun s : ByteArray => s.data.toList) = id := by funext s; cases s; simp
      rw [e, List.map_id]
    · unfold SortedB
      rw [List.pairwise_map]
      refine hs.imp fun {a b} h => ?_
      cases hlt : slt ⟨b.toArray⟩ ⟨a.toArray⟩ with
      | false => rfl
      | true =>
        rw [slt_iff] at hlt
        have h2 : a ≤ b := of_decide_eq_true h
        have e1 : (⟨b.toArray⟩ : ByteArray).toList = b := by rw [Go.ByteArray.toList_eq]
        have e2 : (⟨a.toArray⟩ : ByteArray).toList = a := by rw [Go.ByteArray.toList_eq]
        rw [e1, e2] at hlt
        exact absurd hlt (List.not_lt.2 h2)
    · exact sortB_sorted l
  rw [← hm, List.map_map]
  have e : ((fun s : ByteArray => s.data.toList) ∘ fun bs : List UInt8 => (⟨bs.toArray⟩ : ByteArray)) = id := by funext s; simp
  rw [e, List.map_id]
theorem closedL_str : ∀ l : List ByteArray, closedL (l.map .str) = true
  | [] => rfl
  | x :: r => by simp only [List.map_cons, closedL, closed, cond_true, closedL_str r]
theorem shaped_str (l : List ByteArray) : Shaped 1 (l.map .str) := by
  intro d hd
  obtain ⟨s, _, rfl⟩ := List.mem_map.1 hd
  rfl
theorem frozen_no {w : World} {B : Nat} {vs : Array Value} {t : TypeId} (h : w.heap[B]? = some (.cells vs t (0, 0))) (o : Nat) : w.frozen? ⟨B, o, none⟩ = false := by
  simp [World.frozen?, h]
theorem ret_tup {K : Km} {Q : Pm} : Rel K Q (.tup []) (.tuple #[]) := .tup .nil
/-- slices.Sort of strings. -/
theorem gives_sortStr (args : List D) (H : Heap) (r : D) (H' : Heap) (h : sortStrX args H = some (r, H')) : Gives Tryz.prog 63 args H r H' := by
  refine ⟨⟨Tryz.f63, Tryz.func63, by kernel_rfl, by kernel_rfl⟩, fun K Q w avs hids hgl hc ha => ?_⟩
  have none_ : ∀ (p : Option Addr) (cap : Nat), Calls Tryz.prog 63 #[.slice p 0 cap] w fun e w' => e = .returned (.tuple #[]) ∧ w' = w := fun p cap => AnyM.slices_Sort_string_none Tryz.mSort p cap w
  unfold sortStrX at h
  split at h
  · rename_i _ b
    split at h <;> try (cases h; done)
    rename_i nz xs hrow
    split at h <;> try (cases h; done)
    rename_i l hl
    split at h <;> try (cases h; done)
    rename_i hlen
    have hlen := of_decide_eq_true hlen
    injection h with h; injection h with h1 h2; subst h1; subst h2
    have hxs := strs_eq hl
    subst hxs
    cases ha with
    | cons hv ht =>
    cases ht
    have hbo := hc.blk b _ hrow
    have hsame : ∀ c, hget (hset H b (.row nz 1 ([].map D.str) 0 false)) c = hget H c → True := fun _ _ => trivial
    have done_nil : l = [] → ∀ e w', e = Ending.returned (.tuple #[]) ∧ w' = w → ∃ v, e = .returned v ∧ ∃ K' Q', Sim ⟨w, Q⟩ K K' Q' (hset H b (.row nz 1 ((sortB l).map .str) 0 false)) w' ∧ Le Q Q' ∧ Rel K' Q' (.tup []) v := by
      rintro rfl e w' ⟨rfl, rfl⟩
      refine ⟨_, rfl, K, Q, (sim_of hc).congr (fun c => ?_), fun _ _ _ h => h, ret_tup⟩
      rw [hget_hset]
      by_cases e : b = c
      · subst e; rw [if_pos rfl, hrow]; rfl
      · rw [if_neg e]
    cases hv with
    | owNil hk =>
      have hl0 : l = [] := by
        obtain ⟨_, _, _, h⟩ := hbo
        rcases h with ⟨_, h⟩ | ⟨B, base, vs, t, g1, _⟩
        · simpa using h
        · rw [hk] at g1; injection g1 with g1; injection g1 with g1 _; cases g1
      exact (none_ none 0).mono (done_nil hl0)
    | ow hk hle htot haa =>
      rename_i B base tot nz' esz' len cap a
      obtain ⟨hcl, hsh, _, h⟩ := hbo
      rcases h with ⟨g1, _⟩ | ⟨B', base', vs, t, g1, g2, g3, g4, g5, g6, g7⟩
      · rw [hk] at g1; injection g1 with g1; injection g1 with g1 _; cases g1
      have hk' := hk
      rw [g1] at hk'
      injection hk' with hk'; injection hk' with e1 e2; injection e1 with e1; injection e1 with e1 e3; injection e3 with e3 e4; injection e2 with e2; injection e2 with e2 e5; injection e5 with e5 e6
      subst e1; subst e3; subst e4; subst e5; subst e6
      rw [List.length_map] at *
      by_cases hz : l.length = 0
      · have hl0 : l = [] := List.eq_nil_of_length_eq_zero hz
        rw [hz]
        exact (none_ (some a) cap).mono (done_nil hl0)
      · have hcap : cap ≠ 0 := by omega
        have haB := haa hcap
        subst haB
        have hBl : B' < w.heap.size := (Array.getElem?_eq_some_iff.1 g3).1
        have hH : Holds encStr w B' base' (l.map fun s => s.data.toList).toArray := by
          intro j hj
          refine ⟨?_, frozen_no g3 _⟩
          have hj' : j < l.length := by simpa using hj
          obtain ⟨v, h1, h2, _⟩ := g5 j (.str l[j]) (by simp [List.getElem?_eq_getElem hj']) 0 (.str l[j]) rfl
          cases h2
          rw [cell_of_heap g3]
          rw [getElem!_pos _ j (by simpa using hj')]
          simp only [Nat.mul_one, Nat.add_zero] at h1
          rw [h1]; simp
        have hcon := AnyM.slices_Sort_string Tryz.mSort B' base' cap (l.map fun s => s.data.toList) w hH hBl (by simpa using hlen)
        rw [List.length_map] at hcon
        refine Calls.mono hcon ?_
        rintro e w' ⟨rfl, n, os, rfl⟩
        rw [bytes_sorted, putRow_map]
        have hlen' : (sortB l).length = l.length := (sortB_perm l).length_eq
        refine ⟨_, rfl, K, Q, row_turn hc hrow (by rw [List.length_map]; exact g1) g2 g3 (by rw [List.length_map]; exact g4) (by intro o ho; exact g6 o (by omega)) (fun _ _ => trivial) (by simp [hlen']) (closedL_str _) (shaped_str _) (by simp [hlen']) ?_ n os, fun _ _ _ h => h, ret_tup⟩
        intro i d hd j c hcj
        rw [List.getElem?_map] at hd
        cases hsi : (sortB l)[i]? with
        | none => rw [hsi] at hd; cases hd
        | some s0 =>
          rw [hsi] at hd; injection hd with hd; subst hd
          have hj0 : j = 0 ∧ c = .str s0 := by
            cases j with
            | zero => injection hcj with hcj; exact ⟨rfl, hcj.symm⟩
            | succ j => cases hcj
          obtain ⟨rfl, rfl⟩ := hj0
          refine ⟨.string s0, ?_, .str s0, rfl⟩
          simp [hsi]
  · rename_i nz' esz'
    injection h with h; injection h with h1 h2; subst h1; subst h2
    cases ha with
    | cons hv ht =>
    cases ht
    have fin : ∀ e w', e = Ending.returned (.tuple #[]) ∧ w' = w → ∃ v, e = .returned v ∧ ∃ K' Q', Sim ⟨w, Q⟩ K K' Q' H w' ∧ Le Q Q' ∧ Rel K' Q' (.tup []) v := by
      rintro e w' ⟨rfl, rfl⟩
      exact ⟨_, rfl, K, Q, sim_of hc, fun _ _ _ h => h, ret_tup⟩
    cases hv with
    | fzNil => exact (none_ none 0).mono fin
    | fz hn _ _ _ => exact absurd rfl hn
  · cases h
end Gs
