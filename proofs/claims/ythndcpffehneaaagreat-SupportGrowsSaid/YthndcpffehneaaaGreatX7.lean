/- slices.SortFunc of intervals; no conditions. -/
import Derived.Test.YthndcpffehneaaaGreatX6
import Derived.Test.YthndcpffehneaaaGreatSIv
import Derived.Shelf.SlSortCmp.NoneTotal
set_option linter.unusedVariables false
set_option linter.unusedSimpArgs false
set_option linter.unusedSectionVars false
set_option linter.defProp false
set_option linter.deprecated false
namespace Gs
open Go Go.Sort Go.Proofs Tz
theorem closedL_iv : ∀ l : List (Int × Int), closedL (l.map ivD) = true
  | [] => rfl
  | x :: r => by simp only [List.map_cons, closedL, closedL_iv r, ivD, closed]; rfl
theorem shaped_iv (l : List (Int × Int)) : Shaped 2 (l.map ivD) := by
  intro d hd
  obtain ⟨s, _, rfl⟩ := List.mem_map.1 hd
  rfl
theorem ltOf_iv : ltOf (fun x y : Int × Int => Lib.compareInt x.1 y.1) = ltIv := by
  funext x y; exact Tryz.ltLo x y
theorem flat_get (d : Array (Int × Int)) (i : Nat) (hi : i < d.size) (j : Nat) (hj : j < 2) : (flatK Tryz.encIv 2 d)[i * 2 + j]? = some ((Tryz.encIv d[i])[j]!) := by
  have hlt : i * 2 + j < (flatK Tryz.encIv 2 d).size := by rw [size_flatK]; omega
  have hg := get_flatK Tryz.encIv 2 d (i * 2 + j) (by omega)
  rw [getElem!_pos (flatK Tryz.encIv 2 d) (i * 2 + j) hlt] at hg
  rw [Array.getElem?_eq_getElem hlt, hg]
  rw [show (i * 2 + j) / 2 = i by omega, show (i * 2 + j) % 2 = j by omega, getElem!_pos d i hi]
/-- slices.SortFunc of intervals by their lower ends. -/
theorem gives_sortIv (args : List D) (H : Heap) (r : D) (H' : Heap) (h : sortIvX 206 args H = some (r, H')) : Gives Tryz.prog 205 args H r H' := by
  refine ⟨⟨Tryz.f205, Tryz.func205, by kernel_rfl, by kernel_rfl⟩, fun K Q w avs hids hgl hc ha => ?_⟩
  have none_ : ∀ (p : Option Addr) (cap : Nat) (fv : Value), Calls Tryz.prog 205 #[.slice p 0 cap, fv] w fun e w' => e = .returned (.tuple #[]) ∧ w' = w := fun p cap fv => AnyF.slices_SortFunc_none Tryz.sortIv p cap fv w
  unfold sortIvX at h
  split at h
  · rename_i _ b g
    split at h <;> try (cases h; done)
    rename_i nz xs hg hrow
    split at h <;> try (cases h; done)
    rename_i l hl
    split at h <;> try (cases h; done)
    rename_i hlen
    have hlen := of_decide_eq_true hlen
    injection h with h; injection h with h1 h2; subst h1; subst h2
    have hgg := eq_of_beq hg
    subst hgg
    have hxs := ivs_eq hl
    subst hxs
    cases ha with
    | cons hv ht =>
    cases ht with
    | cons hf ht =>
    cases ht
    cases hf with
    | fn hcaps =>
    cases hcaps
    have hbo := hc.blk b _ hrow
    have hperm := Sort.pdq_sorts ltIv
    have done_nil : l = [] → ∀ e w', e = Ending.returned (.tuple #[]) ∧ w' = w → ∃ v, e = .returned v ∧ ∃ K' Q', Sim ⟨w, Q⟩ K K' Q' (hset H b (.row nz 2 ((sortIv l).map ivD) 0 false)) w' ∧ Le Q Q' ∧ Rel K' Q' (.tup []) v := by
      rintro rfl e w' ⟨rfl, rfl⟩
      refine ⟨_, rfl, K, Q, (sim_of hc).congr (fun c => ?_), fun _ _ _ h => h, ret_tup⟩
      rw [hget_hset]
      by_cases e : b = c
      · subst e; rw [if_pos rfl, hrow]
        have : sortIv [] = [] := by
          apply List.eq_nil_of_length_eq_zero
          exact (sortIv_all []).1.length_eq
        rw [this]
      · rw [if_neg e]
    cases hv with
    | owNil hk =>
      have hl0 : l = [] := by
        obtain ⟨_, _, _, h⟩ := hbo
        rcases h with ⟨_, h⟩ | ⟨B, base, vs, t, g1, _⟩
        · simpa using h
        · rw [hk] at g1; injection g1 with g1; injection g1 with g1 _; cases g1
      exact (none_ none 0 _).mono (done_nil hl0)
    | ow hk hle htot haa =>
      rename_i B base tot nz' esz' len cap a
      obtain ⟨hcl, hsh, _, h⟩ := hbo
      rcases h with ⟨g1, _⟩ | ⟨B', base', vs, t, g1, g2, g3, g4, g5, g6, g7⟩
      · rw [hk] at g1; injection g1 with g1; injection g1 with g1 _; cases g1
      have hk' := hk
      rw [g1] at hk'
      injection hk' with hk'; injection hk' with e1 e2; injection e1 with e1; injection e1 with e1 e3; injection e3 with e3 e4; injection e2 with e2; injection e2 with e2 e5; injection e5 with e5 e6
      subst e1; subst e3; subst e4; subst e5; subst e6
      rw [List.length_map] at *
      by_cases hz : l.length = 0
      · have hl0 : l = [] := List.eq_nil_of_length_eq_zero hz
        rw [hz]
        exact (none_ (some a) cap _).mono (done_nil hl0)
      · have hcap : cap ≠ 0 := by omega
        have haB := haa hcap
        subst haB
        have hBl : B' < w.heap.size := (Array.getElem?_eq_some_iff.1 g3).1
        have hH : HoldsK Tryz.encIv 2 w B' base' l.toArray := by
          intro j hj
          refine ⟨?_, frozen_no g3 _⟩
          have hj' : j < l.length * 2 := by simpa using hj
          have hi : j / 2 < l.length := by omega
          have hm : j % 2 < 2 := Nat.mod_lt _ (by omega)
          have hcell : (cellsOf (ivD l[j / 2]))[j % 2]? = some (match j % 2 with | 0 => D.int .i64 l[j / 2].1 | _ => D.int .i64 l[j / 2].2) := by
            rcases (show j % 2 = 0 ∨ j % 2 = 1 by omega) with h | h <;> rw [h] <;> rfl
          obtain ⟨v, h1, h2, _⟩ := g5 (j / 2) (ivD l[j / 2]) (by simp [List.getElem?_eq_getElem hi]) (j % 2) _ hcell
          rw [cell_of_heap g3, show base' + j = base' + j / 2 * 2 + j % 2 by omega, h1]
          have hfg := flat_get l.toArray (j / 2) (by simpa using hi) (j % 2) hm
          have hje : j / 2 * 2 + j % 2 = j := by omega
          rw [hje] at hfg
          have hjF : j < (flatK Tryz.encIv 2 l.toArray).size := by rw [size_flatK]; simpa using hj'
          rw [getElem!_pos _ j hjF]
          rw [Array.getElem?_eq_getElem hjF] at hfg
          injection hfg with hfg
          rw [hfg]
          rcases (show j % 2 = 0 ∨ j % 2 = 1 by omega) with h | h
          · rw [h] at h2 ⊢; cases h2; rfl
          · rw [h] at h2 ⊢; cases h2; rfl
        have eg : ∀ args w, (callFunc 206 args).run Tryz.prog w = .ok (.enter 206 args) w := enters_of Tryz.func206 (by kernel_rfl) rfl
        have hcon := AnyQ.slices_SortFunc_eq Tryz.sortIv 2 Tryz.isAgg126 Tryz.sizeOf126 Tryz.encIv (fun _ => rfl) (fun x v hv => by simp [Tryz.encIv] at hv; rcases hv with rfl | rfl <;> rfl) (fun x y => Lib.compareInt x.1 y.1) Tryz.swoLo 206 #[] B' base' cap l.toArray w eg (Tryz.cmpLays206 B' base' l.toArray.size w) hH hBl (by simpa using hlen)
        rw [ltOf_iv] at hcon
        refine Calls.mono hcon ?_
        rintro e w' ⟨rfl, n, os, rfl⟩
        have hlen' : (sortIv l).length = l.length := (sortIv_all l).1.length_eq
        have hpq : Sort.pdq ltIv l.toArray 0 l.toArray.size (Lib.bitLen l.toArray.size) true true = (sortIv l).toArray := by simp [sortIv]
        rw [hpq]
        refine ⟨_, rfl, K, Q, row_turn hc hrow (by rw [List.length_map]; exact g1) g2 g3 (by rw [List.length_map]; exact g4) (by intro o ho; exact g6 o (by omega)) (fun _ _ => trivial) (by simp [hlen']) (closedL_iv _) (shaped_iv _) (by simp [hlen']) ?_ n os, fun _ _ _ h => h, ret_tup⟩
        intro i d hd j c hcj
        rw [List.getElem?_map] at hd
        cases hsi : (sortIv l)[i]? with
        | none => rw [hsi] at hd; cases hd
        | some s0 =>
          rw [hsi] at hd; injection hd with hd; subst hd
          have hi : i < (sortIv l).length := (List.getElem?_eq_some_iff.1 hsi).1
          have hge : (sortIv l).toArray[i]'(by simpa using hi) = s0 := by
            have := (List.getElem?_eq_some_iff.1 hsi).2
            simpa using this
          have hfg := fun j hj => flat_get (sortIv l).toArray i (by simpa using hi) j hj
          cases j with
          | zero =>
            injection hcj with hcj; subst hcj
            refine ⟨.int .i64 s0.1, ?_, .int _ _, rfl⟩
            rw [hfg 0 (by omega), hge]; rfl
          | succ j =>
            cases j with
            | zero =>
              injection hcj with hcj; subst hcj
              refine ⟨.int .i64 s0.2, ?_, .int _ _, rfl⟩
              rw [hfg 1 (by omega), hge]; rfl
            | succ j => cases hcj
  · rename_i _ esz' g
    split at h <;> try (cases h; done)
    injection h with h; injection h with h1 h2; subst h1; subst h2
    cases ha with
    | cons hv ht =>
    cases ht with
    | cons hf ht =>
    cases ht
    have fin : ∀ e w', e = Ending.returned (.tuple #[]) ∧ w' = w → ∃ v, e = .returned v ∧ ∃ K' Q', Sim ⟨w, Q⟩ K K' Q' H w' ∧ Le Q Q' ∧ Rel K' Q' (.tup []) v := by
      rintro e w' ⟨rfl, rfl⟩
      exact ⟨_, rfl, K, Q, sim_of hc, fun _ _ _ h => h, ret_tup⟩
    cases hv with
    | fzNil => exact (none_ none 0 _).mono fin
    | fz hn _ _ _ => exact absurd rfl hn
  · cases h
end Gs
