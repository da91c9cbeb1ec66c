/- span.Normalize; no conditions. -/
import Derived.Test.YthndcpffehneaaaGreatS13
import Derived.Sort.AssemblyPlain
set_option linter.unusedVariables false
set_option linter.unusedSimpArgs false
set_option linter.unusedSectionVars false
set_option linter.defProp false
set_option linter.deprecated false
set_option maxRecDepth 100000
open Gs Go
namespace Tz
def mstep (acc : List (Int × Int)) (x : Int × Int) : List (Int × Int) := match acc.getLast? with
  | none => acc ++ [x]
  | some p => bif decide (x.1 ≤ p.2 + 1) then acc.dropLast ++ [(p.1, max p.2 x.2)] else acc ++ [x]
def inB (x : Int × Int) : Prop := -1000000000000 ≤ x.1 ∧ x.1 ≤ 1000000000000 ∧ -1000000000000 ≤ x.2 ∧ x.2 ≤ 1000000000000
theorem mstep_in {acc : List (Int × Int)} {x : Int × Int} (h : ∀ p ∈ acc, inB p) (hx : inB x) : ∀ p ∈ mstep acc x, inB p := by
  unfold mstep
  cases hl : acc.getLast? with
  | none => intro p hp; simp at hp; rcases hp with hp | rfl; exact h p hp; exact hx
  | some q =>
    have hq := h q (List.mem_of_getLast? hl)
    simp only
    cases hc : decide (x.1 ≤ q.2 + 1) with
    | false => intro p hp; simp at hp; rcases hp with hp | rfl; exact h p hp; exact hx
    | true =>
      intro p hp
      simp only [cond_true, List.mem_append, List.mem_singleton] at hp
      rcases hp with hp | rfl
      · exact h p (List.dropLast_subset acc hp)
      · obtain ⟨a, b, c, d⟩ := hq; obtain ⟨a', b', c', d'⟩ := hx
        exact ⟨a, b, by simp only; omega, by simp only; omega⟩
theorem mstep_len {acc : List (Int × Int)} {x : Int × Int} : (mstep acc x).length ≤ acc.length + 1 := by
  unfold mstep
  cases acc.getLast? with
  | none => simp
  | some q =>
    simp only
    cases decide (x.1 ≤ q.2 + 1)
    · simp
    · simp
theorem lp_nm (nz dy : Bool) (xs : List (Int × Int)) (hb : xs.length < 4000000000) (hin : ∀ p ∈ xs, inB p) (e : Env) (H : Heap) (h4 : Gs.get e 4 = .ow 1004) (h12 : Gs.get e 12 = .ow 10181) (h13 : Gs.get e 13 = int xs.length) (h14 : Gs.get e 14 = int 0) (hH : hget H 1004 = some (.row true 2 [] 0 true)) (hH1 : hget H 10180 = none) (hH2 : hget H 10181 = some (.row nz 2 (xs.map ivD) 0 dy)) :
    Ends T 163005 e H (fun X e' H' => X = .ex 0 ∧ Gs.get e' 4 = .ow 1004 ∧ hget H' 1004 = some (.row true 2 ((xs.foldl mstep []).map ivD) 0 true)) := by
  refine (loop_fold (T := T) (key := 163005) (li := l163005) rfl xs mstep (fun i a e H => a.length ≤ i ∧ (∀ p ∈ a, inB p) ∧ Gs.get e 4 = .ow 1004 ∧ Gs.get e 12 = .ow 10181 ∧ Gs.get e 13 = int xs.length ∧ Gs.get e 14 = int i ∧ hget H 1004 = some (.row true 2 (a.map ivD) 0 true) ∧ hget H 10180 = none ∧ hget H 10181 = some (.row nz 2 (xs.map ivD) 0 dy)) (fun a X e' H' => X = .ex 0 ∧ Gs.get e' 4 = .ow 1004 ∧ hget H' 1004 = some (.row true 2 (a.map ivD) 0 true)) ?_ ?_ [] e H ⟨Nat.le_refl _, by simp, h4, h12, h13, h14, hH, hH1, hH2⟩)
  · rintro i x a e H hx hi ⟨hal, hain, h4, h12, h13, h14, hH, hH1, hH2⟩
    have hx' : (xs.map ivD)[i]? = some (.agg [int x.1, int x.2]) := by simp [hx, ivD]
    have hxin := hin x (List.mem_of_getElem? hx)
    have hm1 := mstep_in hain hxin
    have hm2 := mstep_len (acc := a) (x := x)
    cases hl : a.getLast? with
    | none =>
      have ha : a = [] := by simpa using hl
      subst ha
      simp only [↓eA, eB, seval, l163005, h4, h12, h13, h14, hH, hH1, hH2, hi, hx', show fits 1 16 = true from rfl, wrap_succ (show i < 4611686018427387904 by omega)]
      refine ⟨trivial, by omega, hm1, ?_⟩
      and_intros <;> first | trivial | rfl
    | some p =>
      obtain ⟨pre, rfl⟩ : ∃ pre, a = pre ++ [p] := by
        exact List.getLast?_eq_some_iff.1 hl
      have hpin := hain p (by simp)
      obtain ⟨hp1, hp2, hp3, hp4⟩ := hpin
      have hlen : (pre ++ [p]).length = pre.length + 1 := by simp
      have hg : (List.map ivD (pre ++ [p]))[pre.length]? = some (.agg [int p.1, int p.2]) := by simp [ivD]
      have hw : IntKind.i64.wrap (p.2 + 1) = p.2 + 1 := wrap_in (by omega) (by omega)
      have hgt : decide ((0 : Int) < ((pre.length + 1 : Nat) : Int)) = true := by rw [decide_eq_true_eq]; omega
      have hlt : pre.length < pre.length + 1 := by omega
      have hwp := wrap_pred (show 0 < pre.length + 1 by omega) (show pre.length + 1 < 4611686018427387904 by omega)
      rw [Nat.add_sub_cancel] at hwp
      cases hc : decide (x.1 ≤ p.2 + 1) with
      | true =>
        have hms : mstep (pre ++ [p]) x = pre ++ [(p.1, max p.2 x.2)] := by simp [mstep, hc]
        have hset : List.set (List.map ivD (pre ++ [p])) pre.length (.agg [int p.1, int (max p.2 x.2)]) = List.map ivD (mstep (pre ++ [p]) x) := by
          rw [hms]; simp [ivD]
        simp only [↓eA, eB, seval, l163005, h4, h12, h13, h14, hH, hH1, hH2, hi, hx', hlen, hg, hw, hgt, hlt, hwp, hc, hset, Nat.zero_le, wrap_succ (show i < 4611686018427387904 by omega)]
        refine ⟨trivial, by omega, hm1, ?_⟩
        and_intros <;> first | trivial | rfl
      | false =>
        have hms : mstep (pre ++ [p]) x = pre ++ [p] ++ [x] := by simp [mstep, hc]
        have hmp : List.map ivD (pre ++ [p]) ++ [.agg [int x.1, int x.2]] = List.map ivD (mstep (pre ++ [p]) x) := by rw [hms]; simp [ivD]
        have hfit : fits (pre.length + 1 + 1) 16 = true := by simp [fits]; omega
        simp only [↓eA, eB, seval, l163005, h4, h12, h13, h14, hH, hH1, hH2, hi, hx', hlen, hg, hw, hgt, hlt, hwp, hc, hfit, hmp, Nat.zero_le, wrap_succ (show i < 4611686018427387904 by omega)]
        refine ⟨trivial, by omega, hm1, ?_⟩
        and_intros <;> first | trivial | rfl
  · rintro a e H ⟨hal, hain, h4, h12, h13, h14, hH, hH1, hH2⟩
    simp only [↓eA, eB, seval, l163005, h4, h12, h13, h14, hH, hH1, hH2, Nat.lt_irrefl]
    and_intros <;> first | trivial | rfl
def merged (l : List (Int × Int)) : List (Int × Int) := (sortIv l).foldl mstep []
theorem e_sortFunc (nz : Bool) (l : List (Int × Int)) (hb : l.length < 4611686018427387904) : L.call 205 [.ow 500001, .fn 206 []] [(500001, .row nz 2 (l.map ivD) 0 false)] = some (.tup [], [(500001, .row nz 2 ((sortIv l).map ivD) 0 false)]) :=
  ext_eq (s := sortIvX 206) rfl (by simp [sortIvX, hget, ivs_map, hset, hb])
theorem e_sortFunc0 : L.call 205 [.fz true 2 [], .fn 206 []] [] = some (.tup [], []) :=
  ext_eq (s := sortIvX 206) rfl rfl
theorem e_normal (l : List (Int × Int)) (hb : l.length < 4000000000) (hin : ∀ p ∈ sortIv l, inB p) (hsl : (sortIv l).length = l.length) : L.call 163 [.fz true 2 (l.map ivD)] [] = some (.fz true 2 ((merged l).map ivD), []) :=
  call_eq rfl rfl (by
    have hc := e_clone l hb
    by_cases hl : l = []
    · subst hl
      rw [if_pos rfl] at hc
      simp only [↓eA, eB, seval, c163, hc, e_sortFunc0]
      rw [loop_unfold_c (T := T) (k := 163005) rfl]
      have hs0 : sortIv [] = [] := List.eq_nil_of_length_eq_zero (by simpa using hsl)
      simp only [↓eA, eB, seval, l163005]
      simp [merged, hs0]
    · rw [if_neg hl] at hc
      have hsort := e_sortFunc false l (by omega)
      simp only [↓eA, eB, seval, c163, hc, hsort]
      generalize hE : (lim T).loop 163005 _ _ = R
      obtain ⟨X, e', H', rfl, rfl, g4, gH⟩ := Ends.at hE (lp_nm false true (sortIv l) (by omega) hin _ _ rfl rfl rfl rfl rfl rfl rfl)
      simp only [↓eA, eB, seval, g4, gH]
      rfl)
theorem ltIv_swo : Sort.SWO ltIv := ⟨fun x => by simp [ltIv], fun x y z h h' => by simp only [ltIv, decide_eq_true_eq] at *; omega, fun x y z h h' => by simp only [ltIv, decide_eq_false_iff_not] at *; omega⟩
theorem sortIv_all (l : List (Int × Int)) : (sortIv l).Perm l ∧ (sortIv l).Pairwise fun a b => a.1 ≤ b.1 := by
  have h := Sort.pdq_sorts ltIv ltIv_swo l.toArray 0 l.length (Lib.bitLen l.length) true true (Nat.zero_le _) (by simp) (Or.inl rfl)
  obtain ⟨⟨hsz, _, hp⟩, hs⟩ := h
  have hsz' : (Sort.pdq ltIv l.toArray 0 l.length (Lib.bitLen l.length) true true).size = l.length := by simpa using hsz
  refine ⟨?_, ?_⟩
  · have e1 : ∀ a : Array (Int × Int), a.size = l.length → a.extract 0 l.length = a := fun a ha => by rw [← ha]; exact Array.extract_size
    rw [e1 _ hsz', e1 _ (by simp)] at hp
    simpa [sortIv] using hp
  · unfold sortIv
    rw [List.pairwise_iff_getElem]
    intro i j hi hj hij
    simp only [Array.length_toList] at hi hj
    have h := hs i j (Nat.zero_le _) hij (by omega)
    simp only [ltIv, decide_eq_false_iff_not] at h
    rw [getElem!_pos _ j hj, getElem!_pos _ i hi] at h
    simp only [Array.getElem_toList]
    omega
theorem ivErr_in {l : List (Int × Int)} (h : ivErr l = 0) : ∀ p ∈ l, inB p := by
  intro p hp
  unfold ivErr at h
  cases hc : l.any ivFar with
  | true => rw [hc] at h; cases h
  | false =>
    have := List.any_eq_false.1 hc p hp
    simp only [ivFar, Bool.or_eq_true, Bool.not_eq_true', Bool.and_eq_false_iff, decide_eq_false_iff_not, not_or] at this
    unfold inB; omega
/-- span.Normalize of one list. -/
def nrmErr (l : List (Int × Int)) : Int := bif decide (10000 < (l.length : Int)) then 7 else ivErr l
theorem e_normalize (l : List (Int × Int)) (hb : l.length < 4000000000) : L.call 95 [.fz true 2 (l.map ivD)] [] = some (.tup [.fz true 2 ((bif decide (nrmErr l = 0) then merged l else []).map ivD), int (nrmErr l)], []) :=
  call_eq rfl rfl (by
    have hl := e_lists1 l true hb
    have hle : L.call 162 [.fz false 1 [.fz true 2 (l.map ivD)]] [] = some (int (nrmErr l), []) := hl
    have hperm := sortIv_all l
    cases he : decide (nrmErr l = 0) with
    | false => simp only [↓eA, eB, seval, c95, hle, he]; rfl
    | true =>
      have he0 : ivErr l = 0 := by
        have := of_decide_eq_true he
        unfold nrmErr at this
        cases hc : decide (10000 < (l.length : Int)) with
        | true => rw [hc] at this; cases this
        | false => rw [hc] at this; exact this
      have hin := ivErr_in he0
      have hn := e_normal l hb (fun p hp => hin p (hperm.1.mem_iff.1 hp)) hperm.1.length_eq
      simp only [↓eA, eB, seval, c95, hle, he, hn]; rw [of_decide_eq_true he])
end Tz
