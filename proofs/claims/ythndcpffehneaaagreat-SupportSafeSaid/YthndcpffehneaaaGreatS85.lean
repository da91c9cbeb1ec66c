/- Part S85; no conditions. -/
import Derived.Test.YthndcpffehneaaaGreatS84
set_option linter.unusedVariables false
set_option linter.unusedSimpArgs false
set_option linter.unusedSectionVars false
set_option linter.defProp false
set_option linter.deprecated false
set_option maxRecDepth 100000
open Gs Go
namespace Tz.C18
/-! SupportSafe: the outer loop. -/
abbrev lNm (s : Site) (tk : List ByteArray) : List ByteArray := namesOf (possible s tk) s.blocks
def pick (s : Site) (tk : List ByteArray) (c : Int) : Nat := (IntKind.u64.wrap c).toNat % (lNm s tk).length
theorem w64 (n : Int) : IntKind.u64.wrap n = n % 18446744073709551616 := by simp [IntKind.wrap, IntKind.bits, IntKind.signed]
theorem u64_lo (x : Int) : 0 ≤ IntKind.u64.wrap x ∧ IntKind.u64.wrap x < 18446744073709551616 := by
  rw [w64]; omega
theorem u64_nat {n : Nat} (h : n < 1000000000) : IntKind.u64.wrap (n : Int) = (n : Int) := by
  rw [w64]; omega
theorem rem_pick (c : Int) (n : Nat) (hn : 0 < n) (h : n < 1000000000) : IntKind.i64.wrap ((IntKind.u64.wrap c).tmod (IntKind.u64.wrap (n : Int))) = (((IntKind.u64.wrap c).toNat % n : Nat) : Int) := by
  rw [u64_nat h]
  have h0 := (u64_lo c).1
  generalize IntKind.u64.wrap c = m at h0
  obtain ⟨k, rfl⟩ : ∃ k : Nat, m = (k : Int) := ⟨m.toNat, by omega⟩
  rw [tmod_nat, Int.toNat_natCast]
  have := Nat.mod_lt k hn
  exact wrap_nat (by omega)
def stepS (s : Site) (tk : List ByteArray) (c : Int) : Unit ⊕ List ByteArray := match (lNm s tk)[pick s tk c]? with
  | some nm => .inr (tk ++ [nm])
  | none => .inl ()
theorem hang_none {s : Site} {tk : List ByteArray} (h : Inv s tk) : hangR s tk = none := by
  refine List.find?_eq_none.2 fun x hx hp => ?_
  unfold firstP at hp
  simp only [Bool.and_eq_true, Bool.not_eq_true'] at hp
  rw [h.hang x hx hp.1.2] at hp
  exact absurd hp.2 (by simp)
def StS (s : Site) (ch : List Int) (i : Nat) (tk : List ByteArray) (e : Env) (H : Heap) : Prop := (∃ p, EnvS s ch tk i p (gl s tk) e H) ∧ Inv s tk ∧ tk.length ≤ i
theorem step_safe (s : Site) (hF : s.Fit) (ch : List Int) (hch : ch.length ≤ 20) (i : Nat) (c : Int) (hc : ch[i]? = some c) (tk tk' : List ByteArray) (e : Env) (H : Heap) (hS : StS s ch i tk e H) (hf : stepS s tk c = .inr tk') :
    Good (round (lim T) l8008 e H) fun X e' H' => isNor X = true ∧ StS s ch (i + 1) tk' e' H' := by
  obtain ⟨⟨p, h1, h2, h5, h6, h7, H2, H5, H6⟩, hI, htl⟩ := hS
  have hok := site_ok (start_ok hI.st).1
  have hs := sorted_of hok.srt
  have hbl := hF.bl
  have hi := (List.getElem?_eq_some_iff.1 hc).1
  have hc' : (ch.map int)[i]? = some (int c) := by simp [hc]
  unfold stepS at hf
  cases hg : (lNm s tk)[pick s tk c]? with
  | none => rw [hg] at hf; cases hf
  | some nm =>
  rw [hg] at hf
  injection hf with hf; subst hf
  have hjl := (List.getElem?_eq_some_iff.1 hg).1
  have hlen : 0 < (lNm s tk).length := by omega
  have hlb : (lNm s tk).length ≤ s.blocks.length := namesOf_len _ _
  obtain ⟨b, hbf, rfl⟩ : ∃ b, b ∈ s.blocks.filter (possible s tk) ∧ b.name = nm := by
    have := List.mem_of_getElem? hg
    exact List.mem_map.1 this
  obtain ⟨hb, hp⟩ := List.mem_filter.1 hbf
  have hbt := (possible_facts hp).1
  have hI' := inv_step hI hb hp
  have f1 := e_Frontier_ok s hF true tk (by omega) hI.st
  rw [names_sorted hs] at f1
  have hne : decide (((lNm s tk).length : Int) = 0) = false := decide_eq_false (by omega)
  have hrem : decide (IntKind.u64.wrap ((lNm s tk).length : Int) = 0) = false := by rw [u64_nat (by omega)]; exact hne
  have hj := rem_pick c (lNm s tk).length hlen (by omega)
  have hgj : ((lNm s tk).map D.str)[pick s tk c]? = some (.str b.name) := by simp [hg]
  have hcar := e_Carries_ok s.blocks hF.bl b.name b (find_ok hok hb)
  have hcl : (sortB (namesOf (fun x => leansB x.box b.box) s.blocks)).length < 1000000 := by
    rw [(sortB_perm _).length_eq]; have := namesOf_len (fun x => leansB x.box b.box) s.blocks; omega
  have hno : ∀ x ∈ s.blocks, ∀ n ∈ sortB (namesOf (fun x => leansB x.box b.box) s.blocks), seq x.name n = true → taken tk x = true := by
    intro x hx n hn he
    have hm := (sortB_perm _).mem_iff.1 hn
    unfold namesOf at hm
    obtain ⟨y, hy, rfl⟩ := List.mem_map.1 hm
    obtain ⟨hy1, hy2⟩ := List.mem_filter.1 hy
    have := sorted_inj hs hx hy1 (seq_iff.1 he)
    subst this
    exact carries_taken hok hb hx hp hy2
  have hmap : tk.map D.str ++ [D.str b.name] = (tk ++ [b.name]).map D.str := by simp
  have hfit : fits (tk.length + (0 + 1)) 16 = true := fits_of (by omega)
  have hh := e_Hanging_none s hF true (tk ++ [b.name]) (by simp; omega) hI'.st (hang_none hI')
  change (IntKind.i64.wrap ((IntKind.u64.wrap c).tmod (IntKind.u64.wrap ((lNm s tk).length : Int))) = ((pick s tk c : Nat) : Int)) at hj
  simp only [↓eA, eB, seval, l8008, h1, h2, h5, h6, h7, H2, H5, H6, hi, hc', f1, hne, hrem, hj, hjl, hgj, hcar, List.length_map]
  generalize hE : (lim T).loop 8020 _ _ = R
  obtain ⟨X, e1, H1, rfl, rfl, ⟨q1, q2, q5, q6, q7, _, _, _⟩, q10, rfl⟩ := Ends.at hE (lp_s20 s ch tk i _ hbl b.name _ hcl hno _ _ ⟨by simp only [↓eA, eB, seval], by simp only [↓eA, eB, seval], by simp only [↓eA, eB, seval], by simp only [↓eA, eB, seval], by simp only [↓eA, eB, seval], rfl, rfl, rfl⟩ (by simp only [↓eA, eB, seval]) (by simp only [↓eA, eB, seval]) (by simp only [↓eA, eB, seval]))
  simp only [↓eA, eB, seval]
  generalize hE : (lim T).loop 8029 _ _ = R
  obtain ⟨X, e2, H2', rfl, rfl, ⟨r1, r2, r5, r6, r7, _, _, _⟩, r10, r15, rfl⟩ := Ends.at hE (lp_s29 s ch tk i _ hbl hs b hb hbt _ _ ⟨by simp only [↓eA, eB, seval, q1], by simp only [↓eA, eB, seval, q2], by simp only [↓eA, eB, seval, q5], by simp only [↓eA, eB, seval, q6], by simp only [↓eA, eB, seval, q7], rfl, rfl, rfl⟩ (by simp only [↓eA, eB, seval, q10]) (by simp only [↓eA, eB, seval]) (by simp only [↓eA, eB, seval]))
  simp only [↓eA, eB, seval, r1, r2, r5, r6, r7, r10, r15, hfit, List.length_map, hmap, hh, get_killE, killD, get_wipeB]
  generalize hE : (lim T).loop 8039 _ _ = R
  obtain ⟨X, e3, H3', rfl, rfl, ⟨u1, u2, u5, u6, u7, _, _, _⟩, rfl⟩ := Ends.at hE (lp_s39 s ch (tk ++ [b.name]) i _ hbl hI'.clr _ _ ⟨by simp only [↓eA, eB, seval, r1, get_killE, killD, get_wipeB], by simp only [↓eA, eB, seval, r2, get_killE, killD, get_wipeB], by simp only [↓eA, eB, seval, get_killE, killD, get_wipeB], by simp only [↓eA, eB, seval, r6, get_killE, killD, get_wipeB], by simp only [↓eA, eB, seval, r7, get_killE, killD, get_wipeB], rfl, rfl, rfl⟩ (by simp only [↓eA, eB, seval, get_killE, killD, get_wipeB]))
  simp only [↓eA, eB, seval, u7, wrap_succ (show i < 4611686018427387904 by omega)]
  refine ⟨trivial, ⟨_, by simp only [↓eA, eB, seval, u1], by simp only [↓eA, eB, seval, u2], by simp only [↓eA, eB, seval, u5], by simp only [↓eA, eB, seval, u6], by simp only [↓eA, eB, seval, u7], rfl, rfl, rfl⟩, hI', by simp; omega⟩
theorem lp_safe (s : Site) (hF : s.Fit) (ch : List Int) (hch : ch.length ≤ 20) (tk : List ByteArray) (e : Env) (H : Heap) (hS : StS s ch 0 tk e H) :
    Ends T 8008 e H (fun X e' H' => (X = .ret ∧ Gs.get e' 4 = .bool true) ∨ X = .ex 0) := by
  refine (loop_thru (T := T) (key := 8008) (li := l8008) rfl (stepS s) ch (StS s ch) (fun _ X e' H' => X = .ret ∧ Gs.get e' 4 = .bool true) (fun _ X e' H' => X = .ex 0) ?_ ?_ ?_ ch [] tk e H rfl hS).mono fun X e' H' h => ?_
  · intro i c tk tk' e H hc hS hf
    exact step_safe s hF ch hch i c hc tk tk' e H hS hf
  · rintro i c tk u e H hc ⟨⟨p, h1, h2, h5, h6, h7, H2, H5, H6⟩, hI, htl⟩ hf
    have hok := site_ok (start_ok hI.st).1
    have hs := sorted_of hok.srt
    have hi := (List.getElem?_eq_some_iff.1 hc).1
    unfold stepS at hf
    have hnil : lNm s tk = [] := by
      cases hg : (lNm s tk)[pick s tk c]? with
      | some nm => rw [hg] at hf; cases hf
      | none =>
        rw [List.getElem?_eq_none_iff] at hg
        rcases Nat.eq_zero_or_pos (lNm s tk).length with h0 | h0
        · exact List.eq_nil_of_length_eq_zero h0
        · have := Nat.mod_lt (IntKind.u64.wrap c).toNat h0
          unfold pick at hg
          omega
    have f1 := e_Frontier_ok s hF true tk (by omega) hI.st
    rw [names_sorted hs] at f1
    have f2 : L.call 22 [s.enc, strz true tk] [] = some (.tup [.fz true 1 [], int 0], []) := by
      rw [f1]; show some (D.tup [.fz true 1 ((lNm s tk).map .str), int 0], []) = _; rw [hnil]; rfl
    simp only [↓eA, eB, seval, l8008, h1, h2, h5, h6, h7, H2, H5, H6, hi, f2, List.length_map]
    and_intros <;> first | trivial | rfl
  · rintro tk e H ⟨⟨p, h1, h2, h5, h6, h7, H2, H5, H6⟩, hI, htl⟩
    simp only [↓eA, eB, seval, l8008, h1, h2, h5, h6, h7, H2, H5, H6, Nat.lt_irrefl]
    and_intros <;> first | trivial | rfl
  · cases hr : thru (stepS s) ch tk with
    | inl u => rw [hr] at h; exact .inl h
    | inr t => rw [hr] at h; exact .inr h
theorem e_safe (s : Site) (ch : List Int) : L.call 8 [s.enc, .fz false 1 (ch.map int)] [] = some (.bool true, []) := by
  have aw : L.call 10 [] [] = some (.bool true, []) := Aw.aw_run
  obtain ⟨v, e1, hv⟩ := small18 s true []
  have e1' : L.call 19 [s.enc, .fz true 1 []] [] = some (.bool v, []) := e1
  cases hg : !v || decide (20 < (ch.length : Int)) with
  | true => exact call_eq rfl rfl (by simp only [↓eA, eB, seval, c8, aw, e1', hg, List.length_map])
  | false =>
  have hg' := hg
  simp only [Bool.or_eq_false_iff, decide_eq_false_iff_not, Bool.not_eq_false'] at hg'
  obtain ⟨g1, g2⟩ := hg'
  obtain ⟨hF, _⟩ := hv g1
  have hbl := hF.bl
  have hrep : List.replicate s.blocks.length (D.bool false) = gl s [] := by
    simp [gl, taken, List.map_const']
  have hz : decide ((0 : Int) ≤ (s.blocks.length : Int)) = true := decide_eq_true (by omega)
  have hfit : fits s.blocks.length 1 = true := fits_of (by omega)
  cases hst : decide (startErr s [] = 0) with
  | false =>
    have f1 := e_Frontier_bad s hF true [] (by simp) hst
    generalize startErr s [] = er at hst f1
    have f1' : L.call 22 [s.enc, .fz true 1 []] [] = some (.tup [.fz true 1 [], int er], []) := f1
    exact call_eq rfl rfl (by
      simp only [↓eA, eB, seval, c8, aw, e1', hg, List.length_map, hrep, hfit, hz]
      rw [loop_unfold_c (T := T) (k := 8008) rfl]
      cases hch : ch with
      | nil => simp only [↓eA, eB, seval, l8008, Nat.lt_irrefl]
      | cons c r =>
        have hlt : decide ((0 : Int) < ((r.length + 1 : Nat) : Int)) = true := decide_eq_true (by omega)
        simp only [↓eA, eB, seval, l8008, f1', hst, hlt, List.length_map, List.map_cons, Nat.zero_lt_succ])
  | true =>
    exact call_eq rfl rfl (by
      simp only [↓eA, eB, seval, c8, aw, e1', hg, List.length_map, hrep, hfit, hz]
      generalize hE : (lim T).loop 8008 _ _ = R
      obtain ⟨X, e', H', rfl, hp⟩ := Ends.at hE (lp_safe s hF ch (by omega) [] _ _ ⟨⟨0, by simp only [↓eA, eB, seval], by simp only [↓eA, eB, seval], by simp only [↓eA, eB, seval], by simp only [↓eA, eB, seval], by simp only [↓eA, eB, seval], rfl, rfl, rfl⟩, inv_nil (of_decide_eq_true hst), Nat.le_refl _⟩)
      rcases hp with ⟨rfl, g4⟩ | rfl
      · simp only [↓eA, eB, seval, g4]
      · simp only [↓eA, eB, seval])
end Tz.C18
