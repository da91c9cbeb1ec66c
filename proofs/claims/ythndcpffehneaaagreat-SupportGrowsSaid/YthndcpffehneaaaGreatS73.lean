/- support.start; no conditions. -/
import Derived.Test.YthndcpffehneaaaGreatS72
set_option linter.unusedVariables false
set_option linter.unusedSimpArgs false
set_option linter.unusedSectionVars false
set_option linter.defProp false
set_option linter.deprecated false
set_option maxRecDepth 100000
open Gs Go
namespace Tz.C18
/-! support.start -/
abbrev stc (s : Site) (m : D) : List D := [int s.survey.pit.x0, int s.survey.pit.y0, int s.survey.pit.z0, int s.survey.pit.x1, int s.survey.pit.y1, int s.survey.pit.z1, .bool s.survey.o0, .bool s.survey.o1, .bool s.survey.o2, .bool s.survey.o3,
  .fz false 2 (s.survey.beds.map Bed.enc), .fz false 5 (s.survey.joints.map Joint.enc), .fz false 4 (s.survey.flaws.map Flaw.enc), benchs s.benches, blks s.blocks, int s.safety.batter, int s.safety.width, .fz false 5 (s.stands.map Stand.enc), int s.density, m]
abbrev ste (s : Site) (m : D) : D := .agg (stc s m)
abbrev zst : List D := [int 0, int 0, int 0, int 0, int 0, int 0, .bool false, .bool false, .bool false, .bool false, .fz true 2 [], .fz true 5 [], .fz true 4 [], .fz true 3 [], .fz true 7 [], int 0, int 0, .fz true 5 [], int 0, .fm []]
abbrev strs (l : List ByteArray) : D := .fz false 1 (l.map .str)
abbrev strz (nz : Bool) (l : List ByteArray) : D := .fz nz 1 (l.map .str)
def called (n : ByteArray) (b : Block) : Bool := seq b.name n
theorem e_ix1 (n : ByteArray) (b : Block) : L.call 69 [b.enc, .fp [.str n] 0] [] = some (.bool (called n b), []) :=
  call_eq rfl rfl (by simp only [↓eA, eB, seval, c69]; rfl)
theorem e_ix (s : Site) (hF : s.Fit) (tk : List D) (n : ByteArray) : L.call 47 [ste s (.fm tk), .str n] [] = some (int (idxOf (called n) s.blocks), []) :=
  call_eq rfl rfl (by
    have h := e_idx_block (called n) 69 [.fp [.str n] 0] false s.blocks (by have := hF.bl; omega) rfl (fun x _ => e_ix1 n x)
    simp only [↓eA, eB, seval, c47, h])
theorem e_ixo (s : Site) (hF : s.Fit) (tk : List D) (n : ByteArray) : L.call 47 [ste s (.mp 500000), .str n] [(500000, .mapB tk false)] = some (int (idxOf (called n) s.blocks), [(500000, .mapB tk false)]) :=
  call_eq rfl rfl (by
    have h := e_idx_block (called n) 69 [.fp [.str n] 0] false s.blocks (by have := hF.bl; omega) rfl (fun x _ => e_ix1 n x)
    simp only [↓eA, eB, seval, c47, h])
theorem idx_lt0 {α : Type} (p : α → Bool) (bs : List α) : decide (idxOf p bs < 0) = !bs.any p := by
  have h := idxOf_ge p bs
  rw [← h]
  by_cases hh : idxOf p bs < 0
  · rw [decide_eq_true hh, decide_eq_false (by omega)]; rfl
  · rw [decide_eq_false hh, decide_eq_true (by omega)]; rfl
def unknown (s : Site) (n : ByteArray) : Bool := !s.blocks.any (called n)
abbrev H3 (s : Site) (m : List D) : Heap := [(4, .box zst false), (7, .box (stc s (.mp 19)) false), (19, .mapB m false)]
theorem lp_start1 (s : Site) (hF : s.Fit) (nz : Bool) (tk : List ByteArray) (ht : tk.length < 1000000) (e : Env) (H : Heap) (h1 : Gs.get e 1 = strz nz tk) (h4 : Gs.get e 4 = .ptr 4 0) (h7 : Gs.get e 7 = .ptr 7 0) (h21 : Gs.get e 21 = strz nz tk) (h22 : Gs.get e 22 = int tk.length) (h23 : Gs.get e 23 = int 0) (hH4 : hget H 4 = some (.box zst false)) (hH7 : hget H 7 = some (.box (stc s (.mp 19)) false)) (hM : hget H 19 = some (.mapB [] false)) :
    Ends T 46006 e H (fun X e' H' => match tk.any (unknown s) with
      | true => X = .ret ∧ Gs.get e' 4 = .fp zst 0 ∧ Gs.get e' 5 = int 3
      | false => X = .ex 0 ∧ Gs.get e' 1 = strz nz tk ∧ Gs.get e' 4 = .ptr 4 0 ∧ Gs.get e' 7 = .ptr 7 0 ∧ H' = H3 s []) := by
  refine (loop_anyH (T := T) (key := 46006) (li := l46006) rfl tk (unknown s) (fun i e H => Gs.get e 1 = strz nz tk ∧ Gs.get e 4 = .ptr 4 0 ∧ Gs.get e 7 = .ptr 7 0 ∧ Gs.get e 21 = strz nz tk ∧ Gs.get e 22 = int tk.length ∧ Gs.get e 23 = int i ∧ hget H 4 = some (.box zst false) ∧ hget H 7 = some (.box (stc s (.mp 19)) false) ∧ hget H 19 = some (.mapB [] false))
    (fun X e' H' => X = .ret ∧ Gs.get e' 4 = .fp zst 0 ∧ Gs.get e' 5 = int 3) (fun X e' H' => X = .ex 0 ∧ Gs.get e' 1 = strz nz tk ∧ Gs.get e' 4 = .ptr 4 0 ∧ Gs.get e' 7 = .ptr 7 0 ∧ H' = H3 s []) ?_ ?_ e H ⟨h1, h4, h7, h21, h22, h23, hH4, hH7, hM⟩).mono fun X e' H' h => by cases hf : tk.any (unknown s) <;> rw [hf] at h <;> exact h
  · rintro i n e H hx hi ⟨h1, h4, h7, h21, h22, h23, hH4, hH7, hM⟩
    have hx' : (tk.map D.str)[i]? = some (.str n) := by simp [hx]
    have hc := e_ixo s hF [] n
    have hu := idx_lt0 (called n) s.blocks
    cases hb : unknown s n with
    | true =>
      unfold unknown at hb
      rw [hb] at hu
      simp only [↓eA, eB, seval, l46006, h1, h4, h7, h21, h22, h23, hH4, hH7, hM, hi, hx', hc, hu, killE_nil]
      and_intros <;> first | trivial | rfl
    | false =>
      unfold unknown at hb
      rw [hb] at hu
      simp only [↓eA, eB, seval, l46006, h1, h4, h7, h21, h22, h23, hH4, hH7, hM, hi, hx', hc, hu, killE_nil, wrap_succ (show i < 4611686018427387904 by omega)]
      and_intros <;> first | trivial | rfl
  · rintro e H ⟨h1, h4, h7, h21, h22, h23, hH4, hH7, hM⟩
    simp only [↓eA, eB, seval, l46006, h1, h4, h7, h21, h22, h23, hH4, hH7, hM, Nat.lt_irrefl]
    and_intros <;> first | trivial | rfl
theorem lp_start2 (s : Site) (nz : Bool) (tk : List ByteArray) (ht : tk.length < 1000000) (e : Env) (H : Heap) (h4 : Gs.get e 4 = .ptr 4 0) (h7 : Gs.get e 7 = .ptr 7 0) (h33 : Gs.get e 33 = strz nz tk) (h34 : Gs.get e 34 = int tk.length) (h35 : Gs.get e 35 = int 0) (hH4 : hget H 4 = some (.box zst false)) (hH7 : hget H 7 = some (.box (stc s (.mp 19)) false)) (hM : hget H 19 = some (.mapB [] false)) :
    Ends T 46012 e H (fun X e' H' => match dupS [] tk with
      | true => X = .ret ∧ Gs.get e' 4 = .fp zst 0 ∧ Gs.get e' 5 = int 5
      | false => X = .ex 2 ∧ Gs.get e' 4 = .ptr 4 0 ∧ Gs.get e' 7 = .ptr 7 0 ∧ H' = H3 s (entT tk)) := by
  refine (loop_thru (T := T) (key := 46012) (li := l46012) rfl (fun (t : List ByteArray) (n : ByteArray) => bif t.any (seq n) then .inl () else .inr (t ++ [n])) tk
    (fun i t e H => Gs.get e 4 = .ptr 4 0 ∧ Gs.get e 7 = .ptr 7 0 ∧ Gs.get e 33 = strz nz tk ∧ Gs.get e 34 = int tk.length ∧ Gs.get e 35 = int i ∧ hget H 4 = some (.box zst false) ∧ hget H 7 = some (.box (stc s (.mp 19)) false) ∧ hget H 19 = some (.mapB (entT t) false))
    (fun _ X e' H' => X = .ret ∧ Gs.get e' 4 = .fp zst 0 ∧ Gs.get e' 5 = int 5) (fun t X e' H' => X = .ex 2 ∧ Gs.get e' 4 = .ptr 4 0 ∧ Gs.get e' 7 = .ptr 7 0 ∧ H' = H3 s (entT t)) ?_ ?_ ?_ tk [] [] e H rfl ⟨h4, h7, h33, h34, h35, hH4, hH7, hM⟩).mono fun X e' H' h => ?_
  · rintro i n t t' e H hx ⟨h4, h7, h33, h34, h35, hH4, hH7, hM⟩ hf
    have hi := (List.getElem?_eq_some_iff.1 hx).1
    have hx' : (tk.map D.str)[i]? = some (.str n) := by simp [hx]
    have hn : t.any (seq n) = false := by cases hb : t.any (seq n) <;> simp_all
    rw [hn] at hf
    injection hf with hf; subst hf
    have hm : mfind (.str n) (entT t) = some none := by rw [mfind_entT, hn]; rfl
    have hp := mput_entT n t hn
    simp only [↓eA, eB, seval, l46012, h4, h7, h33, h34, h35, hH4, hH7, hM, hi, hx', hm, hp, wrap_succ (show i < 4611686018427387904 by omega)]
    and_intros <;> first | trivial | rfl
  · rintro i n t r e H hx ⟨h4, h7, h33, h34, h35, hH4, hH7, hM⟩ hf
    have hi := (List.getElem?_eq_some_iff.1 hx).1
    have hx' : (tk.map D.str)[i]? = some (.str n) := by simp [hx]
    have hn : t.any (seq n) = true := by cases hb : t.any (seq n) <;> simp_all
    have hm : mfind (.str n) (entT t) = some (some (.bool true)) := by rw [mfind_entT, hn]; rfl
    simp only [↓eA, eB, seval, l46012, h4, h7, h33, h34, h35, hH4, hH7, hM, hi, hx', hm]
    and_intros <;> first | trivial | rfl
  · rintro t e H ⟨h4, h7, h33, h34, h35, hH4, hH7, hM⟩
    simp only [↓eA, eB, seval, l46012, h4, h7, h33, h34, h35, hH4, hH7, hM, Nat.lt_irrefl]
    and_intros <;> first | trivial | rfl
  · have hd := thru_dupS (fun n : ByteArray => n) tk []
    rw [hd] at h
    simp only [List.map_id', List.nil_append] at h
    cases hq : dupS [] tk <;> rw [hq] at h <;> exact h
def startErr (s : Site) (tk : List ByteArray) : Int := bif !decide (siteErr s = 0) then siteErr s else bif tk.any (unknown s) then 3 else bif dupS [] tk then 5 else 0
theorem e_start (s : Site) (hF : s.Fit) (nz : Bool) (tk : List ByteArray) (ht : tk.length < 1000000) : L.call 46 [s.enc, strz nz tk] [] = some (.tup [.agg (bif decide (startErr s tk = 0) then stc s (.fm (entT tk)) else zst), int (startErr s tk)], []) :=
  call_eq rfl rfl (by
    have h1 := e_siteCheck s hF
    unfold startErr
    cases hs : decide (siteErr s = 0) with
    | false => simp only [Bool.not_false, cond_true, hs, cond_false]; simp only [↓eA, eB, seval, c46, h1, hs]
    | true =>
    simp only [↓eA, eB, seval, c46, h1, hs, List.length_map]
    generalize hE : (lim T).loop 46006 _ _ = R
    obtain ⟨X, e', H', rfl, hp⟩ := Ends.at hE (lp_start1 s hF nz tk ht _ _ (by simp only [↓eA, eB, seval]) (by simp only [↓eA, eB, seval]) (by simp only [↓eA, eB, seval]) (by simp only [↓eA, eB, seval]) (by simp only [↓eA, eB, seval]) (by simp only [↓eA, eB, seval]) rfl rfl rfl)
    cases hu : tk.any (unknown s) with
    | true =>
      rw [hu] at hp
      obtain ⟨rfl, g4, g5⟩ := hp
      simp only [↓eA, eB, seval, g4, g5]
    | false =>
    rw [hu] at hp
    obtain ⟨rfl, g1, g4, g7, rfl⟩ := hp
    simp only [↓eA, eB, seval, g1, g4, g7, List.length_map]
    generalize hE : (lim T).loop 46012 _ _ = R
    obtain ⟨X, e', H', rfl, hp⟩ := Ends.at hE (lp_start2 s nz tk ht _ _ (by simp only [↓eA, eB, seval, g4]) (by simp only [↓eA, eB, seval, g7]) (by simp only [↓eA, eB, seval]) (by simp only [↓eA, eB, seval]) (by simp only [↓eA, eB, seval]) rfl rfl rfl)
    cases hd : dupS [] tk with
    | true =>
      rw [hd] at hp
      obtain ⟨rfl, g4, g5⟩ := hp
      simp only [↓eA, eB, seval, g4, g5]
    | false =>
    rw [hd] at hp
    obtain ⟨rfl, g4, g7, rfl⟩ := hp
    simp only [↓eA, eB, seval, g4, g7])
end Tz.C18
