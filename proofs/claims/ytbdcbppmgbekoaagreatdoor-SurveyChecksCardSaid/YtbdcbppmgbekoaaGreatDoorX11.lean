/- Listed variables of strings; no conditions. -/
import Derived.Test.YtbdcbppmgbekoaaGreatDoorX9
import Derived.Lib.LaidU8
set_option linter.unusedVariables false
set_option linter.unusedSimpArgs false
set_option linter.unusedSectionVars false
set_option linter.defProp false
set_option linter.deprecated false
namespace Gs
open Go Go.Proofs
/-! What a listed variable reads as. -/
/-- The cells of a world that hold data, as they are. -/
noncomputable def qOf (w : World) : Pm := fun B o => match w.cell? ⟨B, o, none⟩ with
  | some v => if v.oneCell' = true then some v else none
  | none => none
theorem qOf_spec (w : World) (B o : Nat) (v : Value) (h : w.cell? ⟨B, o, none⟩ = some v) (h1 : v.oneCell' = true) : qOf w B o = some v := by
  simp [qOf, h, h1]
theorem qOf_cell {w : World} {B o : Nat} {v : Value} (h : qOf w B o = some v) : w.cell? ⟨B, o, none⟩ = some v ∧ v.oneCell' = true := by
  unfold qOf at h
  cases hc : w.cell? ⟨B, o, none⟩ with
  | none => rw [hc] at h; cases h
  | some u =>
    rw [hc] at h
    simp only at h
    by_cases h1 : u.oneCell' = true
    · rw [if_pos h1] at h; injection h with h; subst h; exact ⟨rfl, h1⟩
    · rw [if_neg h1] at h; cases h
/-- A list of strings, as its datum tells it. -/
theorem strs_laid {P : Program} {w : World} {n : String} {g t e : Nat} {bss : List (List UInt8)} (hg : P.globalNamed n = some g) (hgt : (P.globals[g]?).map (·.type) = some t) (ht : P.underlying t = some (.slice e)) (he : P.underlying e = some .string)
    (hc : P.cellsOf e = 1) (hpl : plainTy P 10 t = true) (hag : isAggTy P e = false) (hne : bss ≠ [])
    (h : Go.Lib.VarReads P w n (.slice (bss.map fun b => .lit (.string b)) [])) : RelAt (fun _ => none) (qOf w) g 0 [.fz false 1 (bss.map fun b => .str ⟨b.toArray⟩)] := by
  obtain ⟨g', t', cs, fuel, p, hg', hgt', hv, hd⟩ := h
  obtain rfl := Option.some.inj (hg.symm.trans hg')
  obtain rfl := Option.some.inj (hgt.symm.trans hgt')
  obtain ⟨ds, rd⟩ := told_of (K := fun _ => none) (Q := qOf w) (qOf_spec w) fuel 10 t _ _ hpl hd
  obtain ⟨m, ls, rfl, hls⟩ := Tz.shp_slice ht rd.shp
  have hrel := rd.rel
  rcases DataW.trod_slice ht hd with ⟨_, hx⟩ | ⟨a, len, cap, elems, rest, k, rfl, hcs, hx, _, hlc, _, hel, hget, _⟩
  · cases hx
  have hcell : w.cell? ⟨g, 0, none⟩ = some (.slice (some a) len cap) := by
    have h1 := World.var?_cell hg hv 0
    have : cs[0]? = some (.slice (some a) len cap) := by
      have := congrArg (·[0]?) hcs
      simpa using this
    rw [h1, this]
  rw [hcs, hc, hag] at hrel
  have hq : qOf w g 0 = some (.slice (some a) len cap) := qOf_spec w g 0 _ hcell rfl
  have hdat : bss.map (fun b => (DataW.lit (.string b) : DataW Unit)) = elems.map (·.1) := by
    have := congrArg Prod.fst hx
    simp only [DataW.slice.injEq] at this
    exact this.1
  have hlen : elems.length = bss.length := by
    have := congrArg List.length hdat
    simpa using this.symm
  cases hrel with
  | cons hr _ =>
  have fin : ls.map (packD false) = bss.map (fun b => D.str ⟨b.toArray⟩) → RelAt (fun _ => none) (qOf w) g 0 [.fz false 1 (bss.map fun b => .str ⟨b.toArray⟩)] := fun hh => by
    rw [hh] at hr
    exact .cons hq hr (.nil _ _)
  apply fin
  have hbl : 0 < bss.length := List.length_pos_iff.2 hne
  generalize hxs : ls.map (packD false) = xs at hr
  cases hr with
  | fzE => omega
  | @fz _ _ _ B o _ hn hrow hcap hxc =>
    apply List.ext_getElem?
    intro i
    by_cases hi : i < xs.length
    · have hxi : xs[i]? = some xs[i] := List.getElem?_eq_getElem hi
      obtain ⟨_, hat⟩ := hrow.get hxi
      have hin : ls[i]? = some (ls[i]'(by rw [← hxs] at hi; simpa using hi)) := List.getElem?_eq_getElem _
      obtain ⟨s, hs⟩ := Tz.shp_str he (hls _ (List.mem_of_getElem? hin))
      have hxs' : xs[i] = .str s := by
        have : xs[i]? = some (.str s) := by rw [← hxs, List.getElem?_map, hin, hs]; rfl
        rw [hxi] at this; injection this
      rw [hxs'] at hat
      have hat' : RelAt (fun _ => none) (qOf w) B (o + i * 1) [.str s] := hat
      cases hat' with
      | cons hqv hrv _ =>
      cases hrv
      have hcv := (qOf_cell hqv).1
      have he1 := hget i hi
      rw [hc] at he1
      have hcells : w.cells? 0 ((⟨B, o, none⟩ : Addr).add (i * 1)) 1 = some [.string s] := by
        rw [add_at]
        simp only [World.cells?, Nat.zero_le, if_true, List.range_one, List.mapM_cons, List.mapM_nil, add_at, Nat.add_zero, hcv]
        rfl
      rw [hcells] at he1
      simp only [Option.bind_some] at he1
      have hil : i < elems.length := by omega
      rw [List.getElem?_eq_getElem hil] at he1
      obtain ⟨s', e1, e2, _⟩ := DataW.trod_string he he1
      simp only [List.cons.injEq, Value.string.injEq, and_true] at e1
      subst e1
      have hb : bss[i]? = some s.data.toList := by
        have := congrArg (·[i]?) hdat
        simp only [List.getElem?_map, List.getElem?_eq_getElem hil, Option.map_some, e2] at this
        cases hbi : bss[i]? with
        | none => rw [hbi] at this; cases this
        | some b => rw [hbi] at this; simp at this; rw [this]
      rw [hxi, hxs', List.getElem?_map, hb]
      simp
    · rw [List.getElem?_eq_none (by omega), List.getElem?_eq_none (by simp; omega)]
end Gs
