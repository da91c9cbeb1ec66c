/- All names; no conditions. -/
import Derived.Test.YthndcpffehneaaaGreatS8
set_option linter.unusedVariables false
set_option linter.unusedSimpArgs false
set_option linter.unusedSectionVars false
set_option linter.defProp false
set_option linter.deprecated false
set_option maxRecDepth 100000
open Gs Go
namespace Tz

/-! All names. -/
abbrev Hp (s : Survey) (acc : List D) : Heap := [(1, .box s.cells false), (1003, .row true 1 acc 0 true)]
abbrev nmSt (s : Survey) (acc : List D) (H : Heap) : Prop := hget H 1 = some (.box s.cells false) ∧ hget H 1003 = some (.row true 1 acc 0 true)
theorem lp_pn1 (s : Survey) (hF : s.Fit) (acc : List D) (hacc : acc.length ≤ 4000000000) (e : Env) (H : Heap) (h1 : Gs.get e 1 = .ptr 1 0) (h3 : Gs.get e 3 = .ow 1003) (ha : Gs.get e 11 = .fz false 2 (s.beds.map Bed.enc)) (hn : Gs.get e 12 = int s.beds.length) (hi : Gs.get e 13 = int 0) (hH : nmSt s acc H) :
    Ends T 126003 e H (fun X e' H' => X = .ex 0 ∧ Gs.get e' 1 = .ptr 1 0 ∧ Gs.get e' 3 = .ow 1003 ∧ H' = Hp s (acc ++ s.beds.map fun b => .str b.name)) := by
  have hb := hF.bl
  refine (loop_fold (T := T) (key := 126003) (li := l126003) rfl s.beds (fun (a : List D) (b : Bed) => a ++ [.str b.name]) (fun i a e H => Gs.get e 1 = .ptr 1 0 ∧ Gs.get e 3 = .ow 1003 ∧ Gs.get e 11 = .fz false 2 (s.beds.map Bed.enc) ∧ Gs.get e 12 = int s.beds.length ∧ Gs.get e 13 = int i ∧ nmSt s a H ∧ a.length = acc.length + i) (fun a X e' H' => X = .ex 0 ∧ Gs.get e' 1 = .ptr 1 0 ∧ Gs.get e' 3 = .ow 1003 ∧ H' = Hp s a) ?_ ?_ acc e H ⟨h1, h3, ha, hn, hi, hH, rfl⟩).mono ?_
  · rintro i b a e H hx hi ⟨h1, h3, ha, hn, h13, ⟨hH1, hH3⟩, hl⟩
    have hx' : (s.beds.map Bed.enc)[i]? = some (Bed.enc b) := by simp [hx]
    have hfit : fits (a.length + (0 + 1)) 16 = true := fits_of (by omega)
    simp only [↓eA, eB, seval, l126003, h1, h3, ha, hn, h13, hH1, hH3, hi, hx', hfit, wrap_succ (show i < 4611686018427387904 by omega)]
    refine ⟨trivial, trivial, trivial, trivial, trivial, trivial, ⟨rfl, rfl⟩, ?_⟩
    simp; omega
  · rintro a e H ⟨h1, h3, ha, hn, h13, ⟨hH1, hH3⟩, hl⟩
    simp only [↓eA, eB, seval, l126003, h1, h3, ha, hn, h13, hH1, hH3, Nat.lt_irrefl]
    and_intros <;> first | trivial | rfl
  · rintro X e' H' ⟨rfl, g1, g3, rfl⟩
    refine ⟨rfl, g1, g3, ?_⟩
    have : ∀ (l : List Bed) (a : List D), l.foldl (fun a b => a ++ [.str b.name]) a = a ++ l.map fun b => .str b.name := by
      intro l
      induction l with
      | nil => intro a; simp
      | cons b r ih => intro a; simp [ih]
    rw [this]
theorem lp_pn2 (s : Survey) (hF : s.Fit) (acc : List D) (hacc : acc.length ≤ 4000000000) (e : Env) (H : Heap) (h1 : Gs.get e 1 = .ptr 1 0) (h3 : Gs.get e 3 = .ow 1003) (ha : Gs.get e 24 = .fz false 5 (s.joints.map Joint.enc)) (hn : Gs.get e 25 = int s.joints.length) (hi : Gs.get e 26 = int 0) (hH : nmSt s acc H) :
    Ends T 126008 e H (fun X e' H' => X = .ex 2 ∧ Gs.get e' 1 = .ptr 1 0 ∧ Gs.get e' 3 = .ow 1003 ∧ H' = Hp s (acc ++ s.joints.map fun b => .str b.name)) := by
  have hb := hF.jl
  refine (loop_fold (T := T) (key := 126008) (li := l126008) rfl s.joints (fun (a : List D) (b : Joint) => a ++ [.str b.name]) (fun i a e H => Gs.get e 1 = .ptr 1 0 ∧ Gs.get e 3 = .ow 1003 ∧ Gs.get e 24 = .fz false 5 (s.joints.map Joint.enc) ∧ Gs.get e 25 = int s.joints.length ∧ Gs.get e 26 = int i ∧ nmSt s a H ∧ a.length = acc.length + i) (fun a X e' H' => X = .ex 2 ∧ Gs.get e' 1 = .ptr 1 0 ∧ Gs.get e' 3 = .ow 1003 ∧ H' = Hp s a) ?_ ?_ acc e H ⟨h1, h3, ha, hn, hi, hH, rfl⟩).mono ?_
  · rintro i b a e H hx hi ⟨h1, h3, ha, hn, h13, ⟨hH1, hH3⟩, hl⟩
    have hx' : (s.joints.map Joint.enc)[i]? = some (Joint.enc b) := by simp [hx]
    have hfit : fits (a.length + (0 + 1)) 16 = true := fits_of (by omega)
    simp only [↓eA, eB, seval, l126008, h1, h3, ha, hn, h13, hH1, hH3, hi, hx', hfit, wrap_succ (show i < 4611686018427387904 by omega)]
    refine ⟨trivial, trivial, trivial, trivial, trivial, trivial, ⟨rfl, rfl⟩, ?_⟩
    simp; omega
  · rintro a e H ⟨h1, h3, ha, hn, h13, ⟨hH1, hH3⟩, hl⟩
    simp only [↓eA, eB, seval, l126008, h1, h3, ha, hn, h13, hH1, hH3, Nat.lt_irrefl]
    and_intros <;> first | trivial | rfl
  · rintro X e' H' ⟨rfl, g1, g3, rfl⟩
    refine ⟨rfl, g1, g3, ?_⟩
    have : ∀ (l : List Joint) (a : List D), l.foldl (fun a b => a ++ [.str b.name]) a = a ++ l.map fun b => .str b.name := by
      intro l
      induction l with
      | nil => intro a; simp
      | cons b r ih => intro a; simp [ih]
    rw [this]
theorem lp_pn3 (s : Survey) (hF : s.Fit) (acc : List D) (hacc : acc.length ≤ 4000000000) (e : Env) (H : Heap) (h3 : Gs.get e 3 = .ow 1003) (ha : Gs.get e 37 = .fz false 4 (s.flaws.map Flaw.enc)) (hn : Gs.get e 38 = int s.flaws.length) (hi : Gs.get e 39 = int 0) (hH : hget H 1003 = some (.row true 1 acc 0 true)) :
    Ends T 126013 e H (fun X e' H' => X = .ex 4 ∧ Gs.get e' 3 = .ow 1003 ∧ H' = [(1003, .row true 1 (acc ++ s.flaws.map fun b => .str b.name) 0 true)]) := by
  have hb := hF.fl
  refine (loop_fold (T := T) (key := 126013) (li := l126013) rfl s.flaws (fun (a : List D) (b : Flaw) => a ++ [.str b.name]) (fun i a e H => Gs.get e 3 = .ow 1003 ∧ Gs.get e 37 = .fz false 4 (s.flaws.map Flaw.enc) ∧ Gs.get e 38 = int s.flaws.length ∧ Gs.get e 39 = int i ∧ hget H 1003 = some (.row true 1 a 0 true) ∧ a.length = acc.length + i) (fun a X e' H' => X = .ex 4 ∧ Gs.get e' 3 = .ow 1003 ∧ H' = [(1003, .row true 1 a 0 true)]) ?_ ?_ acc e H ⟨h3, ha, hn, hi, hH, rfl⟩).mono ?_
  · rintro i b a e H hx hi ⟨h3, ha, hn, h13, hH3, hl⟩
    have hx' : (s.flaws.map Flaw.enc)[i]? = some (Flaw.enc b) := by simp [hx]
    have hfit : fits (a.length + (0 + 1)) 16 = true := fits_of (by omega)
    simp only [↓eA, eB, seval, l126013, h3, ha, hn, h13, hH3, hi, hx', hfit, wrap_succ (show i < 4611686018427387904 by omega)]
    refine ⟨trivial, trivial, trivial, trivial, trivial, trivial, ?_⟩
    simp; omega
  · rintro a e H ⟨h3, ha, hn, h13, hH3, hl⟩
    simp only [↓eA, eB, seval, l126013, h3, ha, hn, h13, hH3, Nat.lt_irrefl]
    and_intros <;> first | trivial | rfl
  · rintro X e' H' ⟨rfl, g3, rfl⟩
    refine ⟨rfl, g3, ?_⟩
    have : ∀ (l : List Flaw) (a : List D), l.foldl (fun a b => a ++ [.str b.name]) a = a ++ l.map fun b => .str b.name := by
      intro l
      induction l with
      | nil => intro a; simp
      | cons b r ih => intro a; simp [ih]
    rw [this]
theorem names_map (s : Survey) : (([] ++ s.beds.map fun b => D.str b.name) ++ s.joints.map fun b => D.str b.name) ++ (s.flaws.map fun b => D.str b.name) = s.names.map .str := by
  simp [Survey.names, List.map_append, List.append_assoc, Function.comp_def]
theorem e_pNames (s : Survey) (hF : s.Fit) : L.call 126 [s.enc] [] = some (.ow 600000, [(600000, .row true 1 (s.names.map .str) 0 true)]) :=
  call_eq rfl rfl (by
    have hb := hF.bl; have hj := hF.jl
    simp only [↓eA, eB, seval, c126]
    generalize hE : (lim T).loop 126003 _ _ = R
    obtain ⟨X, e', H', rfl, rfl, g1, g3, rfl⟩ := Ends.at hE (lp_pn1 s hF [] (by simp) _ _ rfl rfl rfl rfl rfl ⟨rfl, rfl⟩)
    simp only [↓eA, eB, seval, g1, g3]
    generalize hE : (lim T).loop 126008 _ _ = R
    obtain ⟨X, e', H', rfl, rfl, g1, g3, rfl⟩ := Ends.at hE (lp_pn2 s hF _ (by simp; omega) _ _ (by simp only [↓eA, eB, seval, g1]) (by simp only [↓eA, eB, seval, g3]) (by simp only [↓eA, eB, seval]) (by simp only [↓eA, eB, seval]) (by simp only [↓eA, eB, seval]) ⟨rfl, rfl⟩)
    simp only [↓eA, eB, seval, g1, g3]
    generalize hE : (lim T).loop 126013 _ _ = R
    obtain ⟨X, e', H', rfl, rfl, g3, rfl⟩ := Ends.at hE (lp_pn3 s hF _ (by simp; omega) _ _ (by simp only [↓eA, eB, seval, g3]) (by simp only [↓eA, eB, seval]) (by simp only [↓eA, eB, seval]) (by simp only [↓eA, eB, seval]) rfl)
    simp only [↓eA, eB, seval, g3]
    rw [← names_map]
    simp only [List.nil_append])
end Tz
