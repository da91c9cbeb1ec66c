/- The conditions of a site; no conditions. -/
import Derived.Test.YthndcpffehneaaaGreatS70
set_option linter.unusedVariables false
set_option linter.unusedSimpArgs false
set_option linter.unusedSectionVars false
set_option linter.defProp false
set_option linter.deprecated false
set_option maxRecDepth 100000
open Gs Go
namespace Tz.C18
structure Stand where
  name : ByteArray
  x : Int
  y : Int
  radii : List Int
  limits : List Int
abbrev Stand.enc (s : Stand) : D := .agg [.str s.name, int s.x, int s.y, .fz false 1 (s.radii.map int), .fz false 1 (s.limits.map int)]
structure Site where
  survey : Survey
  benches : List Bench
  blocks : List Block
  safety : Safety
  stands : List Stand
  density : Int
abbrev benchs (l : List Bench) : D := .fz false 3 (l.map Bench.enc)
abbrev Site.cells (s : Site) : List D := [int s.survey.pit.x0, int s.survey.pit.y0, int s.survey.pit.z0, int s.survey.pit.x1, int s.survey.pit.y1, int s.survey.pit.z1, .bool s.survey.o0, .bool s.survey.o1, .bool s.survey.o2, .bool s.survey.o3,
  .fz false 2 (s.survey.beds.map Bed.enc), .fz false 5 (s.survey.joints.map Joint.enc), .fz false 4 (s.survey.flaws.map Flaw.enc), benchs s.benches, blks s.blocks, int s.safety.batter, int s.safety.width, .fz false 5 (s.stands.map Stand.enc), int s.density]
abbrev Site.enc (s : Site) : D := .agg s.cells
structure Site.Fit (s : Site) : Prop where
  sv : s.survey.Fit
  bl : s.blocks.length < 1000000
  be : s.benches.length < 1000000
  bn : ∀ b ∈ s.blocks, b.name.size < 1000000000
  en : ∀ b ∈ s.benches, b.name.size < 1000000000
/-! The conditions. -/
def cMany (s : Site) : Bool := decide (32 < (s.benches.length : Int)) || decide (256 < (s.blocks.length : Int))
theorem e_c1 (s : Site) : L.call 137 [s.enc] [] = some (.bool (cMany s), []) :=
  call_eq rfl rfl (by simp only [↓eA, eB, seval, c137, List.length_map]; rfl)
theorem e_span (n lo hi : Int) : L.call 139 [int n, int lo, int hi] [] = some (.bool (decide (lo ≤ n) && decide (n ≤ hi)), []) :=
  call_eq rfl rfl (by simp only [↓eA, eB, seval, c139])
def cRange (s : Site) : Bool := (!(decide (0 ≤ s.safety.batter) && decide (s.safety.batter ≤ 10000)) || !(decide (0 ≤ s.safety.width) && decide (s.safety.width ≤ 1000000))) || !(decide (1 ≤ s.density) && decide (s.density ≤ 10000))
theorem e_c2 (s : Site) : L.call 138 [s.enc] [] = some (.bool (cRange s), []) :=
  call_eq rfl rfl (by simp only [↓eA, eB, seval, c138, e_span]; rfl)
theorem e_c3 (s : Site) (b : Bench) (h : b.name.size < 1000000000) : L.call 142 [s.enc, b.enc] [] = some (.bool (!pName b.name), []) :=
  call_eq rfl rfl (by simp only [↓eA, eB, seval, c142, e_pName b.name h])
theorem e_c4 (s : Site) (b : Block) (h : b.name.size < 1000000000) : L.call 144 [s.enc, b.enc] [] = some (.bool (!pName b.name), []) :=
  call_eq rfl rfl (by simp only [↓eA, eB, seval, c144, e_pName b.name h])
theorem e_c5 (s : Site) (b : Bench) : L.call 145 [s.enc, b.enc] [] = some (.bool (decide (b.hi ≤ b.lo)), []) :=
  call_eq rfl rfl (by simp only [↓eA, eB, seval, c145])
def emptyB (b : Box) : Bool := (decide (b.x1 ≤ b.x0) || decide (b.y1 ≤ b.y0)) || decide (b.z1 ≤ b.z0)
theorem e_empty (b : Box) : L.call 147 [b.enc] [] = some (.bool (emptyB b), []) :=
  call_eq rfl rfl (by simp only [↓eA, eB, seval, c147]; rfl)
theorem e_c6 (s : Site) (b : Block) : L.call 146 [s.enc, b.enc] [] = some (.bool (emptyB b.box), []) :=
  call_eq rfl rfl (by simp only [↓eA, eB, seval, c146, e_empty b.box])
def benchOut (s : Site) (b : Bench) : Bool := decide (b.lo < s.survey.pit.z0) || decide (s.survey.pit.z1 < b.hi)
theorem e_c7 (s : Site) (b : Bench) : L.call 148 [s.enc, b.enc] [] = some (.bool (benchOut s b), []) :=
  call_eq rfl rfl (by simp only [↓eA, eB, seval, c148]; rfl)
def blockOut (s : Site) (b : Block) : Bool := !insideB b.box s.survey.pit
theorem e_c8 (s : Site) (b : Block) : L.call 149 [s.enc, b.enc] [] = some (.bool (blockOut s b), []) :=
  call_eq rfl rfl (by simp only [↓eA, eB, seval, c149, e_bInside b.box s.survey.pit]; rfl)
abbrev geBench (a b : Bench) : Bool := decide (b.lo < a.hi)
abbrev geBlock (a b : Block) : Bool := !slt a.name b.name
abbrev Hst (s : Site) : Heap := [(1, .box s.cells false)]
theorem lp_c9 (s : Site) (hF : s.Fit) (e : Env) (h1 : Gs.get e 1 = .ptr 1 0) (hi : Gs.get e 3 = int (1 : Nat)) :
    Ends T 151002 e (Hst s) (fun X e' H' => H' = Hst s ∧ match steps s.benches geBench with | true => X = .ret ∧ Gs.get e' 2 = .bool true | false => X = .ex 0) := by
  have hb := hF.be
  refine loop_fr (T := T) (key := 151002) (li := l151002) rfl 1 s.benches.length (badIx s.benches geBench) (Hst s) (fun k e => Gs.get e 1 = .ptr 1 0 ∧ Gs.get e 3 = int k) (fun X e' => X = .ret ∧ Gs.get e' 2 = .bool true) (fun X e' => X = .ex 0) ?_ ?_ e ⟨h1, hi⟩
  · rintro k e hk hlt ⟨h1, h3⟩
    obtain ⟨y, hy⟩ : ∃ y, s.benches[k]? = some y := ⟨_, List.getElem?_eq_getElem (by omega)⟩
    obtain ⟨p, hp⟩ : ∃ p, s.benches[k - 1]? = some p := ⟨_, List.getElem?_eq_getElem (by omega)⟩
    have hil : k - 1 < s.benches.length := by omega
    have hy' : (s.benches.map Bench.enc)[k]? = some y.enc := by simp [hy]
    have hp' : (s.benches.map Bench.enc)[k - 1]? = some p.enc := by simp [hp]
    have hbd : badIx s.benches geBench k = geBench p y := by simp only [badIx, hy, hp]
    rw [hbd]
    simp only [↓eA, eB, seval, l151002, h1, h3, hlt, hil, hy', hp', wrap_pred (show 0 < k by omega) (show k < 4611686018427387904 by omega), wrap_succ (show k < 4611686018427387904 by omega)]
    cases hc : geBench p y <;> (try simp only [Bool.not_eq_true', Bool.not_eq_false'] at hc) <;> simp only [↓eA, eB, seval, hc] <;> and_intros <;> first | trivial | rfl
  · rintro k e hk _ ⟨h1, h3⟩
    have hlt : ¬ k < s.benches.length := by omega
    simp only [↓eA, eB, seval, l151002, h1, h3, hlt]
    and_intros <;> first | trivial | rfl
theorem e_c9 (s : Site) (hF : s.Fit) : L.call 151 [s.enc] [] = some (.bool (steps s.benches geBench), []) :=
  call_eq rfl rfl (by
    simp only [↓eA, eB, seval, c151]
    generalize hE : (lim T).loop 151002 _ _ = R
    obtain ⟨X, e', H', rfl, rfl, hp⟩ := Ends.at hE (lp_c9 s hF _ rfl rfl)
    cases hs : steps s.benches geBench with
    | true => rw [hs] at hp; obtain ⟨rfl, g2⟩ := hp; simp only [↓eA, eB, seval, g2]
    | false => rw [hs] at hp; subst hp; simp only [↓eA, eB, seval])
theorem lp_c10 (s : Site) (hF : s.Fit) (e : Env) (h1 : Gs.get e 1 = .ptr 1 0) (hi : Gs.get e 3 = int (1 : Nat)) :
    Ends T 153002 e (Hst s) (fun X e' H' => H' = Hst s ∧ match steps s.blocks geBlock with | true => X = .ret ∧ Gs.get e' 2 = .bool true | false => X = .ex 0) := by
  have hb := hF.bl
  refine loop_fr (T := T) (key := 153002) (li := l153002) rfl 1 s.blocks.length (badIx s.blocks geBlock) (Hst s) (fun k e => Gs.get e 1 = .ptr 1 0 ∧ Gs.get e 3 = int k) (fun X e' => X = .ret ∧ Gs.get e' 2 = .bool true) (fun X e' => X = .ex 0) ?_ ?_ e ⟨h1, hi⟩
  · rintro k e hk hlt ⟨h1, h3⟩
    obtain ⟨y, hy⟩ : ∃ y, s.blocks[k]? = some y := ⟨_, List.getElem?_eq_getElem (by omega)⟩
    obtain ⟨p, hp⟩ : ∃ p, s.blocks[k - 1]? = some p := ⟨_, List.getElem?_eq_getElem (by omega)⟩
    have hil : k - 1 < s.blocks.length := by omega
    have hy' : (s.blocks.map Block.enc)[k]? = some y.enc := by simp [hy]
    have hp' : (s.blocks.map Block.enc)[k - 1]? = some p.enc := by simp [hp]
    have hbd : badIx s.blocks geBlock k = geBlock p y := by simp only [badIx, hy, hp]
    rw [hbd]
    simp only [↓eA, eB, seval, l153002, h1, h3, hlt, hil, hy', hp', wrap_pred (show 0 < k by omega) (show k < 4611686018427387904 by omega), wrap_succ (show k < 4611686018427387904 by omega)]
    cases hc : geBlock p y <;> (try simp only [Bool.not_eq_true', Bool.not_eq_false'] at hc) <;> simp only [↓eA, eB, seval, hc] <;> and_intros <;> first | trivial | rfl
  · rintro k e hk _ ⟨h1, h3⟩
    have hlt : ¬ k < s.blocks.length := by omega
    simp only [↓eA, eB, seval, l153002, h1, h3, hlt]
    and_intros <;> first | trivial | rfl
theorem e_c10 (s : Site) (hF : s.Fit) : L.call 153 [s.enc] [] = some (.bool (steps s.blocks geBlock), []) :=
  call_eq rfl rfl (by
    simp only [↓eA, eB, seval, c153]
    generalize hE : (lim T).loop 153002 _ _ = R
    obtain ⟨X, e', H', rfl, rfl, hp⟩ := Ends.at hE (lp_c10 s hF _ rfl rfl)
    cases hs : steps s.blocks geBlock with
    | true => rw [hs] at hp; obtain ⟨rfl, g2⟩ := hp; simp only [↓eA, eB, seval, g2]
    | false => rw [hs] at hp; subst hp; simp only [↓eA, eB, seval])
end Tz.C18
