/- What lies outside; no conditions. -/
import Derived.Test.YthndcpffehneaaaGreatS7
set_option linter.unusedVariables false
set_option linter.unusedSimpArgs false
set_option linter.unusedSectionVars false
set_option linter.defProp false
set_option linter.deprecated false
set_option maxRecDepth 100000
open Gs Go
namespace Tz

theorem e_within1 (lo hi x : Int) : L.call 223 [int x, .fp [int lo] 0, .fp [int hi] 0] [] = some (.bool (decide (x < lo) || decide (hi < x)), []) :=
  call_eq rfl rfl (by simp only [↓eA, eB, seval, c223])
def wOut (lo hi : Int) (xs : List Int) : Bool := xs.any fun x => decide (x < lo) || decide (hi < x)
theorem e_within (lo hi : Int) (xs : List Int) (hb : xs.length < 1000000000) : L.call 191 [int lo, int hi, .fz false 1 (xs.map int)] [] = some (.bool (!wOut lo hi xs), []) :=
  call_eq rfl rfl (by
    have e := e_con_int (fun x => decide (x < lo) || decide (hi < x)) 223 [.fp [int lo] 0, .fp [int hi] 0] false xs hb rfl (fun x _ => e_within1 lo hi x)
    simp only [↓eA, eB, seval, c191, e]
    rfl)
def inR (lo n hi : Int) : Bool := decide (lo ≤ n) && decide (n ≤ hi)
theorem inR_or (lo n hi : Int) : (decide (n < lo) || decide (hi < n)) = !inR lo n hi := by
  unfold inR
  rw [Bool.eq_iff_iff]
  simp only [Bool.or_eq_true, decide_eq_true_eq, Bool.not_eq_true', Bool.and_eq_false_iff, decide_eq_false_iff_not]
  omega
theorem e_within_1 (lo hi a : Int) : L.call 191 [int lo, int hi, .fz false 1 [int a]] [] = some (.bool (inR lo a hi), []) := by
  have := e_within lo hi [a] (by simp)
  simpa only [wOut, List.map_cons, List.map_nil, List.any_cons, List.any_nil, Bool.or_false, inR_or, Bool.not_not] using this
theorem e_within_2 (lo hi a b : Int) : L.call 191 [int lo, int hi, .fz false 1 [int a, int b]] [] = some (.bool (inR lo a hi && inR lo b hi), []) := by
  have := e_within lo hi [a, b] (by simp)
  simpa only [wOut, List.map_cons, List.map_nil, List.any_cons, List.any_nil, Bool.or_false, inR_or, Bool.not_or, Bool.not_not] using this
theorem e_ends0 (b : Box) : L.call 161 [b.enc, int 0] [] = some (.tup [int b.x0, int b.x1], []) := call_eq rfl rfl (by simp only [↓eA, eB, seval, c161])
theorem e_ends1 (b : Box) (a : Int) (h : a ≠ 0) : L.call 161 [b.enc, int a] [] = some (.tup [int b.y0, int b.y1], []) := call_eq rfl rfl (by simp only [↓eA, eB, seval, c161, h, decide_eq_false h])
def Box.lo (b : Box) (a : Int) : Int := if a = 0 then b.x0 else b.y0
def Box.hi (b : Box) (a : Int) : Int := if a = 0 then b.x1 else b.y1
theorem e_ends (b : Box) (a : Int) : L.call 161 [b.enc, int a] [] = some (.tup [int (b.lo a), int (b.hi a)], []) := by
  unfold Box.lo Box.hi
  by_cases h : a = 0
  · subst h; exact e_ends0 b
  · rw [if_neg h, if_neg h]; exact e_ends1 b a h

def Survey.names (s : Survey) : List ByteArray := s.beds.map (·.name) ++ (s.joints.map (·.name) ++ s.flaws.map (·.name))
structure Survey.Fit0 (s : Survey) : Prop where
  bl : s.beds.length < 1000000000
  jl : s.joints.length < 1000000000
  fl : s.flaws.length < 1000000000
structure Survey.Fit (s : Survey) : Prop extends Survey.Fit0 s where
  base : ∀ f ∈ s.flaws, f.base.length < 1000000000
  nm : ∀ n ∈ s.names, n.size < 1000000000
def bedOut (s : Survey) (b : Bed) : Bool := !inR s.pit.z0 b.z s.pit.z1
def cornerOut (s : Survey) (c : Pt) : Bool := !inR s.pit.x0 c.x s.pit.x1 || !inR s.pit.y0 c.y s.pit.y1
def jointOut (s : Survey) (j : Joint) : Bool := !inR (s.pit.lo j.axis) j.at_ (s.pit.hi j.axis) || !(inR s.pit.z0 j.lo s.pit.z1 && inR s.pit.z0 j.hi s.pit.z1)
def flawOut (s : Survey) (f : Flaw) : Bool := !(inR s.pit.z0 f.lo s.pit.z1 && inR s.pit.z0 f.hi s.pit.z1) || f.base.any (cornerOut s)
def outB (s : Survey) : Bool := s.beds.any (bedOut s) || (s.joints.any (jointOut s) || s.flaws.any (flawOut s))
abbrev sb (s : Survey) (H : Heap) : Prop := hget H 1 = some (.box s.cells false)
theorem lp_o1 (s : Survey) (hF : s.Fit) (e : Env) (H : Heap) (h1 : Gs.get e 1 = .ptr 1 0) (h3 : Gs.get e 3 = int s.pit.z0) (h4 : Gs.get e 4 = int s.pit.z1) (h24 : Gs.get e 24 = .fz false 2 (s.beds.map Bed.enc)) (h25 : Gs.get e 25 = int s.beds.length) (h26 : Gs.get e 26 = int 0) (hH : sb s H) :
    Ends T 135003 e H (fun X e' H' => match s.beds.any (bedOut s) with | true => X = .ret ∧ Gs.get e' 2 = .bool true | false => X = .ex 0 ∧ Gs.get e' 1 = .ptr 1 0 ∧ Gs.get e' 3 = int s.pit.z0 ∧ Gs.get e' 4 = int s.pit.z1 ∧ H' = [(1, .box s.cells false)]) := by
  refine loop_anyH (T := T) (key := 135003) (li := l135003) rfl s.beds (bedOut s) (fun i e H => Gs.get e 1 = .ptr 1 0 ∧ Gs.get e 3 = int s.pit.z0 ∧ Gs.get e 4 = int s.pit.z1 ∧ Gs.get e 24 = .fz false 2 (s.beds.map Bed.enc) ∧ Gs.get e 25 = int s.beds.length ∧ Gs.get e 26 = int i ∧ sb s H) (fun X e' _ => X = .ret ∧ Gs.get e' 2 = .bool true) (fun X e' H' => X = .ex 0 ∧ Gs.get e' 1 = .ptr 1 0 ∧ Gs.get e' 3 = int s.pit.z0 ∧ Gs.get e' 4 = int s.pit.z1 ∧ H' = [(1, .box s.cells false)]) ?_ ?_ e H ⟨h1, h3, h4, h24, h25, h26, hH⟩
  · rintro i b e H hx hi ⟨h1, h3, h4, h24, h25, h26, hH⟩
    have hb := hF.bl
    have hx' : (s.beds.map Bed.enc)[i]? = some b.enc := by simp [hx]
    simp only [↓eA, eB, seval, l135003, h1, h3, h4, h24, h25, h26, hH, hi, hx', e_within_1, wrap_succ (show i < 4611686018427387904 by omega)]
    cases hc : bedOut s b <;> simp only [bedOut, Bool.not_eq_true', Bool.not_eq_false'] at hc <;> simp only [↓eA, eB, seval, hc]
    · and_intros <;> first | trivial | rfl
    · and_intros <;> first | trivial | rfl
  · rintro e H ⟨h1, h3, h4, h24, h25, h26, hH⟩
    simp only [↓eA, eB, seval, l135003, h1, h3, h4, h24, h25, h26, hH, Nat.lt_irrefl]
    and_intros <;> first | trivial | rfl
theorem lp_o2 (s : Survey) (hF : s.Fit) (e : Env) (H : Heap) (h1 : Gs.get e 1 = .ptr 1 0) (h3 : Gs.get e 3 = int s.pit.z0) (h4 : Gs.get e 4 = int s.pit.z1) (h24 : Gs.get e 39 = .fz false 5 (s.joints.map Joint.enc)) (h25 : Gs.get e 40 = int s.joints.length) (h26 : Gs.get e 41 = int 0) (hH : sb s H) :
    Ends T 135009 e H (fun X e' H' => match s.joints.any (jointOut s) with | true => X = .ret ∧ Gs.get e' 2 = .bool true | false => X = .ex 2 ∧ Gs.get e' 1 = .ptr 1 0 ∧ Gs.get e' 3 = int s.pit.z0 ∧ Gs.get e' 4 = int s.pit.z1 ∧ H' = [(1, .box s.cells false)]) := by
  refine loop_anyH (T := T) (key := 135009) (li := l135009) rfl s.joints (jointOut s) (fun i e H => Gs.get e 1 = .ptr 1 0 ∧ Gs.get e 3 = int s.pit.z0 ∧ Gs.get e 4 = int s.pit.z1 ∧ Gs.get e 39 = .fz false 5 (s.joints.map Joint.enc) ∧ Gs.get e 40 = int s.joints.length ∧ Gs.get e 41 = int i ∧ sb s H) (fun X e' _ => X = .ret ∧ Gs.get e' 2 = .bool true) (fun X e' H' => X = .ex 2 ∧ Gs.get e' 1 = .ptr 1 0 ∧ Gs.get e' 3 = int s.pit.z0 ∧ Gs.get e' 4 = int s.pit.z1 ∧ H' = [(1, .box s.cells false)]) ?_ ?_ e H ⟨h1, h3, h4, h24, h25, h26, hH⟩
  · rintro i b e H hx hi ⟨h1, h3, h4, h24, h25, h26, hH⟩
    have hb := hF.jl
    have hx' : (s.joints.map Joint.enc)[i]? = some b.enc := by simp [hx]
    simp only [↓eA, eB, seval, l135009, h1, h3, h4, h24, h25, h26, hH, hi, hx', e_within_1, e_within_2, e_ends s.pit b.axis, wrap_succ (show i < 4611686018427387904 by omega)]
    cases hc : jointOut s b <;> simp only [jointOut] at hc <;> simp only [↓eA, eB, seval, hc]
    · and_intros <;> first | trivial | rfl
    · and_intros <;> first | trivial | rfl
  · rintro e H ⟨h1, h3, h4, h24, h25, h26, hH⟩
    simp only [↓eA, eB, seval, l135009, h1, h3, h4, h24, h25, h26, hH, Nat.lt_irrefl]
    and_intros <;> first | trivial | rfl
theorem lp_o4 (s : Survey) (f : Flaw) (hb : f.base.length < 1000000000) (i : Nat) (e : Env) (H : Heap) (h1 : Gs.get e 1 = .ptr 1 0) (h3 : Gs.get e 3 = int s.pit.z0) (h4 : Gs.get e 4 = int s.pit.z1) (h24 : Gs.get e 73 = .fz false 4 (s.flaws.map Flaw.enc)) (h25 : Gs.get e 74 = int s.flaws.length) (h26 : Gs.get e 75 = int i) (h92 : Gs.get e 92 = poly f.base) (h93 : Gs.get e 93 = int f.base.length) (h94 : Gs.get e 94 = int 0) (hH : sb s H) :
    Ends T 135021 e H (fun X e' H' => match f.base.any (cornerOut s) with | true => X = .ret ∧ Gs.get e' 2 = .bool true | false => X = .ex 6 ∧ Gs.get e' 1 = .ptr 1 0 ∧ Gs.get e' 3 = int s.pit.z0 ∧ Gs.get e' 4 = int s.pit.z1 ∧ Gs.get e' 73 = .fz false 4 (s.flaws.map Flaw.enc) ∧ Gs.get e' 74 = int s.flaws.length ∧ Gs.get e' 75 = int i ∧ H' = [(1, .box s.cells false)]) := by
  refine loop_anyH (T := T) (key := 135021) (li := l135021) rfl f.base (cornerOut s) (fun k e H => Gs.get e 1 = .ptr 1 0 ∧ Gs.get e 3 = int s.pit.z0 ∧ Gs.get e 4 = int s.pit.z1 ∧ Gs.get e 73 = .fz false 4 (s.flaws.map Flaw.enc) ∧ Gs.get e 74 = int s.flaws.length ∧ Gs.get e 75 = int i ∧ Gs.get e 92 = poly f.base ∧ Gs.get e 93 = int f.base.length ∧ Gs.get e 94 = int k ∧ sb s H) (fun X e' _ => X = .ret ∧ Gs.get e' 2 = .bool true) (fun X e' H' => X = .ex 6 ∧ Gs.get e' 1 = .ptr 1 0 ∧ Gs.get e' 3 = int s.pit.z0 ∧ Gs.get e' 4 = int s.pit.z1 ∧ Gs.get e' 73 = .fz false 4 (s.flaws.map Flaw.enc) ∧ Gs.get e' 74 = int s.flaws.length ∧ Gs.get e' 75 = int i ∧ H' = [(1, .box s.cells false)]) ?_ ?_ e H ⟨h1, h3, h4, h24, h25, h26, h92, h93, h94, hH⟩
  · rintro k c e H hx hk ⟨h1, h3, h4, h24, h25, h26, h92, h93, h94, hH⟩
    have hx' : (f.base.map Pt.enc)[k]? = some c.enc := by simp [hx]
    simp only [↓eA, eB, seval, l135021, h1, h3, h4, h24, h25, h26, h92, h93, h94, hH, hk, hx', e_within_1, wrap_succ (show k < 4611686018427387904 by omega)]
    cases hc : cornerOut s c <;> simp only [cornerOut] at hc <;> simp only [↓eA, eB, seval, hc]
    · and_intros <;> first | trivial | rfl
    · and_intros <;> first | trivial | rfl
  · rintro e H ⟨h1, h3, h4, h24, h25, h26, h92, h93, h94, hH⟩
    simp only [↓eA, eB, seval, l135021, h1, h3, h4, h24, h25, h26, h92, h93, h94, hH, Nat.lt_irrefl]
    and_intros <;> first | trivial | rfl
theorem lp_o3 (s : Survey) (hF : s.Fit) (e : Env) (H : Heap) (h1 : Gs.get e 1 = .ptr 1 0) (h3 : Gs.get e 3 = int s.pit.z0) (h4 : Gs.get e 4 = int s.pit.z1) (h24 : Gs.get e 73 = .fz false 4 (s.flaws.map Flaw.enc)) (h25 : Gs.get e 74 = int s.flaws.length) (h26 : Gs.get e 75 = int 0) (hH : sb s H) :
    Ends T 135016 e H (fun X e' H' => match s.flaws.any (flawOut s) with | true => X = .ret ∧ Gs.get e' 2 = .bool true | false => X = .ex 4) := by
  refine loop_anyH (T := T) (key := 135016) (li := l135016) rfl s.flaws (flawOut s) (fun i e H => Gs.get e 1 = .ptr 1 0 ∧ Gs.get e 3 = int s.pit.z0 ∧ Gs.get e 4 = int s.pit.z1 ∧ Gs.get e 73 = .fz false 4 (s.flaws.map Flaw.enc) ∧ Gs.get e 74 = int s.flaws.length ∧ Gs.get e 75 = int i ∧ sb s H) (fun X e' _ => X = .ret ∧ Gs.get e' 2 = .bool true) (fun X e' H' => X = .ex 4) ?_ ?_ e H ⟨h1, h3, h4, h24, h25, h26, hH⟩
  · rintro i f e H hx hi ⟨h1, h3, h4, h24, h25, h26, hH⟩
    have hb := hF.fl
    have hfb := hF.base f (List.mem_of_getElem? hx)
    have hx' : (s.flaws.map Flaw.enc)[i]? = some f.enc := by simp [hx]
    unfold flawOut
    cases hr : (inR s.pit.z0 f.lo s.pit.z1 && inR s.pit.z0 f.hi s.pit.z1) with
    | false =>
      simp only [↓eA, eB, seval, l135016, h1, h3, h4, h24, h25, h26, hH, hi, hx', e_within_2, hr]
      and_intros <;> first | trivial | rfl
    | true =>
      simp only [↓eA, eB, seval, l135016, h1, h3, h4, h24, h25, h26, hH, hi, hx', e_within_2, hr]
      generalize hE : (lim T).loop 135021 _ _ = R
      obtain ⟨X, e', H', rfl, hP⟩ := Ends.at hE (lp_o4 s f hfb i _ _ rfl rfl rfl rfl rfl rfl rfl rfl rfl rfl)
      cases hc : f.base.any (cornerOut s) with
      | true =>
        rw [hc] at hP; obtain ⟨rfl, g⟩ := hP
        simp only [↓eA, eB, seval, g]
        and_intros <;> first | trivial | rfl
      | false =>
        rw [hc] at hP; obtain ⟨rfl, g1, g3, g4, g73, g74, g75, rfl⟩ := hP
        simp only [↓eA, eB, seval, g1, g3, g4, g73, g74, g75, wrap_succ (show i < 4611686018427387904 by omega)]
        and_intros <;> first | trivial | rfl
  · rintro e H ⟨h1, h3, h4, h24, h25, h26, hH⟩
    simp only [↓eA, eB, seval, l135016, h1, h3, h4, h24, h25, h26, hH, Nat.lt_irrefl]
    and_intros <;> first | trivial | rfl
theorem e_outside (s : Survey) (hF : s.Fit) : L.call 135 [s.enc] [] = some (.bool (outB s), []) :=
  call_eq rfl rfl (by
    unfold outB
    simp only [↓eA, eB, seval, c135]
    generalize hE : (lim T).loop 135003 _ _ = R
    obtain ⟨X, e', H', rfl, hP⟩ := Ends.at hE (lp_o1 s hF _ _ rfl rfl rfl rfl rfl rfl rfl)
    cases hc : s.beds.any (bedOut s) with
    | true => rw [hc] at hP; obtain ⟨rfl, g⟩ := hP; simp only [↓eA, eB, seval, g]
    | false =>
      rw [hc] at hP; obtain ⟨rfl, g1, g3, g4, rfl⟩ := hP
      simp only [↓eA, eB, seval, g1, g3, g4]
      generalize hE : (lim T).loop 135009 _ _ = R
      obtain ⟨X, e', H', rfl, hP⟩ := Ends.at hE (lp_o2 s hF _ _ (by simp only [↓eA, eB, seval, g1]) (by simp only [↓eA, eB, seval, g3]) (by simp only [↓eA, eB, seval, g4]) (by simp only [↓eA, eB, seval]) (by simp only [↓eA, eB, seval]) (by simp only [↓eA, eB, seval]) rfl)
      cases hc : s.joints.any (jointOut s) with
      | true => rw [hc] at hP; obtain ⟨rfl, g⟩ := hP; simp only [↓eA, eB, seval, g]
      | false =>
        rw [hc] at hP; obtain ⟨rfl, g1, g3, g4, rfl⟩ := hP
        simp only [↓eA, eB, seval, g1, g3, g4]
        generalize hE : (lim T).loop 135016 _ _ = R
        obtain ⟨X, e', H', rfl, hP⟩ := Ends.at hE (lp_o3 s hF _ _ (by simp only [↓eA, eB, seval, g1]) (by simp only [↓eA, eB, seval, g3]) (by simp only [↓eA, eB, seval, g4]) (by simp only [↓eA, eB, seval]) (by simp only [↓eA, eB, seval]) (by simp only [↓eA, eB, seval]) rfl)
        cases hc : s.flaws.any (flawOut s) with
        | true => rw [hc] at hP; obtain ⟨rfl, g⟩ := hP; simp only [↓eA, eB, seval, g]
        | false => rw [hc] at hP; subst hP; simp only [↓eA, eB, seval])
end Tz
