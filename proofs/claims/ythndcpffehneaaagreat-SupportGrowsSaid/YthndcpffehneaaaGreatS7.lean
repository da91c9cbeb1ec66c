/- Polygons of the program; no conditions. -/
import Derived.Test.YthndcpffehneaaaGreatS6
set_option linter.unusedVariables false
set_option linter.unusedSimpArgs false
set_option linter.unusedSectionVars false
set_option linter.defProp false
set_option linter.deprecated false
set_option maxRecDepth 100000
open Gs Go
namespace Tz

def okc (n : Int) : Bool := decide (-1000000 ≤ n) && decide (n ≤ 1000000)
theorem e_near (n : Int) : L.call 234 [int n] [] = some (.bool (okc n), []) := call_eq rfl rfl (by simp only [↓eA, eB, seval, c234]; rfl)
theorem ok_okc (a : Pt) : (!a.ok) = (!okc a.x || !okc a.y) := by
  simp only [Pt.ok, okc]
  cases decide (-1000000 ≤ a.x) <;> cases decide (a.x ≤ 1000000) <;> cases decide (-1000000 ≤ a.y) <;> cases decide (a.y ≤ 1000000) <;> rfl
theorem lp_allowed (nz : Bool) (p : List Pt) (hb : p.length < 1000000000) (e : Env) (h3 : Gs.get e 3 = .fn 234 []) (h6 : Gs.get e 6 = .fz nz 2 (p.map Pt.enc)) (h7 : Gs.get e 7 = int p.length) (h8 : Gs.get e 8 = int 0) :
    Ends T 219003 e [] (fun X e' H' => match anyOut p with | true => X = .ret ∧ Gs.get e' 2 = .bool false | false => X = .ex 0) := by
  refine loop_anyH (T := T) (key := 219003) (li := l219003) rfl p (fun a => !a.ok) (fun i e H => Gs.get e 3 = .fn 234 [] ∧ Gs.get e 6 = .fz nz 2 (p.map Pt.enc) ∧ Gs.get e 7 = int p.length ∧ Gs.get e 8 = int i) (fun X e' _ => X = .ret ∧ Gs.get e' 2 = .bool false) (fun X e' _ => X = .ex 0) ?_ ?_ e [] ⟨h3, h6, h7, h8⟩
  · rintro i a e H hx hi ⟨h3, h6, h7, h8⟩
    have hx' : (p.map Pt.enc)[i]? = some a.enc := by simp [hx]
    simp only [↓eA, eB, seval, l219003, h3, h6, h7, h8, hi, hx', e_near, wrap_succ (show i < 4611686018427387904 by omega)]
    cases ha : (!a.ok) <;> rw [ok_okc] at ha <;> simp only [↓eA, eB, seval, ha]
    · exact ⟨trivial, trivial, trivial, trivial, trivial⟩
    · exact ⟨trivial, trivial, trivial⟩
  · rintro e H ⟨h3, h6, h7, h8⟩
    simp only [↓eA, eB, seval, l219003, h3, h6, h7, h8, Nat.lt_irrefl]
    exact ⟨trivial, trivial⟩
theorem e_allowedL (nz : Bool) (p : List Pt) (hb : p.length < 1000000000) : L.call 219 [.fz nz 2 (p.map Pt.enc)] [] = some (.bool (!anyOut p), []) :=
  call_eq rfl rfl (by
    simp only [↓eA, eB, seval, c219]
    generalize hE : (lim T).loop 219003 _ _ = R
    obtain ⟨X, e', H', rfl, hP⟩ := Ends.at hE (lp_allowed nz p hb _ rfl rfl rfl rfl)
    cases hc : anyOut p with
    | true => rw [hc] at hP; obtain ⟨rfl, g⟩ := hP; simp only [↓eA, eB, seval, g]
    | false => rw [hc] at hP; subst hP; simp only [↓eA, eB, seval])
/-- Each corner against the one ahead of it. -/
def dupFrom (b : Pt) : List Pt → Bool
  | [] => false
  | q :: r => eqPt q b || dupFrom q r
theorem eqPt_iff {a b : Pt} : eqPt a b = true ↔ a = b := by
  cases a; cases b
  simp [eqPt]
theorem dupFrom_iff : ∀ (l : List Pt) (b : Pt), dupFrom b l = true ↔ ∃ i, i < l.length ∧ pt l i = (if i = 0 then b else pt l (i - 1))
  | [], b => by simp [dupFrom]
  | q :: r, b => by
    simp only [dupFrom, Bool.or_eq_true, eqPt_iff, dupFrom_iff r q]
    constructor
    · rintro (h | ⟨i, hi, h⟩)
      · exact ⟨0, by simp, by simpa [pt] using h⟩
      · refine ⟨i + 1, by simpa using hi, ?_⟩
        rw [if_neg (by omega)]
        cases i with
        | zero => simpa [pt] using h
        | succ i => rw [if_neg (by omega)] at h; simpa [pt] using h
    · rintro ⟨i, hi, h⟩
      cases i with
      | zero => left; simpa [pt] using h
      | succ i =>
        right
        refine ⟨i, by simpa using hi, ?_⟩
        rw [if_neg (by omega)] at h
        cases i with
        | zero => simpa [pt] using h
        | succ i => rw [if_neg (by omega)]; simpa [pt] using h
theorem dup_dupFrom {p : List Pt} (hp : 0 < p.length) : dupFrom (pt p (p.length - 1)) p = dup p := by
  rw [Bool.eq_iff_iff, dupFrom_iff]
  simp only [dup, List.any_eq_true, List.mem_range, eqPt_iff, nx]
  constructor
  · rintro ⟨i, hi, h⟩
    by_cases h0 : i = 0
    · subst h0
      refine ⟨p.length - 1, by omega, ?_⟩
      rw [if_pos rfl] at h
      rw [show p.length - 1 + 1 = p.length by omega, Nat.mod_self, h]
    · rw [if_neg h0] at h
      refine ⟨i - 1, by omega, ?_⟩
      rw [show i - 1 + 1 = i by omega, Nat.mod_eq_of_lt hi, h]
  · rintro ⟨i, hi, h⟩
    by_cases h1 : i + 1 = p.length
    · rw [h1, Nat.mod_self] at h
      refine ⟨0, hp, ?_⟩
      rw [if_pos rfl, show p.length - 1 = i by omega, h]
    · rw [Nat.mod_eq_of_lt (by omega)] at h
      exact ⟨i + 1, by omega, by rw [if_neg (by omega)]; simpa using h.symm⟩
theorem thru_dup : ∀ (l : List Pt) (b : Pt), thru (R := Unit) (fun (b q : Pt) => bif eqPt q b then .inl () else .inr q) l b = (match dupFrom b l with | true => .inl () | false => .inr ((l.getLast?).getD b))
  | [], b => rfl
  | q :: r, b => by
    simp only [thru, dupFrom]
    cases eqPt q b with
    | true => rfl
    | false =>
      simp only [cond_false, Bool.false_or, thru_dup r q]
      cases dupFrom q r with
      | true => rfl
      | false =>
        cases r with
        | nil => rfl
        | cons x r => simp [List.getLast?_cons]
theorem lp_dup (p : List Pt) (b : Pt) (hb : p.length < 1000000000) (e : Env) (H : Heap) (h5 : Gs.get e 5 = .ptr 5 0) (h31 : Gs.get e 31 = poly p) (h32 : Gs.get e 32 = int p.length) (h33 : Gs.get e 33 = int 0) (hH : hget H 5 = some (.box [int b.x, int b.y] false)) :
    Ends T 187009 e H (fun X e' H' => match dupFrom b p with | true => X = .ret ∧ Gs.get e' 4 = int 5 | false => X = .ex 1) := by
  refine (loop_thru (T := T) (key := 187009) (li := l187009) rfl (R := Unit) (fun (b q : Pt) => bif eqPt q b then .inl () else .inr q) p (fun i b e H => Gs.get e 5 = .ptr 5 0 ∧ Gs.get e 31 = poly p ∧ Gs.get e 32 = int p.length ∧ Gs.get e 33 = int i ∧ hget H 5 = some (.box [int b.x, int b.y] false)) (fun _ X e' H' => X = .ret ∧ Gs.get e' 4 = int 5) (fun _ X e' H' => X = .ex 1) ?_ ?_ ?_ p [] b e H rfl ⟨h5, h31, h32, h33, hH⟩).mono ?_
  · rintro i q b b' e H hx ⟨h5, h31, h32, h33, hH⟩ hf
    have hi : i < p.length := (List.getElem?_eq_some_iff.1 hx).1
    have hq : eqPt q b = false := by cases h : eqPt q b <;> simp_all
    have hb' : b' = q := by simp [hq] at hf; exact hf.symm
    subst hb'
    simp only [eqPt] at hq
    have hx' : (p.map Pt.enc)[i]? = some b'.enc := by simp [hx]
    simp only [↓eA, eB, seval, l187009, h5, h31, h32, h33, hH, hi, hx', hq, wrap_succ (show i < 4611686018427387904 by omega)]
    exact ⟨trivial, trivial, trivial, trivial, trivial, trivial⟩
  · rintro i q b r e H hx ⟨h5, h31, h32, h33, hH⟩ hf
    have hi : i < p.length := (List.getElem?_eq_some_iff.1 hx).1
    have hq : eqPt q b = true := by cases h : eqPt q b <;> simp_all
    simp only [eqPt] at hq
    have hx' : (p.map Pt.enc)[i]? = some q.enc := by simp [hx]
    simp only [↓eA, eB, seval, l187009, h5, h31, h32, h33, hH, hi, hx', hq]
    exact ⟨trivial, trivial, trivial⟩
  · rintro b e H ⟨h5, h31, h32, h33, hH⟩
    simp only [↓eA, eB, seval, l187009, h5, h31, h32, h33, hH, Nat.lt_irrefl]
    exact ⟨trivial, trivial⟩
  · intro X e' H' h
    rw [thru_dup] at h
    cases hc : dupFrom b p with
    | true => rw [hc] at h; exact h
    | false => rw [hc] at h; exact h
theorem wrap_pred {n : Nat} (h : 0 < n) (h' : n < 4611686018427387904) : IntKind.i64.wrap ((n : Int) - 1) = ((n - 1 : Nat) : Int) := by
  rw [IntKind.wrap_i64]; omega
theorem e_check (p : List Pt) (hb : p.length < 1000000000) : L.call 187 [poly p, .fz true 2 []] [] = some (int (polyErr p), []) :=
  call_eq rfl rfl (by
    have e2 := e_allowedL true [] (by simp)
    have e2' : L.call 219 [.fz true 2 []] [] = some (.bool true, []) := e2
    unfold polyErr
    by_cases h1 : 64 < p.length
    · have h1' : (64 : Int) < p.length := by omega
      simp only [↓eA, eB, seval, c187, h1, h1']
    · have h1' : ¬ (64 : Int) < p.length := by omega
      by_cases h2 : p.length < 3
      · have h2' : (p.length : Int) < 3 := by omega
        simp only [↓eA, eB, seval, c187, h1, h1', h2, h2']
      · have h2' : ¬ (p.length : Int) < 3 := by omega
        cases hc : anyOut p with
        | true => simp only [↓eA, eB, seval, c187, h1, h1', h2, h2', e_allowedL false p hb, e2', hc]
        | false =>
          have hl : p.length - 1 < p.length := by omega
          simp only [↓eA, eB, seval, c187, h1, h1', h2, h2', e_allowedL false p hb, e2', hc, wrap_pred (show 0 < p.length by omega) (show p.length < 4611686018427387904 by omega), hl, get_pt hl]
          generalize hE : (lim T).loop 187009 _ _ = R
          obtain ⟨X, e', H', rfl, hP⟩ := Ends.at hE (lp_dup p (pt p (p.length - 1)) hb _ _ rfl rfl rfl rfl rfl)
          rw [dup_dupFrom (by omega)] at hP
          cases hd : dup p with
          | true => rw [hd] at hP; obtain ⟨rfl, g⟩ := hP; simp only [↓eA, eB, seval, g]
          | false => rw [hd] at hP; subst hP; simp only [↓eA, eB, seval])
theorem e_polyCheck (p : List Pt) (hb : p.length < 1000000000) : L.call 133 [poly p] [] = some (int (polyErr p), []) :=
  call_eq rfl rfl (by simp only [↓eA, eB, seval, c133, e_check p hb])
/-- polygon.Convex, of a valid polygon. -/
theorem polyErr_in {p : List Pt} (h : polyErr p = 0) : AllIn p := by
  unfold polyErr at h
  split at h <;> try (cases h; done)
  split at h <;> try (cases h; done)
  cases hc : anyOut p with
  | true => rw [hc] at h; simp at h
  | false => exact anyOut_in hc
theorem e_convex (p : List Pt) (hb : p.length < 1000000000) (h0 : polyErr p = 0) : L.call 134 [poly p] [] = some (.tup [.bool (convex p), int 0], []) :=
  call_eq rfl rfl (by
    have ha := polyErr_in h0
    simp only [↓eA, eB, seval, c134, e_check p hb, h0]
    generalize hE : (lim T).loop 134005 _ _ = R
    obtain ⟨X, e', H', rfl, rfl, hP⟩ := Ends.at hE (loop_rng (T := T) (key := 134005) (li := l134005) rfl p.length (fun i => !decide (ori (pt p i) (pt p (nx p i)) (pt p (nx p (nx p i))) = 1)) [] (fun i e => Gs.get e 0 = poly p ∧ Gs.get e 12 = int p.length ∧ Gs.get e 13 = int i) (fun X e' => X = .ret ∧ Gs.get e' 2 = .bool false ∧ Gs.get e' 3 = int 0) (fun X e' => X = .ex 0 ∧ Gs.get e' 0 = poly p) (fun i e hi ⟨h0, h12, h13⟩ => by
      have hp : 0 < p.length := by omega
      have n1 : nx p i < p.length := nx_lt hp
      have n2 : nx p (nx p i) < p.length := nx_lt hp
      have e1 := e_end hp (show i < 4611686018427387904 by omega) (p := p)
      have e2 := e_end hp (show nx p i < 4611686018427387904 by omega) (p := p)
      have e3 := e_orient (tri (ha.pt hi) (ha.pt n1) (ha.pt n2))
      have hnx : (i + 1) % p.length = nx p i := rfl
      simp only [↓eA, eB, seval, l134005, h0, h12, h13, hi, n1, n2, wrap_succ (show i < 4611686018427387904 by omega), dz hp, tmod_nat, hnx, get_pt hi, e1, e2, e3]
      cases hb : decide (ori (pt p i) (pt p (nx p i)) (pt p (nx p (nx p i))) = 1) <;> simp only [↓eA, eB, seval, hb]
      · exact ⟨trivial, trivial, trivial, trivial, trivial⟩
      · exact ⟨trivial, trivial, trivial, trivial, trivial⟩) (fun e ⟨h0, h12, h13⟩ => by
      simp only [↓eA, eB, seval, l134005, h0, h12, h13, Nat.lt_irrefl]
      exact ⟨trivial, trivial, trivial, trivial⟩) _ ⟨rfl, rfl, rfl⟩)
    unfold convex
    change match turns p with | true => _ | false => _ at hP
    cases hc : turns p with
    | true => rw [hc] at hP; obtain ⟨rfl, h2, h3⟩ := hP; simp only [↓eA, eB, seval, h2, h3]
    | false => rw [hc] at hP; obtain ⟨rfl, h2⟩ := hP; simp only [↓eA, eB, seval, h2, e_simple p hb ha hc])
end Tz
