/- Open cells and free sides; no conditions. -/
import Derived.Test.YthndcpffehneaaaGreatS73
set_option linter.unusedVariables false
set_option linter.unusedSimpArgs false
set_option linter.unusedSectionVars false
set_option linter.defProp false
set_option linter.deprecated false
set_option maxRecDepth 100000
open Gs Go
namespace Tz.C18
/-! support.size, open, outside, faces. -/
def sizeB (b : Box) : Int := bif (decide (wsub b.x1 b.x0 ≤ 0) || decide (wsub b.y1 b.y0 ≤ 0)) || decide (wsub b.z1 b.z0 ≤ 0) then 0 else wmul (wmul (wsub b.x1 b.x0) (wsub b.y1 b.y0)) (wsub b.z1 b.z0)
theorem e_size (b : Box) : L.call 83 [b.enc] [] = some (int (sizeB b), []) :=
  call_eq rfl rfl (by
    simp only [↓eA, eB, seval, c83]
    unfold sizeB
    cases h : ((decide (wsub b.x1 b.x0 ≤ 0) || decide (wsub b.y1 b.y0 ≤ 0)) || decide (wsub b.z1 b.z0 ≤ 0)) with
    | true => simp only [↓eA, eB, seval]
    | false => simp only [↓eA, eB, seval])
def inter (b c : Box) : Box := ⟨max b.x0 c.x0, max b.y0 c.y0, max b.z0 c.z0, min b.x1 c.x1, min b.y1 c.y1, min b.z1 c.z1⟩
def taken (tk : List ByteArray) (b : Block) : Bool := tk.any (seq b.name)
def openStep (tk : List ByteArray) (b : Box) (left : Int) (x : Block) : Int := bif taken tk x then wsub left (sizeB (inter b x.box)) else left
def openSt (s : Site) (tk : List ByteArray) (b : Box) : Bool := decide (s.blocks.foldl (openStep tk b) (sizeB b) = 0)
theorem lp_open (s : Site) (hF : s.Fit) (tk : List ByteArray) (b : Box) (e : Env) (H : Heap) (h2 : Gs.get e 2 = .ptr 2 0) (h3 : Gs.get e 3 = .ptr 3 0) (h5 : Gs.get e 5 = int (sizeB b)) (h13 : Gs.get e 13 = blks s.blocks) (h14 : Gs.get e 14 = int s.blocks.length) (h15 : Gs.get e 15 = int 0) (hH2 : hget H 2 = some (.box (stc s (.fm (entT tk))) false)) (hH3 : hget H 3 = some (.box [int b.x0, int b.y0, int b.z0, int b.x1, int b.y1, int b.z1] false)) :
    Ends T 57003 e H (fun X e' H' => X = .ex 0 ∧ Gs.get e' 5 = int (s.blocks.foldl (openStep tk b) (sizeB b))) := by
  have hb := hF.bl
  refine loop_fold (T := T) (key := 57003) (li := l57003) rfl s.blocks (openStep tk b)
    (fun i a e H => Gs.get e 2 = .ptr 2 0 ∧ Gs.get e 3 = .ptr 3 0 ∧ Gs.get e 5 = int a ∧ Gs.get e 13 = blks s.blocks ∧ Gs.get e 14 = int s.blocks.length ∧ Gs.get e 15 = int i ∧ hget H 2 = some (.box (stc s (.fm (entT tk))) false) ∧ hget H 3 = some (.box [int b.x0, int b.y0, int b.z0, int b.x1, int b.y1, int b.z1] false))
    (fun a X e' H' => X = .ex 0 ∧ Gs.get e' 5 = int a) ?_ ?_ _ e H ⟨h2, h3, h5, h13, h14, h15, hH2, hH3⟩
  · rintro i x a e H hx hi ⟨h2, h3, h5, h13, h14, h15, hH2, hH3⟩
    have hx' : (s.blocks.map Block.enc)[i]? = some x.enc := by simp [hx]
    have hs : L.call 83 [.agg [int (max b.x0 x.box.x0), int (max b.y0 x.box.y0), int (max b.z0 x.box.z0), int (min b.x1 x.box.x1), int (min b.y1 x.box.y1), int (min b.z1 x.box.z1)]] [] = some (int (sizeB (inter b x.box)), []) := e_size (inter b x.box)
    have hm := mfind_entT x.name tk
    unfold openStep
    cases ht : taken tk x with
    | true =>
      unfold taken at ht
      rw [ht] at hm
      simp only [↓eA, eB, seval, l57003, h2, h3, h5, h13, h14, h15, hH2, hH3, hi, hx', hs, hm, wrap_succ (show i < 4611686018427387904 by omega)]
      and_intros <;> first | trivial | rfl
    | false =>
      unfold taken at ht
      rw [ht] at hm
      simp only [↓eA, eB, seval, l57003, h2, h3, h5, h13, h14, h15, hH2, hH3, hi, hx', hs, hm, wrap_succ (show i < 4611686018427387904 by omega)]
      and_intros <;> first | trivial | rfl
  · rintro a e H ⟨h2, h3, h5, h13, h14, h15, hH2, hH3⟩
    simp only [↓eA, eB, seval, l57003, h2, h3, h5, h13, h14, h15, hH2, hH3, Nat.lt_irrefl]
    and_intros <;> first | trivial | rfl
theorem e_open57 (s : Site) (hF : s.Fit) (tk : List ByteArray) (b : Box) : L.call 57 [ste s (.fm (entT tk)), b.enc] [] = some (.bool (openSt s tk b), []) :=
  call_eq rfl rfl (by
    simp only [↓eA, eB, seval, c57, e_size b, List.length_map]
    generalize hE : (lim T).loop 57003 _ _ = R
    obtain ⟨X, e', H', rfl, rfl, g5⟩ := Ends.at hE (lp_open s hF tk b _ _ (by simp only [↓eA, eB, seval]) (by simp only [↓eA, eB, seval]) (by simp only [↓eA, eB, seval]) (by simp only [↓eA, eB, seval]) (by simp only [↓eA, eB, seval]) (by simp only [↓eA, eB, seval]) rfl rfl)
    simp only [↓eA, eB, seval, g5]
    rfl)
def outB (b : Box) (d : Int) : Box := if d = 0 then ⟨b.x1, b.y0, b.z0, IntKind.i64.wrap (b.x1 + 1), b.y1, b.z1⟩ else if d = 1 then ⟨wsub b.x0 1, b.y0, b.z0, b.x0, b.y1, b.z1⟩ else
  if d = 2 then ⟨b.x0, b.y1, b.z0, b.x1, IntKind.i64.wrap (b.y1 + 1), b.z1⟩ else if d = 3 then ⟨b.x0, wsub b.y0 1, b.z0, b.x1, b.y0, b.z1⟩ else b
theorem e_out (b : Box) (d : Int) (h : d = 0 ∨ d = 1 ∨ d = 2 ∨ d = 3) : L.call 73 [b.enc, int d] [] = some ((outB b d).enc, []) := by
  rcases h with rfl | rfl | rfl | rfl
  · exact call_eq rfl rfl (by simp only [↓eA, eB, seval, c73]; rfl)
  · exact call_eq rfl rfl (by simp only [↓eA, eB, seval, c73]; rfl)
  · exact call_eq rfl rfl (by simp only [↓eA, eB, seval, c73]; rfl)
  · exact call_eq rfl rfl (by simp only [↓eA, eB, seval, c73]; rfl)
theorem e_bedded1 (z : Int) (b : Bed) : L.call 97 [b.enc, .fp [int z] 0] [] = some (.bool (decide (b.z = z)), []) :=
  call_eq rfl rfl (by simp only [↓eA, eB, seval, c97])
def beddedB (s : Survey) (z : Int) : Bool := s.beds.any fun b => decide (b.z = z)
theorem e_bedded (s : Survey) (hF : s.Fit) (z : Int) : L.call 76 [s.enc, int z] [] = some (.bool (beddedB s z), []) :=
  call_eq rfl rfl (by
    have h := e_con_bed (fun b => decide (b.z = z)) 97 [.fp [int z] 0] false s.beds (by have := hF.bl; omega) rfl (fun x _ => e_bedded1 z x)
    simp only [↓eA, eB, seval, c76, h]
    rfl)
def partB (s : Site) (tk : List ByteArray) (c : Box) (lo hi : Int) : Bool := decide (hi ≤ lo) || openSt s tk ⟨c.x0, c.y0, lo, c.x1, c.y1, hi⟩
theorem e_part (s : Site) (hF : s.Fit) (tk : List ByteArray) (c : Box) (lo hi : Int) :
    L.call 74 [int hi, .ptr 500000 0, .ptr 500001 0, .fp (stc s (.fm (entT tk))) 0] [(500000, .box [int c.x0, int c.y0, int c.z0, int c.x1, int c.y1, int c.z1] false), (500001, .box [int lo] false)] = some (.bool (partB s tk c lo hi), [(500000, .box [int c.x0, int c.y0, int c.z0, int c.x1, int c.y1, int c.z1] false), (500001, .box [int lo] false)]) :=
  call_eq rfl rfl (by
    have h := e_open57 s hF tk ⟨c.x0, c.y0, lo, c.x1, c.y1, hi⟩
    simp only [↓eA, eB, seval, c74, h]
    rfl)
/-! faces. -/
def scanB (s : Site) (tk : List ByteArray) (c : Box) (top : Int) : List (Int × Int) → Int → Bool
  | [], lo => partB s tk c lo top
  | j :: r, lo => bif partB s tk c lo j.1 then scanB s tk c top r (IntKind.i64.wrap (j.2 + 1)) else false
def scanF (s : Site) (tk : List ByteArray) (c : Box) (lo : Int) (j : Int × Int) : Unit ⊕ Int := bif partB s tk c lo j.1 then .inr (IntKind.i64.wrap (j.2 + 1)) else .inl ()
theorem thru_scan (s : Site) (tk : List ByteArray) (c : Box) (top : Int) : ∀ (l : List (Int × Int)) (lo : Int), scanB s tk c top l lo = match thru (scanF s tk c) l lo with | .inl _ => false | .inr x => partB s tk c x top
  | [], lo => rfl
  | j :: r, lo => by
    simp only [scanB, thru, scanF]
    cases partB s tk c lo j.1 with
    | false => rfl
    | true => simp only [cond_true]; exact thru_scan s tk c top r _
abbrev bcells (b : Box) : List D := [int b.x0, int b.y0, int b.z0, int b.x1, int b.y1, int b.z1]
abbrev partFn (s : Site) (tk : List ByteArray) : D := .fn 74 [.ptr 9 0, .ptr 10 0, .fp (stc s (.fm (entT tk))) 0]
theorem lp_free (s : Site) (hF : s.Fit) (tk : List ByteArray) (b c : Box) (js : List (Int × Int)) (hj : js.length < 4000000000) (lo : Int) (e : Env) (H : Heap) (h2 : Gs.get e 2 = .fp (bcells b) 0) (h10 : Gs.get e 10 = .ptr 10 0) (h11 : Gs.get e 11 = partFn s tk) (h40 : Gs.get e 40 = .fz true 2 (js.map ivD)) (h41 : Gs.get e 41 = int js.length) (h42 : Gs.get e 42 = int 0) (hH9 : hget H 9 = some (.box (bcells c) false)) (hH10 : hget H 10 = some (.box [int lo] false)) :
    Ends T 70009 e H (fun X e' H' => match thru (scanF s tk c) js lo with
      | .inl _ => X = .ret ∧ Gs.get e' 4 = .bool false
      | .inr x => X = .ex 0 ∧ Gs.get e' 2 = .fp (bcells b) 0 ∧ Gs.get e' 11 = partFn s tk ∧ H' = [(9, .box (bcells c) false), (10, .box [int x] false)]) := by
  refine (loop_thru (T := T) (key := 70009) (li := l70009) rfl (scanF s tk c) js
    (fun i x e H => Gs.get e 2 = .fp (bcells b) 0 ∧ Gs.get e 10 = .ptr 10 0 ∧ Gs.get e 11 = partFn s tk ∧ Gs.get e 40 = .fz true 2 (js.map ivD) ∧ Gs.get e 41 = int js.length ∧ Gs.get e 42 = int i ∧ hget H 9 = some (.box (bcells c) false) ∧ hget H 10 = some (.box [int x] false))
    (fun _ X e' H' => X = .ret ∧ Gs.get e' 4 = .bool false) (fun x X e' H' => X = .ex 0 ∧ Gs.get e' 2 = .fp (bcells b) 0 ∧ Gs.get e' 11 = partFn s tk ∧ H' = [(9, .box (bcells c) false), (10, .box [int x] false)]) ?_ ?_ ?_ js [] lo e H rfl ⟨h2, h10, h11, h40, h41, h42, hH9, hH10⟩).mono fun X e' H' h => by cases hf : thru (scanF s tk c) js lo <;> rw [hf] at h <;> exact h
  · rintro i j x x' e H hx ⟨h2, h10, h11, h40, h41, h42, hH9, hH10⟩ hf
    have hi := (List.getElem?_eq_some_iff.1 hx).1
    have hx' : (js.map ivD)[i]? = some (.agg [int j.1, int j.2]) := by simp [hx, ivD]
    have hp := e_part s hF tk c x j.1
    unfold scanF at hf
    cases hb : partB s tk c x j.1 with
    | false => rw [hb] at hf; cases hf
    | true =>
    rw [hb] at hf hp
    injection hf with hf; subst hf
    simp only [↓eA, eB, seval, l70009, h2, h10, h11, h40, h41, h42, hH9, hH10, hi, hx', hp, killE_nil, wrap_succ (show i < 4611686018427387904 by omega)]
    and_intros <;> first | trivial | rfl
  · rintro i j x r e H hx ⟨h2, h10, h11, h40, h41, h42, hH9, hH10⟩ hf
    have hi := (List.getElem?_eq_some_iff.1 hx).1
    have hx' : (js.map ivD)[i]? = some (.agg [int j.1, int j.2]) := by simp [hx, ivD]
    have hp := e_part s hF tk c x j.1
    unfold scanF at hf
    cases hb : partB s tk c x j.1 with
    | true => rw [hb] at hf; cases hf
    | false =>
    rw [hb] at hp
    simp only [↓eA, eB, seval, l70009, h2, h10, h11, h40, h41, h42, hH9, hH10, hi, hx', hp, killE_nil]
    and_intros <;> first | trivial | rfl
  · rintro x e H ⟨h2, h10, h11, h40, h41, h42, hH9, hH10⟩
    simp only [↓eA, eB, seval, l70009, h2, h10, h11, h40, h41, h42, hH9, hH10, Nat.lt_irrefl]
    and_intros <;> first | trivial | rfl
def freeB (s : Site) (tk : List ByteArray) (b : Box) (d : Int) : Bool := (decide (sidedErr s.survey b d = 0) && openB s.survey b d) || scanB s tk (outB b d) b.z1 (jointedR s.survey b d).1 b.z0
theorem e_free (s : Site) (hF : s.Fit) (tk : List ByteArray) (b : Box) (d : Int) (hd : d = 0 ∨ d = 1 ∨ d = 2 ∨ d = 3) (hj : (jointedR s.survey b d).1.length < 4000000000) :
    L.call 70 [int d, .fp (stc s (.fm (entT tk))) 0, .fp (bcells b) 0] [] = some (.bool (freeB s tk b d), []) :=
  call_eq rfl rfl (by
    have h1 := e_open s.survey hF.sv b d
    have h2 := e_jointed s.survey hF.sv b d
    have h3 := e_out b d hd
    unfold freeB
    cases ho : (decide (sidedErr s.survey b d = 0) && openB s.survey b d) with
    | true => rw [ho] at h1; simp only [↓eA, eB, seval, c70, h1]
    | false =>
    rw [ho] at h1
    rw [thru_scan]
    generalize (jointedR s.survey b d).1 = js at h2 hj ⊢
    generalize outB b d = c at h3 ⊢
    simp only [↓eA, eB, seval, c70, h1, h2, h3, List.length_map]
    generalize hE : (lim T).loop 70009 _ _ = R
    obtain ⟨X, e', H', rfl, hp⟩ := Ends.at hE (lp_free s hF tk b c js hj b.z0 _ _ (by simp only [↓eA, eB, seval]) (by simp only [↓eA, eB, seval]) (by simp only [↓eA, eB, seval]) (by simp only [↓eA, eB, seval]) (by simp only [↓eA, eB, seval]) (by simp only [↓eA, eB, seval]) rfl rfl)
    cases ht : thru (scanF s tk c) js b.z0 with
    | inl u => rw [ht] at hp; obtain ⟨rfl, g4⟩ := hp; simp only [↓eA, eB, seval, g4]
    | inr x =>
      rw [ht] at hp
      obtain ⟨rfl, g2, g11, rfl⟩ := hp
      have hpart := e_part s hF tk c x b.z1
      simp only [↓eA, eB, seval, g2, g11, hpart, killE_nil])
end Tz.C18
