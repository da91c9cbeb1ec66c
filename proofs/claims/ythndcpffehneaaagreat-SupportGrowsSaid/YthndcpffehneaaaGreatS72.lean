/- bench.Check; no conditions. -/
import Derived.Test.YthndcpffehneaaaGreatS71
set_option linter.unusedVariables false
set_option linter.unusedSimpArgs false
set_option linter.unusedSectionVars false
set_option linter.defProp false
set_option linter.deprecated false
set_option maxRecDepth 100000
open Gs Go
namespace Tz.C18
/-! bench.twice. -/
def entT : List ByteArray → List D
  | [] => []
  | n :: r => .str n :: .bool true :: entT r
theorem mfind_entT (n : ByteArray) : ∀ l, mfind (.str n) (entT l) = some (bif l.any (seq n) then some (.bool true) else none)
  | [] => rfl
  | b :: r => by
    simp only [entT, mfind, keyEq, List.any_cons]
    cases h : seq n b with
    | true => rfl
    | false => simp only [Bool.false_or]; exact mfind_entT n r
theorem mput_entT (n : ByteArray) : ∀ l, l.any (seq n) = false → mput (.str n) (.bool true) (entT l) = some (entT (l ++ [n]))
  | [], _ => rfl
  | c :: r, h => by
    simp only [List.any_cons, Bool.or_eq_false_iff] at h
    simp only [entT, mput, keyEq, h.1, mput_entT n r h.2, List.cons_append]
def dupS : List ByteArray → List ByteArray → Bool
  | _, [] => false
  | s, n :: r => s.any (seq n) || dupS (s ++ [n]) r
theorem thru_dupS {α : Type} (nm : α → ByteArray) : ∀ (r : List α) (s : List ByteArray), thru (R := Unit) (fun (s : List ByteArray) b => bif s.any (seq (nm b)) then .inl () else .inr (s ++ [nm b])) r s = bif dupS s (r.map nm) then .inl () else .inr (s ++ r.map nm)
  | [], s => by simp [thru, dupS]
  | b :: r, s => by
    simp only [thru, dupS, List.map_cons]
    cases h : s.any (seq (nm b)) with
    | true => rfl
    | false => simp only [cond_false, Bool.false_or]; rw [thru_dupS nm r (s ++ [nm b])]; simp
theorem lp_twice (bs : List Bench) (hl : bs.length < 1000000) (e : Env) (H : Heap) (h3 : Gs.get e 3 = .mp 6) (h8 : Gs.get e 8 = benchs bs) (h9 : Gs.get e 9 = int bs.length) (h10 : Gs.get e 10 = int 0) (hM : hget H 6 = some (.mapB [] false)) :
    Ends T 152003 e H (fun X e' H' => match dupS [] (bs.map (·.name)) with
      | true => X = .ret ∧ Gs.get e' 2 = .bool true
      | false => X = .ex 0) := by
  refine (loop_thru (T := T) (key := 152003) (li := l152003) rfl (fun (s : List ByteArray) (b : Bench) => bif s.any (seq b.name) then .inl () else .inr (s ++ [b.name])) bs
    (fun i s e H => Gs.get e 3 = .mp 6 ∧ Gs.get e 8 = benchs bs ∧ Gs.get e 9 = int bs.length ∧ Gs.get e 10 = int i ∧ hget H 6 = some (.mapB (entT s) false))
    (fun _ X e' H' => X = .ret ∧ Gs.get e' 2 = .bool true) (fun s X e' H' => X = .ex 0) ?_ ?_ ?_ bs [] [] e H rfl ⟨h3, h8, h9, h10, hM⟩).mono fun X e' H' h => ?_
  · rintro i b s s' e H hx ⟨h3, h8, h9, h10, hM⟩ hf
    have hi := (List.getElem?_eq_some_iff.1 hx).1
    have hx' : (bs.map Bench.enc)[i]? = some b.enc := by simp [hx]
    have hn : s.any (seq b.name) = false := by cases hb : s.any (seq b.name) <;> simp_all
    rw [hn] at hf
    injection hf with hf; subst hf
    have hm : mfind (.str b.name) (entT s) = some none := by rw [mfind_entT, hn]; rfl
    have hp := mput_entT b.name s hn
    simp only [↓eA, eB, seval, l152003, h3, h8, h9, h10, hM, hi, hx', hm, hp, wrap_succ (show i < 4611686018427387904 by omega)]
    and_intros <;> first | trivial | rfl
  · rintro i b s r e H hx ⟨h3, h8, h9, h10, hM⟩ hf
    have hi := (List.getElem?_eq_some_iff.1 hx).1
    have hx' : (bs.map Bench.enc)[i]? = some b.enc := by simp [hx]
    have hn : s.any (seq b.name) = true := by cases hb : s.any (seq b.name) <;> simp_all
    have hm : mfind (.str b.name) (entT s) = some (some (.bool true)) := by rw [mfind_entT, hn]; rfl
    simp only [↓eA, eB, seval, l152003, h3, h8, h9, h10, hM, hi, hx', hm]
    and_intros <;> first | trivial | rfl
  · rintro s e H ⟨h3, h8, h9, h10, hM⟩
    simp only [↓eA, eB, seval, l152003, h3, h8, h9, h10, hM, Nat.lt_irrefl]
    and_intros <;> first | trivial | rfl
  · rw [thru_dupS (fun b : Bench => b.name)] at h
    cases hd : dupS [] (bs.map (·.name)) <;> rw [hd] at h <;> exact h
theorem e_twice (s : Site) (hF : s.Fit) : L.call 152 [s.enc] [] = some (.bool (dupS [] (s.benches.map (·.name))), []) :=
  call_eq rfl rfl (by
    simp only [↓eA, eB, seval, c152, List.length_map]
    generalize hE : (lim T).loop 152003 _ _ = R
    obtain ⟨X, e', H', rfl, hp⟩ := Ends.at hE (lp_twice s.benches hF.be _ _ rfl rfl rfl rfl rfl)
    cases hd : dupS [] (s.benches.map (·.name)) with
    | true => rw [hd] at hp; obtain ⟨rfl, g2⟩ := hp; simp only [↓eA, eB, seval, g2]
    | false => rw [hd] at hp; subst hp; simp only [↓eA, eB, seval])
/-! A block's bench. -/
def onBench (b : Block) (x : Bench) : Bool := decide (x.lo = b.box.z0)
theorem e_level1 (b : Block) (x : Bench) : L.call 200 [x.enc, .fp b.cells 0] [] = some (.bool (onBench b x), []) :=
  call_eq rfl rfl (by simp only [↓eA, eB, seval, c200]; rfl)
theorem e_level (s : Site) (hF : s.Fit) (b : Block) : L.call 155 [s.enc, b.enc] [] = some (int (idxOf (onBench b) s.benches), []) :=
  call_eq rfl rfl (by
    have h := e_idx_bench (onBench b) 200 [.fp b.cells 0] false s.benches (by have := hF.be; omega) rfl (fun x _ => e_level1 b x)
    simp only [↓eA, eB, seval, c155, h])
theorem find_idx' {α : Type} (p : α → Bool) : ∀ (bs : List α), (bs.find? p = none ∧ bs.findIdx? p = none) ∨ ∃ a j, bs.find? p = some a ∧ bs.findIdx? p = some j ∧ bs[j]? = some a
  | [] => .inl ⟨rfl, rfl⟩
  | b :: r => by
    rw [List.find?_cons, List.findIdx?_cons]
    cases hb : p b with
    | true => exact .inr ⟨b, 0, rfl, rfl, rfl⟩
    | false =>
      rcases find_idx' p r with ⟨h1, h2⟩ | ⟨a, j, h1, h2, h3⟩
      · exact .inl ⟨h1, by simp [h2]⟩
      · exact .inr ⟨a, j + 1, h1, by simp [h2], by simpa using h3⟩
def conflict (s : Site) (b : Block) : Bool := match s.benches.find? (onBench b) with
  | none => true
  | some x => decide (x.hi < b.box.z1)
theorem inb_neg (n : Nat) : inb (-1) n = false := by simp [inb]
theorem e_c11 (s : Site) (hF : s.Fit) (b : Block) : L.call 154 [s.enc, b.enc] [] = some (.bool (conflict s b), []) :=
  call_eq rfl rfl (by
    have hl := e_level s hF b
    unfold conflict
    rcases find_idx' (onBench b) s.benches with ⟨h1, h2⟩ | ⟨a, j, h1, h2, h3⟩
    · have hx : idxOf (onBench b) s.benches = -1 := by unfold idxOf; rw [h2]
      rw [h1]
      rw [hx] at hl
      simp only [↓eA, eB, seval, c154, hl, inb_neg, List.length_map]
    · have hx : idxOf (onBench b) s.benches = (j : Int) := by unfold idxOf; rw [h2]
      have hj := (List.getElem?_eq_some_iff.1 h3).1
      have h3' : (s.benches.map Bench.enc)[j]? = some a.enc := by simp [h3]
      have hneg : decide ((j : Int) < 0) = false := decide_eq_false (by omega)
      rw [h1]
      rw [hx] at hl
      simp only [↓eA, eB, seval, c154, hl, hneg, hj, h3', List.length_map])
/-! Overlaps. -/
def lapF : List Block → List Block → Bool
  | _, [] => false
  | s, b :: r => s.any (fun c => !Tz.C18.apart b.box c.box) || lapF (s ++ [b]) r
theorem thru_lap : ∀ (r s : List Block), thru (R := Unit) (fun (s : List Block) b => bif s.any (fun c => !apart b.box c.box) then .inl () else .inr (s ++ [b])) r s = bif lapF s r then .inl () else .inr (s ++ r)
  | [], s => by simp [thru, lapF]
  | b :: r, s => by
    simp only [thru, lapF]
    cases h : s.any (fun c => !apart b.box c.box) with
    | true => rfl
    | false => simp only [cond_false, Bool.false_or]; rw [thru_lap r (s ++ [b])]; simp
theorem e_c12a (a b : Block) : L.call 158 [b.enc, .fp a.cells 0] [] = some (.bool (!apart a.box b.box), []) :=
  call_eq rfl rfl (by simp only [↓eA, eB, seval, c158, e_bOverlap a.box b.box])
theorem cut_map {α : Type} (f : α → D) (l : List α) (i : Nat) : cut (l.map f) 0 i = (l.take i).map f := by simp [cut, List.map_take]
theorem lp_c12 (s : Site) (hF : s.Fit) (e : Env) (H : Heap) (h1 : Gs.get e 1 = .ptr 1 0) (h6 : Gs.get e 6 = blks s.blocks) (h7 : Gs.get e 7 = int s.blocks.length) (h8 : Gs.get e 8 = int 0) (hH : hget H 1 = some (.box s.cells false)) :
    Ends T 156002 e H (fun X e' H' => match lapF [] s.blocks with
      | true => X = .ret ∧ Gs.get e' 2 = .bool true
      | false => X = .ex 0) := by
  have hb := hF.bl
  refine (loop_thru (T := T) (key := 156002) (li := l156002) rfl (fun (s : List Block) b => bif s.any (fun c => !apart b.box c.box) then .inl () else .inr (s ++ [b])) s.blocks
    (fun i t e H => Gs.get e 1 = .ptr 1 0 ∧ Gs.get e 6 = blks s.blocks ∧ Gs.get e 7 = int s.blocks.length ∧ Gs.get e 8 = int i ∧ hget H 1 = some (.box s.cells false) ∧ t = s.blocks.take i)
    (fun _ X e' H' => X = .ret ∧ Gs.get e' 2 = .bool true) (fun s X e' H' => X = .ex 0) ?_ ?_ ?_ s.blocks [] [] e H rfl ⟨h1, h6, h7, h8, hH, rfl⟩).mono fun X e' H' h => ?_
  · rintro i b t t' e H hx ⟨h1, h6, h7, h8, hH, rfl⟩ hf
    have hi := (List.getElem?_eq_some_iff.1 hx).1
    have hx' : (s.blocks.map Block.enc)[i]? = some b.enc := by simp [hx]
    have hle : decide (i ≤ s.blocks.length) = true := decide_eq_true (by omega)
    have hz : decide (0 ≤ i) = true := decide_eq_true (by omega)
    have hcon := fun nz => e_con_block (fun c => !apart b.box c.box) 158 [.fp b.cells 0] nz (s.blocks.take i) (by simp; omega) rfl (fun x _ => e_c12a b x)
    have hn : (s.blocks.take i).any (fun c => !apart b.box c.box) = false := by cases hb : (s.blocks.take i).any (fun c => !apart b.box c.box) <;> simp_all
    rw [hn] at hf hcon
    injection hf with hf
    have hinc : inc 0 i = true := by simp [inc]
    simp only [↓eA, eB, seval, l156002, h1, h6, h7, h8, hH, hi, hx', cut_map, hle, hinc, Nat.sub_zero, hcon, wrap_succ (show i < 4611686018427387904 by omega)]
    refine ⟨trivial, trivial, trivial, trivial, trivial, trivial, ?_⟩
    rw [← hf, List.take_add_one, hx]; rfl
  · rintro i b t r e H hx ⟨h1, h6, h7, h8, hH, rfl⟩ hf
    have hi := (List.getElem?_eq_some_iff.1 hx).1
    have hx' : (s.blocks.map Block.enc)[i]? = some b.enc := by simp [hx]
    have hle : decide (i ≤ s.blocks.length) = true := decide_eq_true (by omega)
    have hcon := fun nz => e_con_block (fun c => !apart b.box c.box) 158 [.fp b.cells 0] nz (s.blocks.take i) (by simp; omega) rfl (fun x _ => e_c12a b x)
    have hn : (s.blocks.take i).any (fun c => !apart b.box c.box) = true := by cases hb : (s.blocks.take i).any (fun c => !apart b.box c.box) <;> simp_all
    rw [hn] at hcon
    have hinc : inc 0 i = true := by simp [inc]
    simp only [↓eA, eB, seval, l156002, h1, h6, h7, h8, hH, hi, hx', cut_map, hle, hinc, Nat.sub_zero, hcon]
    and_intros <;> first | trivial | rfl
  · rintro t e H ⟨h1, h6, h7, h8, hH, ht⟩
    simp only [↓eA, eB, seval, l156002, h1, h6, h7, h8, hH, Nat.lt_irrefl]
    and_intros <;> first | trivial | rfl
  · rw [thru_lap] at h
    cases hd : lapF [] s.blocks <;> rw [hd] at h <;> exact h
theorem e_c12 (s : Site) (hF : s.Fit) : L.call 156 [s.enc] [] = some (.bool (lapF [] s.blocks), []) :=
  call_eq rfl rfl (by
    simp only [↓eA, eB, seval, c156, List.length_map]
    generalize hE : (lim T).loop 156002 _ _ = R
    obtain ⟨X, e', H', rfl, hp⟩ := Ends.at hE (lp_c12 s hF _ _ rfl rfl rfl rfl rfl)
    cases hd : lapF [] s.blocks with
    | true => rw [hd] at hp; obtain ⟨rfl, g2⟩ := hp; simp only [↓eA, eB, seval, g2]
    | false => rw [hd] at hp; subst hp; simp only [↓eA, eB, seval])
/-! Conditions of conditions. -/
theorem e_any196 (s : Site) (b : Bench) (g : Nat) (p : Bool) (h : L.call g [s.enc, b.enc] [] = some (.bool p, [])) : L.call 196 [b.enc, .fp [.fn g []] 0, .fp s.cells 0] [] = some (.bool p, []) :=
  call_eq rfl rfl (by simp only [↓eA, eB, seval, c196, h])
theorem e_any198 (s : Site) (b : Block) (g : Nat) (p : Bool) (h : L.call g [s.enc, b.enc] [] = some (.bool p, [])) : L.call 198 [b.enc, .fp [.fn g []] 0, .fp s.cells 0] [] = some (.bool p, []) :=
  call_eq rfl rfl (by simp only [↓eA, eB, seval, c198, h])
theorem e_anyBench (s : Site) (hF : s.Fit) (g : Nat) (p : Bench → Bool) (h : ∀ b ∈ s.benches, L.call g [s.enc, b.enc] [] = some (.bool (p b), [])) : L.call 194 [s.enc, .fp [.fn g []] 0] [] = some (.bool (s.benches.any p), []) :=
  call_eq rfl rfl (by
    have hc := e_con_bench p 196 [.fp [.fn g []] 0, .fp s.cells 0] false s.benches (by have := hF.be; omega) rfl (fun x hx => e_any196 s x g _ (h x hx))
    simp only [↓eA, eB, seval, c194, hc])
theorem e_anyBlock (s : Site) (hF : s.Fit) (g : Nat) (p : Block → Bool) (h : ∀ b ∈ s.blocks, L.call g [s.enc, b.enc] [] = some (.bool (p b), [])) : L.call 197 [s.enc, .fp [.fn g []] 0] [] = some (.bool (s.blocks.any p), []) :=
  call_eq rfl rfl (by
    have hc := e_con_block p 198 [.fp [.fn g []] 0, .fp s.cells 0] false s.blocks (by have := hF.bl; omega) rfl (fun x hx => e_any198 s x g _ (h x hx))
    simp only [↓eA, eB, seval, c197, hc])
theorem e_either (s : Site) (g1 g2 : Nat) (c1 c2 : List D) (h1 : closedL c1 = true) (h2 : closedL c2 = true) (p q : Bool) (hp : L.call g1 (s.enc :: c1) [] = some (.bool p, [])) (hq : L.call g2 (s.enc :: c2) [] = some (.bool q, [])) :
    L.call 193 [s.enc, .fp [.fn g1 c1] 0, .fp [.fn g2 c2] 0] [] = some (.bool (p || q), []) :=
  call_eq rfl rfl (by simp only [↓eA, eB, seval, c193, renL_closed h1, renL_closed h2, hp, hq])
/-! bench.Check. -/
abbrev anyB (g : Nat) : D := .fn 194 [.fp [.fn g []] 0]
abbrev anyK (g : Nat) : D := .fn 197 [.fp [.fn g []] 0]
abbrev eith (f g : D) : D := .fn 193 [.fp [f] 0, .fp [g] 0]
theorem e_mkBench (g : Nat) : L.call 141 [.fn g []] [] = some (anyB g, []) := call_eq rfl rfl (by simp only [↓eA, eB, seval, c141])
theorem e_mkBlock (g : Nat) : L.call 143 [.fn g []] [] = some (anyK g, []) := call_eq rfl rfl (by simp only [↓eA, eB, seval, c143])
theorem e_mkEither (g1 g2 : Nat) : L.call 140 [anyB g1, anyK g2] [] = some (eith (anyB g1) (anyK g2), []) := call_eq rfl rfl (by simp only [↓eA, eB, seval, c140])
theorem e_mkEither0 (g1 g2 : Nat) : L.call 140 [.fn g1 [], .fn g2 []] [] = some (eith (.fn g1 []) (.fn g2 []), []) := call_eq rfl rfl (by simp only [↓eA, eB, seval, c140])
structure Cond where
  err : Int
  g : Nat
  caps : List D
  val : Bool
abbrev Cond.enc (c : Cond) : D := .agg [int c.err, .fn c.g c.caps]
def condL (s : Site) : List Cond := [
  ⟨7, 137, [], cMany s⟩, ⟨6, 138, [], cRange s⟩,
  ⟨4, 193, [.fp [anyB 142] 0, .fp [anyK 144] 0], s.benches.any (fun b => !pName b.name) || s.blocks.any (fun b => !pName b.name)⟩,
  ⟨1, 193, [.fp [anyB 145] 0, .fp [anyK 146] 0], s.benches.any (fun b => decide (b.hi ≤ b.lo)) || s.blocks.any (fun b => emptyB b.box)⟩,
  ⟨12, 193, [.fp [anyB 148] 0, .fp [anyK 149] 0], s.benches.any (benchOut s) || s.blocks.any (blockOut s)⟩,
  ⟨11, 151, [], steps s.benches geBench⟩,
  ⟨5, 193, [.fp [.fn 152 []] 0, .fp [.fn 153 []] 0], dupS [] (s.benches.map (·.name)) || steps s.blocks geBlock⟩,
  ⟨10, 197, [.fp [.fn 154 []] 0], s.blocks.any (conflict s)⟩,
  ⟨11, 156, [], lapF [] s.blocks⟩]
theorem e_conds (s : Site) : L.call 92 [] [] = some (.fz false 2 ((condL s).map Cond.enc), []) :=
  call_eq rfl rfl (by
    simp only [↓eA, eB, seval, c92, e_mkBench, e_mkBlock, e_mkEither, e_mkEither0]
    rfl)
theorem cond_call (s : Site) (hF : s.Fit) : ∀ c ∈ condL s, closedL c.caps = true ∧ L.call c.g (s.enc :: c.caps) [] = some (.bool c.val, []) := by
  intro c hc
  simp only [condL, List.mem_cons, List.not_mem_nil, or_false] at hc
  rcases hc with rfl | rfl | rfl | rfl | rfl | rfl | rfl | rfl | rfl
  · exact ⟨rfl, e_c1 s⟩
  · exact ⟨rfl, e_c2 s⟩
  · exact ⟨rfl, e_either s _ _ _ _ rfl rfl _ _ (e_anyBench s hF _ _ fun b hb => e_c3 s b (hF.en b hb)) (e_anyBlock s hF _ _ fun b hb => e_c4 s b (hF.bn b hb))⟩
  · exact ⟨rfl, e_either s _ _ _ _ rfl rfl _ _ (e_anyBench s hF _ _ fun b hb => e_c5 s b) (e_anyBlock s hF _ _ fun b hb => e_c6 s b)⟩
  · exact ⟨rfl, e_either s _ _ _ _ rfl rfl _ _ (e_anyBench s hF _ _ fun b hb => e_c7 s b) (e_anyBlock s hF _ _ fun b hb => e_c8 s b)⟩
  · exact ⟨rfl, e_c9 s hF⟩
  · exact ⟨rfl, e_either s _ _ _ _ rfl rfl _ _ (e_twice s hF) (e_c10 s hF)⟩
  · exact ⟨rfl, e_anyBlock s hF _ _ fun b hb => e_c11 s hF b⟩
  · exact ⟨rfl, e_c12 s hF⟩
theorem lp_bCheck (s : Site) (cs : List Cond) (hl : cs.length < 1000) (hc : ∀ c ∈ cs, closedL c.caps = true ∧ L.call c.g (s.enc :: c.caps) [] = some (.bool c.val, [])) (e : Env) (H : Heap) (h1 : Gs.get e 1 = .ptr 1 0) (h12 : Gs.get e 12 = .fz false 2 (cs.map Cond.enc)) (h13 : Gs.get e 13 = int cs.length) (h14 : Gs.get e 14 = int 0) (hH : hget H 1 = some (.box s.cells false)) :
    Ends T 67005 e H (fun X e' H' => match cs.find? (·.val) with
      | some c => X = .ret ∧ Gs.get e' 2 = int c.err
      | none => X = .ex 0) := by
  refine (loop_findH (T := T) (key := 67005) (li := l67005) rfl cs (·.val) (fun i e H => Gs.get e 1 = .ptr 1 0 ∧ Gs.get e 12 = .fz false 2 (cs.map Cond.enc) ∧ Gs.get e 13 = int cs.length ∧ Gs.get e 14 = int i ∧ hget H 1 = some (.box s.cells false))
    (fun c X e' H' => X = .ret ∧ Gs.get e' 2 = int c.err) (fun X e' H' => X = .ex 0) ?_ ?_ e H ⟨h1, h12, h13, h14, hH⟩).mono fun X e' H' h => by cases hf : cs.find? (·.val) <;> rw [hf] at h <;> exact h
  · rintro i c e H hx hi ⟨h1, h12, h13, h14, hH⟩
    have hx' : (cs.map Cond.enc)[i]? = some c.enc := by simp [hx]
    obtain ⟨hcl, hcall⟩ := hc c (List.mem_of_getElem? hx)
    cases hv : c.val with
    | true =>
      rw [hv] at hcall
      simp only [↓eA, eB, seval, l67005, h1, h12, h13, h14, hH, hi, hx', renL_closed hcl, hcall]
      and_intros <;> first | trivial | rfl
    | false =>
      rw [hv] at hcall
      simp only [↓eA, eB, seval, l67005, h1, h12, h13, h14, hH, hi, hx', renL_closed hcl, hcall, wrap_succ (show i < 4611686018427387904 by omega)]
      and_intros <;> first | trivial | rfl
  · rintro e H ⟨h1, h12, h13, h14, hH⟩
    simp only [↓eA, eB, seval, l67005, h1, h12, h13, h14, hH, Nat.lt_irrefl]
    and_intros <;> first | trivial | rfl
def siteErr (s : Site) : Int := bif !decide (surveyErr s.survey = 0) then surveyErr s.survey else match (condL s).find? (·.val) with
  | some c => c.err
  | none => 0
theorem e_siteCheck (s : Site) (hF : s.Fit) : L.call 67 [s.enc] [] = some (int (siteErr s), []) :=
  call_eq rfl rfl (by
    have h1 := e_pCheck s.survey hF.sv
    have h2 := e_conds s
    have h3 := cond_call s hF
    have hlen : (condL s).length < 1000 := by simp [condL]
    unfold siteErr
    generalize condL s = cs at h2 h3 hlen
    cases hs : decide (surveyErr s.survey = 0) with
    | false => simp only [↓eA, eB, seval, c67, h1, hs]
    | true =>
    simp only [↓eA, eB, seval, c67, h1, h2, hs, List.length_map]
    generalize hE : (lim T).loop 67005 _ _ = R
    obtain ⟨X, e', H', rfl, hp⟩ := Ends.at hE (lp_bCheck s cs hlen h3 _ _ (by simp only [↓eA, eB, seval]) (by simp only [↓eA, eB, seval]) (by simp only [↓eA, eB, seval]) (by simp only [↓eA, eB, seval]) rfl)
    cases hf : cs.find? (·.val) with
    | some c => rw [hf] at hp; obtain ⟨rfl, g2⟩ := hp; simp only [↓eA, eB, seval, g2]
    | none => rw [hf] at hp; subst hp; simp only [↓eA, eB, seval])
end Tz.C18
