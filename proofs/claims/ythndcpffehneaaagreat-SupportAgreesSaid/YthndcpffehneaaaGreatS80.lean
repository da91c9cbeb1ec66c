/- SupportAgrees: the loops; no conditions. -/
import Derived.Test.YthndcpffehneaaaGreatS79
import Derived.Test.YthndcpffehneaaaGreatS66
import Derived.Test.YthndcpffehneaaaGreatS0A
set_option linter.unusedVariables false
set_option linter.unusedSimpArgs false
set_option linter.unusedSectionVars false
set_option linter.defProp false
set_option linter.deprecated false
set_option maxRecDepth 100000
open Gs Go
namespace Tz.C18
/-! SupportAgrees. -/
theorem aw : L.call 10 [] [] = some (.bool true, []) := Aw.aw_run
abbrev lNames (s : Site) (tk : List ByteArray) : List ByteArray := namesOf (possible s tk) s.blocks
abbrev A3 (s : Site) : Heap := [(3, .box s.cells false)]
structure EnvA (s : Site) (tk : List ByteArray) (n : Nat) (i : Nat) (e : Env) : Prop where
  h1 : Gs.get e 1 = strs tk
  h3 : Gs.get e 3 = .ptr 3 0
  h7 : Gs.get e 7 = .fz true 1 ((lNames s tk).map .str)
  h11 : Gs.get e 11 = int n
  h12 : Gs.get e 12 = int i
theorem lp_inner (s : Site) (hF : s.Fit) (hok : SiteOk s) (tk : List ByteArray) (n i : Nat) (a : Block) (ha : a ∈ s.blocks) (e : Env) (H : Heap) (hA : EnvA s tk n i e) (h13 : Gs.get e 13 = .str a.name) (h16 : Gs.get e 16 = .fz true 1 ((sortB (namesOf (fun b => leansB a.box b.box) s.blocks)).map .str)) (h18 : Gs.get e 18 = int 0) (hH : hget H 3 = some (.box s.cells false)) :
    Ends T 9025 e H (fun X e' H' => X = .ex 2 ∧ EnvA s tk n i e' ∧ H' = A3 s) := by
  have hb := hF.bl
  have hs := sorted_of hok.srt
  refine (loop_fold (T := T) (key := 9025) (li := l9025) rfl s.blocks (fun (u : Unit) _ => u)
    (fun k u e H => EnvA s tk n i e ∧ Gs.get e 13 = .str a.name ∧ Gs.get e 16 = .fz true 1 ((sortB (namesOf (fun b => leansB a.box b.box) s.blocks)).map .str) ∧ Gs.get e 18 = int k ∧ hget H 3 = some (.box s.cells false))
    (fun u X e' H' => X = .ex 2 ∧ EnvA s tk n i e' ∧ H' = A3 s) ?_ ?_ () e H ⟨hA, h13, h16, h18, hH⟩).mono fun _ _ _ h => h
  · rintro k b u e H hx hi ⟨⟨h1, h3, h7, h11, h12⟩, h13, h16, h18, hH⟩
    have hx' : (s.blocks.map Block.enc)[k]? = some b.enc := by simp [hx]
    have hbm := List.mem_of_getElem? hx
    have hc := e_Carries_ok s.blocks hF.bl b.name b (find_ok hok hbm)
    have lp : ∀ p, (sortB (namesOf p s.blocks)).length < 1000000 := fun p => by
      rw [(sortB_perm _).length_eq]; have := namesOf_len p s.blocks; omega
    have g1 := e_has true _ (lp (fun b => leansB a.box b.box)) b.name
    have g2 := e_has true _ (lp (fun x => leansB x.box b.box)) a.name
    rw [sortB_any, names_any hs _ hbm] at g1
    rw [sortB_any, names_any hs _ ha] at g2
    simp only [↓eA, eB, reduceIte, Nat.reduceBEq, Int.reduceNeg, Int.reduceLT, Int.reduceLE, Int.reduceAdd, Int.reduceSub, Int.reduceMul, Int.reduceEq, Int.reduceToNat, Nat.reduceLT, Nat.reduceAdd, Nat.reduceMul, Nat.reduceSub, l9025, h1, h3, h7, h11, h12, h13, h16, h18, hH, hi, hx', hc, g1, g2, beq_self_eq_true, List.length_map, wrap_succ (show k < 4611686018427387904 by omega)]
    exact ⟨trivial, ⟨by simp only [↓eA, eB, reduceIte, Nat.reduceBEq, Int.reduceNeg, Int.reduceLT, Int.reduceLE, Int.reduceAdd, Int.reduceSub, Int.reduceMul, Int.reduceEq, Int.reduceToNat, Nat.reduceLT, Nat.reduceAdd, Nat.reduceMul, Nat.reduceSub], by simp only [↓eA, eB, reduceIte, Nat.reduceBEq, Int.reduceNeg, Int.reduceLT, Int.reduceLE, Int.reduceAdd, Int.reduceSub, Int.reduceMul, Int.reduceEq, Int.reduceToNat, Nat.reduceLT, Nat.reduceAdd, Nat.reduceMul, Nat.reduceSub], by simp only [↓eA, eB, reduceIte, Nat.reduceBEq, Int.reduceNeg, Int.reduceLT, Int.reduceLE, Int.reduceAdd, Int.reduceSub, Int.reduceMul, Int.reduceEq, Int.reduceToNat, Nat.reduceLT, Nat.reduceAdd, Nat.reduceMul, Nat.reduceSub], by simp only [↓eA, eB, reduceIte, Nat.reduceBEq, Int.reduceNeg, Int.reduceLT, Int.reduceLE, Int.reduceAdd, Int.reduceSub, Int.reduceMul, Int.reduceEq, Int.reduceToNat, Nat.reduceLT, Nat.reduceAdd, Nat.reduceMul, Nat.reduceSub], by simp only [↓eA, eB, reduceIte, Nat.reduceBEq, Int.reduceNeg, Int.reduceLT, Int.reduceLE, Int.reduceAdd, Int.reduceSub, Int.reduceMul, Int.reduceEq, Int.reduceToNat, Nat.reduceLT, Nat.reduceAdd, Nat.reduceMul, Nat.reduceSub]⟩, trivial, trivial, trivial, trivial⟩
  · rintro u e H ⟨⟨h1, h3, h7, h11, h12⟩, h13, h16, h18, hH⟩
    simp only [↓eA, eB, reduceIte, Nat.reduceBEq, Int.reduceNeg, Int.reduceLT, Int.reduceLE, Int.reduceAdd, Int.reduceSub, Int.reduceMul, Int.reduceEq, Int.reduceToNat, Nat.reduceLT, Nat.reduceAdd, Nat.reduceMul, Nat.reduceSub, l9025, h1, h3, h7, h11, h12, h13, h16, h18, hH, List.length_map, Nat.lt_irrefl]
    exact ⟨trivial, trivial, ⟨by simp only [↓eA, eB, reduceIte, Nat.reduceBEq, Int.reduceNeg, Int.reduceLT, Int.reduceLE, Int.reduceAdd, Int.reduceSub, Int.reduceMul, Int.reduceEq, Int.reduceToNat, Nat.reduceLT, Nat.reduceAdd, Nat.reduceMul, Nat.reduceSub], by simp only [↓eA, eB, reduceIte, Nat.reduceBEq, Int.reduceNeg, Int.reduceLT, Int.reduceLE, Int.reduceAdd, Int.reduceSub, Int.reduceMul, Int.reduceEq, Int.reduceToNat, Nat.reduceLT, Nat.reduceAdd, Nat.reduceMul, Nat.reduceSub], by simp only [↓eA, eB, reduceIte, Nat.reduceBEq, Int.reduceNeg, Int.reduceLT, Int.reduceLE, Int.reduceAdd, Int.reduceSub, Int.reduceMul, Int.reduceEq, Int.reduceToNat, Nat.reduceLT, Nat.reduceAdd, Nat.reduceMul, Nat.reduceSub], by simp only [↓eA, eB, reduceIte, Nat.reduceBEq, Int.reduceNeg, Int.reduceLT, Int.reduceLE, Int.reduceAdd, Int.reduceSub, Int.reduceMul, Int.reduceEq, Int.reduceToNat, Nat.reduceLT, Nat.reduceAdd, Nat.reduceMul, Nat.reduceSub], by simp only [↓eA, eB, reduceIte, Nat.reduceBEq, Int.reduceNeg, Int.reduceLT, Int.reduceLE, Int.reduceAdd, Int.reduceSub, Int.reduceMul, Int.reduceEq, Int.reduceToNat, Nat.reduceLT, Nat.reduceAdd, Nat.reduceMul, Nat.reduceSub]⟩, trivial⟩
theorem names_split (p : Block → Bool) (bs : List Block) (i : Nat) (a : Block) (h : bs[i]? = some a) : namesOf p bs = namesOf p (bs.take i) ++ namesOf p (a :: bs.drop (i + 1)) := by
  have hi := (List.getElem?_eq_some_iff.1 h).1
  have hd : bs.drop i = a :: bs.drop (i + 1) := by
    rw [List.drop_eq_getElem_cons hi, (List.getElem?_eq_some_iff.1 h).2]
  unfold namesOf
  rw [← hd, ← List.map_append, ← List.filter_append, List.take_append_drop]
def cntF (s : Site) (tk : List ByteArray) (n : Nat) (b : Block) : Nat := bif possible s tk b then n + 1 else n
theorem lp_outer (s : Site) (hF : s.Fit) (hok : SiteOk s) (tk : List ByteArray) (ht : tk.length < 1000000) (hst : startErr s tk = 0) (e : Env) (H : Heap) (hA : EnvA s tk 0 0 e) (hH : hget H 3 = some (.box s.cells false)) :
    Ends T 9013 e H (fun X e' H' => X = .ex 0 ∧ Gs.get e' 7 = .fz true 1 ((lNames s tk).map .str) ∧ Gs.get e' 11 = int (lNames s tk).length) := by
  have hb := hF.bl
  have hs := sorted_of hok.srt
  refine (loop_fold (T := T) (key := 9013) (li := l9013) rfl s.blocks (cntF s tk)
    (fun i n e H => EnvA s tk n i e ∧ hget H 3 = some (.box s.cells false) ∧ n = (namesOf (possible s tk) (s.blocks.take i)).length)
    (fun n X e' H' => X = .ex 0 ∧ Gs.get e' 7 = .fz true 1 ((lNames s tk).map .str) ∧ Gs.get e' 11 = int n) ?_ ?_ 0 e H ⟨hA, hH, rfl⟩).mono fun X e' H' h => ?_
  · rintro i a n e H hx hi ⟨⟨h1, h3, h7, h11, h12⟩, hH, hn⟩
    have hx' : (s.blocks.map Block.enc)[i]? = some a.enc := by simp [hx]
    have ham := List.mem_of_getElem? hx
    have hnm := names_split (possible s tk) s.blocks i a hx
    have hw := e_Why_ok s hF tk ht a.name hst a (sorted_find hs ham)
    have hle := e_LeansOn_ok s.blocks hF.bl a.name a (find_ok hok ham)
    have hnl : n ≤ i := by
      have := namesOf_len (possible s tk) (s.blocks.take i)
      rw [List.length_take] at this
      omega
    have hwn := wrap_succ (show n < 4611686018427387904 by omega)
    have hwi := wrap_succ (show i < 4611686018427387904 by omega)
    have hkind : possible s tk a = decide ((whyB s tk a).1 = 0) := rfl
    have hcount : cntF s tk n a = (namesOf (possible s tk) (s.blocks.take (i + 1))).length := by
      rw [List.take_add_one, hx]
      unfold cntF
      cases hp : possible s tk a <;> simp [namesOf, hp, hn]
    cases hp : possible s tk a with
    | true =>
      have hlt : n < (lNames s tk).length := by
        rw [lNames, hnm, List.length_append, ← hn]
        simp [namesOf, hp]
      have hg : ((lNames s tk).map D.str)[n]? = some (.str a.name) := by
        rw [List.getElem?_map, lNames, hnm, hn, List.getElem?_append_right (Nat.le_refl _)]
        simp [namesOf, hp]
      have hc1 : cntF s tk n a = n + 1 := by unfold cntF; rw [hp]; rfl
      rw [hkind] at hp
      rw [hc1] at hcount ⊢
      simp only [↓eA, eB, reduceIte, Nat.reduceBEq, Int.reduceNeg, Int.reduceLT, Int.reduceLE, Int.reduceAdd, Int.reduceSub, Int.reduceMul, Int.reduceEq, Int.reduceToNat, Nat.reduceLT, Nat.reduceAdd, Nat.reduceMul, Nat.reduceSub, l9013, h1, h3, h7, h11, h12, hH, hi, hx', hw, hle, hlt, hg, hp, seq_refl, beq_self_eq_true, hwn, List.length_map]
      generalize hE : (lim T).loop 9025 _ _ = R
      obtain ⟨X, e', H', rfl, rfl, ⟨q1, q3, q7, q11, q12⟩, rfl⟩ := Ends.at hE (lp_inner s hF hok tk (n + 1) i a ham _ _ ⟨by simp only [↓eA, eB, reduceIte, Nat.reduceBEq, Int.reduceNeg, Int.reduceLT, Int.reduceLE, Int.reduceAdd, Int.reduceSub, Int.reduceMul, Int.reduceEq, Int.reduceToNat, Nat.reduceLT, Nat.reduceAdd, Nat.reduceMul, Nat.reduceSub], by simp only [↓eA, eB, reduceIte, Nat.reduceBEq, Int.reduceNeg, Int.reduceLT, Int.reduceLE, Int.reduceAdd, Int.reduceSub, Int.reduceMul, Int.reduceEq, Int.reduceToNat, Nat.reduceLT, Nat.reduceAdd, Nat.reduceMul, Nat.reduceSub], by simp only [↓eA, eB, reduceIte, Nat.reduceBEq, Int.reduceNeg, Int.reduceLT, Int.reduceLE, Int.reduceAdd, Int.reduceSub, Int.reduceMul, Int.reduceEq, Int.reduceToNat, Nat.reduceLT, Nat.reduceAdd, Nat.reduceMul, Nat.reduceSub], by simp only [↓eA, eB, reduceIte, Nat.reduceBEq, Int.reduceNeg, Int.reduceLT, Int.reduceLE, Int.reduceAdd, Int.reduceSub, Int.reduceMul, Int.reduceEq, Int.reduceToNat, Nat.reduceLT, Nat.reduceAdd, Nat.reduceMul, Nat.reduceSub], by simp only [↓eA, eB, reduceIte, Nat.reduceBEq, Int.reduceNeg, Int.reduceLT, Int.reduceLE, Int.reduceAdd, Int.reduceSub, Int.reduceMul, Int.reduceEq, Int.reduceToNat, Nat.reduceLT, Nat.reduceAdd, Nat.reduceMul, Nat.reduceSub]⟩ (by simp only [↓eA, eB, reduceIte, Nat.reduceBEq, Int.reduceNeg, Int.reduceLT, Int.reduceLE, Int.reduceAdd, Int.reduceSub, Int.reduceMul, Int.reduceEq, Int.reduceToNat, Nat.reduceLT, Nat.reduceAdd, Nat.reduceMul, Nat.reduceSub]) (by simp only [↓eA, eB, reduceIte, Nat.reduceBEq, Int.reduceNeg, Int.reduceLT, Int.reduceLE, Int.reduceAdd, Int.reduceSub, Int.reduceMul, Int.reduceEq, Int.reduceToNat, Nat.reduceLT, Nat.reduceAdd, Nat.reduceMul, Nat.reduceSub]) (by simp only [↓eA, eB, reduceIte, Nat.reduceBEq, Int.reduceNeg, Int.reduceLT, Int.reduceLE, Int.reduceAdd, Int.reduceSub, Int.reduceMul, Int.reduceEq, Int.reduceToNat, Nat.reduceLT, Nat.reduceAdd, Nat.reduceMul, Nat.reduceSub]) rfl)
      simp only [↓eA, eB, reduceIte, Nat.reduceBEq, Int.reduceNeg, Int.reduceLT, Int.reduceLE, Int.reduceAdd, Int.reduceSub, Int.reduceMul, Int.reduceEq, Int.reduceToNat, Nat.reduceLT, Nat.reduceAdd, Nat.reduceMul, Nat.reduceSub, q1, q3, q7, q11, q12, hwi]
      exact ⟨trivial, ⟨by simp only [↓eA, eB, reduceIte, Nat.reduceBEq, Int.reduceNeg, Int.reduceLT, Int.reduceLE, Int.reduceAdd, Int.reduceSub, Int.reduceMul, Int.reduceEq, Int.reduceToNat, Nat.reduceLT, Nat.reduceAdd, Nat.reduceMul, Nat.reduceSub, q1], by simp only [↓eA, eB, reduceIte, Nat.reduceBEq, Int.reduceNeg, Int.reduceLT, Int.reduceLE, Int.reduceAdd, Int.reduceSub, Int.reduceMul, Int.reduceEq, Int.reduceToNat, Nat.reduceLT, Nat.reduceAdd, Nat.reduceMul, Nat.reduceSub, q3], by simp only [↓eA, eB, reduceIte, Nat.reduceBEq, Int.reduceNeg, Int.reduceLT, Int.reduceLE, Int.reduceAdd, Int.reduceSub, Int.reduceMul, Int.reduceEq, Int.reduceToNat, Nat.reduceLT, Nat.reduceAdd, Nat.reduceMul, Nat.reduceSub, q7], by simp only [↓eA, eB, reduceIte, Nat.reduceBEq, Int.reduceNeg, Int.reduceLT, Int.reduceLE, Int.reduceAdd, Int.reduceSub, Int.reduceMul, Int.reduceEq, Int.reduceToNat, Nat.reduceLT, Nat.reduceAdd, Nat.reduceMul, Nat.reduceSub, q11], by simp only [↓eA, eB, reduceIte, Nat.reduceBEq, Int.reduceNeg, Int.reduceLT, Int.reduceLE, Int.reduceAdd, Int.reduceSub, Int.reduceMul, Int.reduceEq, Int.reduceToNat, Nat.reduceLT, Nat.reduceAdd, Nat.reduceMul, Nat.reduceSub]⟩, trivial, hcount⟩
    | false =>
      have hc1 : cntF s tk n a = n := by unfold cntF; rw [hp]; rfl
      have hkind' := hp
      rw [hkind] at hkind'
      rw [hc1] at hcount ⊢
      by_cases hlt : n < (lNames s tk).length
      · obtain ⟨c, hg, hcs⟩ : ∃ c, ((lNames s tk).map D.str)[n]? = some (.str c) ∧ seq c a.name = false := by
          have hcg : (lNames s tk)[n]? = some ((lNames s tk)[n]) := List.getElem?_eq_getElem hlt
          refine ⟨(lNames s tk)[n], by rw [List.getElem?_map, hcg]; rfl, ?_⟩
          have h2 : (namesOf (possible s tk) (s.blocks.drop (i + 1)))[0]? = some ((lNames s tk)[n]) := by
            rw [← hcg, lNames, hnm, hn, List.getElem?_append_right (Nat.le_refl _), Nat.sub_self]
            simp [namesOf, hp]
          have hm := List.mem_of_getElem? h2
          unfold namesOf at hm
          obtain ⟨d, hd, he⟩ := List.mem_map.1 hm
          have hdm := (List.mem_filter.1 hd).1
          have hsp : s.blocks = s.blocks.take i ++ a :: s.blocks.drop (i + 1) := by
            have hd : s.blocks.drop i = a :: s.blocks.drop (i + 1) := by
              rw [List.drop_eq_getElem_cons hi, (List.getElem?_eq_some_iff.1 hx).2]
            rw [← hd, List.take_append_drop]
          have hs' := hs
          rw [hsp] at hs'
          have hlt2 := (List.pairwise_cons.1 (List.pairwise_append.1 hs').2.1).1 d hdm
          rw [← he, seq_comm]
          exact slt_ne hlt2
        simp only [↓eA, eB, reduceIte, Nat.reduceBEq, Int.reduceNeg, Int.reduceLT, Int.reduceLE, Int.reduceAdd, Int.reduceSub, Int.reduceMul, Int.reduceEq, Int.reduceToNat, Nat.reduceLT, Nat.reduceAdd, Nat.reduceMul, Nat.reduceSub, l9013, h1, h3, h7, h11, h12, hH, hi, hx', hw, hle, hlt, hg, hkind', hcs, beq_self_eq_true, List.length_map]
        generalize hE : (lim T).loop 9025 _ _ = R
        obtain ⟨X, e', H', rfl, rfl, ⟨q1, q3, q7, q11, q12⟩, rfl⟩ := Ends.at hE (lp_inner s hF hok tk n i a ham _ _ ⟨by simp only [↓eA, eB, reduceIte, Nat.reduceBEq, Int.reduceNeg, Int.reduceLT, Int.reduceLE, Int.reduceAdd, Int.reduceSub, Int.reduceMul, Int.reduceEq, Int.reduceToNat, Nat.reduceLT, Nat.reduceAdd, Nat.reduceMul, Nat.reduceSub], by simp only [↓eA, eB, reduceIte, Nat.reduceBEq, Int.reduceNeg, Int.reduceLT, Int.reduceLE, Int.reduceAdd, Int.reduceSub, Int.reduceMul, Int.reduceEq, Int.reduceToNat, Nat.reduceLT, Nat.reduceAdd, Nat.reduceMul, Nat.reduceSub], by simp only [↓eA, eB, reduceIte, Nat.reduceBEq, Int.reduceNeg, Int.reduceLT, Int.reduceLE, Int.reduceAdd, Int.reduceSub, Int.reduceMul, Int.reduceEq, Int.reduceToNat, Nat.reduceLT, Nat.reduceAdd, Nat.reduceMul, Nat.reduceSub], by simp only [↓eA, eB, reduceIte, Nat.reduceBEq, Int.reduceNeg, Int.reduceLT, Int.reduceLE, Int.reduceAdd, Int.reduceSub, Int.reduceMul, Int.reduceEq, Int.reduceToNat, Nat.reduceLT, Nat.reduceAdd, Nat.reduceMul, Nat.reduceSub], by simp only [↓eA, eB, reduceIte, Nat.reduceBEq, Int.reduceNeg, Int.reduceLT, Int.reduceLE, Int.reduceAdd, Int.reduceSub, Int.reduceMul, Int.reduceEq, Int.reduceToNat, Nat.reduceLT, Nat.reduceAdd, Nat.reduceMul, Nat.reduceSub]⟩ (by simp only [↓eA, eB, reduceIte, Nat.reduceBEq, Int.reduceNeg, Int.reduceLT, Int.reduceLE, Int.reduceAdd, Int.reduceSub, Int.reduceMul, Int.reduceEq, Int.reduceToNat, Nat.reduceLT, Nat.reduceAdd, Nat.reduceMul, Nat.reduceSub]) (by simp only [↓eA, eB, reduceIte, Nat.reduceBEq, Int.reduceNeg, Int.reduceLT, Int.reduceLE, Int.reduceAdd, Int.reduceSub, Int.reduceMul, Int.reduceEq, Int.reduceToNat, Nat.reduceLT, Nat.reduceAdd, Nat.reduceMul, Nat.reduceSub]) (by simp only [↓eA, eB, reduceIte, Nat.reduceBEq, Int.reduceNeg, Int.reduceLT, Int.reduceLE, Int.reduceAdd, Int.reduceSub, Int.reduceMul, Int.reduceEq, Int.reduceToNat, Nat.reduceLT, Nat.reduceAdd, Nat.reduceMul, Nat.reduceSub]) rfl)
        simp only [↓eA, eB, reduceIte, Nat.reduceBEq, Int.reduceNeg, Int.reduceLT, Int.reduceLE, Int.reduceAdd, Int.reduceSub, Int.reduceMul, Int.reduceEq, Int.reduceToNat, Nat.reduceLT, Nat.reduceAdd, Nat.reduceMul, Nat.reduceSub, q1, q3, q7, q11, q12, hwi]
        exact ⟨trivial, ⟨by simp only [↓eA, eB, reduceIte, Nat.reduceBEq, Int.reduceNeg, Int.reduceLT, Int.reduceLE, Int.reduceAdd, Int.reduceSub, Int.reduceMul, Int.reduceEq, Int.reduceToNat, Nat.reduceLT, Nat.reduceAdd, Nat.reduceMul, Nat.reduceSub, q1], by simp only [↓eA, eB, reduceIte, Nat.reduceBEq, Int.reduceNeg, Int.reduceLT, Int.reduceLE, Int.reduceAdd, Int.reduceSub, Int.reduceMul, Int.reduceEq, Int.reduceToNat, Nat.reduceLT, Nat.reduceAdd, Nat.reduceMul, Nat.reduceSub, q3], by simp only [↓eA, eB, reduceIte, Nat.reduceBEq, Int.reduceNeg, Int.reduceLT, Int.reduceLE, Int.reduceAdd, Int.reduceSub, Int.reduceMul, Int.reduceEq, Int.reduceToNat, Nat.reduceLT, Nat.reduceAdd, Nat.reduceMul, Nat.reduceSub, q7], by simp only [↓eA, eB, reduceIte, Nat.reduceBEq, Int.reduceNeg, Int.reduceLT, Int.reduceLE, Int.reduceAdd, Int.reduceSub, Int.reduceMul, Int.reduceEq, Int.reduceToNat, Nat.reduceLT, Nat.reduceAdd, Nat.reduceMul, Nat.reduceSub, q11], by simp only [↓eA, eB, reduceIte, Nat.reduceBEq, Int.reduceNeg, Int.reduceLT, Int.reduceLE, Int.reduceAdd, Int.reduceSub, Int.reduceMul, Int.reduceEq, Int.reduceToNat, Nat.reduceLT, Nat.reduceAdd, Nat.reduceMul, Nat.reduceSub]⟩, trivial, hcount⟩
      · have hnone : ((lNames s tk).map D.str)[n]? = none := by rw [List.getElem?_eq_none_iff, List.length_map]; omega
        simp only [↓eA, eB, reduceIte, Nat.reduceBEq, Int.reduceNeg, Int.reduceLT, Int.reduceLE, Int.reduceAdd, Int.reduceSub, Int.reduceMul, Int.reduceEq, Int.reduceToNat, Nat.reduceLT, Nat.reduceAdd, Nat.reduceMul, Nat.reduceSub, l9013, h1, h3, h7, h11, h12, hH, hi, hx', hw, hle, hlt, hnone, hkind', beq_self_eq_true, List.length_map]
        generalize hE : (lim T).loop 9025 _ _ = R
        obtain ⟨X, e', H', rfl, rfl, ⟨q1, q3, q7, q11, q12⟩, rfl⟩ := Ends.at hE (lp_inner s hF hok tk n i a ham _ _ ⟨by simp only [↓eA, eB, reduceIte, Nat.reduceBEq, Int.reduceNeg, Int.reduceLT, Int.reduceLE, Int.reduceAdd, Int.reduceSub, Int.reduceMul, Int.reduceEq, Int.reduceToNat, Nat.reduceLT, Nat.reduceAdd, Nat.reduceMul, Nat.reduceSub], by simp only [↓eA, eB, reduceIte, Nat.reduceBEq, Int.reduceNeg, Int.reduceLT, Int.reduceLE, Int.reduceAdd, Int.reduceSub, Int.reduceMul, Int.reduceEq, Int.reduceToNat, Nat.reduceLT, Nat.reduceAdd, Nat.reduceMul, Nat.reduceSub], by simp only [↓eA, eB, reduceIte, Nat.reduceBEq, Int.reduceNeg, Int.reduceLT, Int.reduceLE, Int.reduceAdd, Int.reduceSub, Int.reduceMul, Int.reduceEq, Int.reduceToNat, Nat.reduceLT, Nat.reduceAdd, Nat.reduceMul, Nat.reduceSub], by simp only [↓eA, eB, reduceIte, Nat.reduceBEq, Int.reduceNeg, Int.reduceLT, Int.reduceLE, Int.reduceAdd, Int.reduceSub, Int.reduceMul, Int.reduceEq, Int.reduceToNat, Nat.reduceLT, Nat.reduceAdd, Nat.reduceMul, Nat.reduceSub], by simp only [↓eA, eB, reduceIte, Nat.reduceBEq, Int.reduceNeg, Int.reduceLT, Int.reduceLE, Int.reduceAdd, Int.reduceSub, Int.reduceMul, Int.reduceEq, Int.reduceToNat, Nat.reduceLT, Nat.reduceAdd, Nat.reduceMul, Nat.reduceSub]⟩ (by simp only [↓eA, eB, reduceIte, Nat.reduceBEq, Int.reduceNeg, Int.reduceLT, Int.reduceLE, Int.reduceAdd, Int.reduceSub, Int.reduceMul, Int.reduceEq, Int.reduceToNat, Nat.reduceLT, Nat.reduceAdd, Nat.reduceMul, Nat.reduceSub]) (by simp only [↓eA, eB, reduceIte, Nat.reduceBEq, Int.reduceNeg, Int.reduceLT, Int.reduceLE, Int.reduceAdd, Int.reduceSub, Int.reduceMul, Int.reduceEq, Int.reduceToNat, Nat.reduceLT, Nat.reduceAdd, Nat.reduceMul, Nat.reduceSub]) (by simp only [↓eA, eB, reduceIte, Nat.reduceBEq, Int.reduceNeg, Int.reduceLT, Int.reduceLE, Int.reduceAdd, Int.reduceSub, Int.reduceMul, Int.reduceEq, Int.reduceToNat, Nat.reduceLT, Nat.reduceAdd, Nat.reduceMul, Nat.reduceSub]) rfl)
        simp only [↓eA, eB, reduceIte, Nat.reduceBEq, Int.reduceNeg, Int.reduceLT, Int.reduceLE, Int.reduceAdd, Int.reduceSub, Int.reduceMul, Int.reduceEq, Int.reduceToNat, Nat.reduceLT, Nat.reduceAdd, Nat.reduceMul, Nat.reduceSub, q1, q3, q7, q11, q12, hwi]
        exact ⟨trivial, ⟨by simp only [↓eA, eB, reduceIte, Nat.reduceBEq, Int.reduceNeg, Int.reduceLT, Int.reduceLE, Int.reduceAdd, Int.reduceSub, Int.reduceMul, Int.reduceEq, Int.reduceToNat, Nat.reduceLT, Nat.reduceAdd, Nat.reduceMul, Nat.reduceSub, q1], by simp only [↓eA, eB, reduceIte, Nat.reduceBEq, Int.reduceNeg, Int.reduceLT, Int.reduceLE, Int.reduceAdd, Int.reduceSub, Int.reduceMul, Int.reduceEq, Int.reduceToNat, Nat.reduceLT, Nat.reduceAdd, Nat.reduceMul, Nat.reduceSub, q3], by simp only [↓eA, eB, reduceIte, Nat.reduceBEq, Int.reduceNeg, Int.reduceLT, Int.reduceLE, Int.reduceAdd, Int.reduceSub, Int.reduceMul, Int.reduceEq, Int.reduceToNat, Nat.reduceLT, Nat.reduceAdd, Nat.reduceMul, Nat.reduceSub, q7], by simp only [↓eA, eB, reduceIte, Nat.reduceBEq, Int.reduceNeg, Int.reduceLT, Int.reduceLE, Int.reduceAdd, Int.reduceSub, Int.reduceMul, Int.reduceEq, Int.reduceToNat, Nat.reduceLT, Nat.reduceAdd, Nat.reduceMul, Nat.reduceSub, q11], by simp only [↓eA, eB, reduceIte, Nat.reduceBEq, Int.reduceNeg, Int.reduceLT, Int.reduceLE, Int.reduceAdd, Int.reduceSub, Int.reduceMul, Int.reduceEq, Int.reduceToNat, Nat.reduceLT, Nat.reduceAdd, Nat.reduceMul, Nat.reduceSub]⟩, trivial, hcount⟩
  · rintro n e H ⟨⟨h1, h3, h7, h11, h12⟩, hH, hn⟩
    simp only [↓eA, eB, reduceIte, Nat.reduceBEq, Int.reduceNeg, Int.reduceLT, Int.reduceLE, Int.reduceAdd, Int.reduceSub, Int.reduceMul, Int.reduceEq, Int.reduceToNat, Nat.reduceLT, Nat.reduceAdd, Nat.reduceMul, Nat.reduceSub, l9013, h1, h3, h7, h11, h12, hH, List.length_map, Nat.lt_irrefl]
    and_intros <;> first | trivial | rfl
  · have key : ∀ (l : List Block) (n : Nat), l.foldl (cntF s tk) n = n + (namesOf (possible s tk) l).length := by
      intro l
      induction l with
      | nil => intro n; rfl
      | cons b r ih =>
        intro n
        rw [List.foldl_cons, ih]
        unfold cntF
        cases hp : possible s tk b <;> simp [namesOf, hp]
        omega
    rw [key, Nat.zero_add] at h
    exact h
end Tz.C18
