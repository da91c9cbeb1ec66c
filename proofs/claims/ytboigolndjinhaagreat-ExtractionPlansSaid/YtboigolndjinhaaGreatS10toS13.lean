/- Neighbours struck; Disorder; survey.Check; Lists of intervals; no conditions. -/
import Derived.Test.YtboigolndjinhaaGreatS6toS9
import Derived.Test.YtboigolndjinhaaGreatGsF
set_option linter.all false
set_option maxRecDepth 100000
open Gs Go
namespace Tz
theorem getm {zs:List ByteArray}{i:Nat}{x:ByteArray}(h:zs[i]?=some x):(zs.map D.str)[i]?=some (D.str x):=by simp [h]
theorem lp_ci_s (xs:List ByteArray)(hb:xs.length < 4000000000)(nz dy:Bool)(K0:Nat)(hK:0 < K0)(hKn:K0 < xs.length)(hdd:dd seq (xs.take (K0 + 1))=xs.take K0)(e:Env)(H:Heap)(h0:Gs.get e 0 = .ow 500000)(h3:Gs.get e 3=int K0)(h4:Gs.get e 4 = .win 500000 K0 (xs.length - K0))(h5:Gs.get e 5=int 1)(hH:hget H 500000=some (.row nz 1 (xs.map D.str) 0 dy))(hH1:hget H 500001=none) :
   Ends T 190009 e H (fun X e' H'=>X = .ex 2∧∃ (k:Nat) (zs:List ByteArray),Gs.get e' 0 = .ow 500000∧Gs.get e' 3=int k∧zs.length=xs.length∧k≤xs.length∧zs.take k=dd seq xs∧H'=[(500000,.row nz 1 (zs.map D.str) 0 dy)]):=by
 refine (loop_upto (T:=T) (key:=190009) (li:=l190009.1) rfl (S:=Unit) (R:=Empty) (fun _ _=>.inr ()) (xs.length - K0) (fun i _ e H=>1≤i∧i≤xs.length - K0∧∃ (k:Nat) (zs:List ByteArray),Gs.get e 0 = .ow 500000∧Gs.get e 3=int k∧Gs.get e 4 = .win 500000 K0 (xs.length - K0)∧Gs.get e 5=int i∧hget H 500000=some (.row nz 1 (zs.map D.str) 0 dy)∧hget H 500001=none∧zs.length=xs.length∧k + 1≤K0 + i∧zs.take k=dd seq (xs.take (K0 + i))∧∀ j,K0 + i≤j + 1→zs[j]?=xs[j]?) (fun _ _ _ _=>False) (fun _ X e' H'=>X = .ex 2∧∃ (k:Nat) (zs:List ByteArray),Gs.get e' 0 = .ow 500000∧Gs.get e' 3=int k∧zs.length=xs.length∧k≤xs.length∧zs.take k=dd seq xs∧H'=[(500000,.row nz 1 (zs.map D.str) 0 dy)]) ?_ ?_ ?_ (xs.length - K0 - 1) 1 () e H rfl ⟨Nat.le_refl _,by omega,K0,xs,h0,h3,h4,h5,hH,hH1,rfl,by omega,by rw [hdd],fun j _=>rfl⟩).mono ?_
 · rintro i s s' e H hi ⟨hi1,hi2,k,zs,h0,h3,h4,h5,hH,hH1,hz,hk,ht,hj⟩ hf
   obtain ⟨y,hy⟩:∃ y,xs[K0 + i]?=some y:=⟨_,List.getElem?_eq_getElem (by omega)⟩
   obtain ⟨p,hp⟩:∃ p,xs[K0 + i - 1]?=some p:=⟨_,List.getElem?_eq_getElem (by omega)⟩
   have hzy:zs[K0 + i]?=some y:=by rw [hj _ (by omega)]; exact hy
   have hzp:zs[K0 + (i - 1)]?=some p:=by rw [hj _ (by omega),show K0 + (i - 1)=K0 + i - 1 by omega]; exact hp
   have hsucc:dd seq (xs.take (K0 + (i + 1)))=dd seq (xs.take (K0 + i)) ++ (bif seq y p then [] else [y]):=by
     obtain ⟨m,hm⟩:∃ m,K0 + i=m + 1:=⟨K0 + i - 1,by omega⟩
     rw [show K0 + (i + 1)=m + 2 by omega,hm]
     exact dd_take_succ seq (by rw [←hm]; exact hy) (by rw [show m=K0 + i - 1 by omega]; exact hp)
   have hil:i - 1 < xs.length - K0:=by omega
   obtain ⟨z,hzk⟩:∃ z,zs[k]?=some z:=⟨_,List.getElem?_eq_getElem (by omega)⟩
   have hkl:k < zs.length:=by omega
   cases hc:seq y p with
   | true=>
     simp only [↓eA,eB,reduceIte,Nat.reduceBEq,Int.reduceNeg,Int.reduceLT,Int.reduceLE,Int.reduceAdd,Int.reduceSub,Int.reduceMul,Int.reduceEq,Int.reduceToNat,Nat.reduceLT,Nat.reduceAdd,Nat.reduceMul,Nat.reduceSub,l190009,h0,h3,h4,h5,hH,hH1,hi,hil,getm hzy,getm hzp,wrap_pred (show 0 < i by omega) (show i < 4611686018427387904 by omega),hc,wrap_succ (show i < 4611686018427387904 by omega)]
     have hb1:zs.take k=dd seq (xs.take (K0 + (i + 1))):=by rw [hsucc,hc,ht]; simp
     refine ⟨trivial,by omega,by omega,k,zs,?_⟩
     and_intros<;>first | trivial | rfl | assumption | omega | exact fun j hj'=>hj j (by omega)
   | false=>
     simp only [↓eA,eB,reduceIte,Nat.reduceBEq,Int.reduceNeg,Int.reduceLT,Int.reduceLE,Int.reduceAdd,Int.reduceSub,Int.reduceMul,Int.reduceEq,Int.reduceToNat,Nat.reduceLT,Nat.reduceAdd,Nat.reduceMul,Nat.reduceSub,l190009,h0,h3,h4,h5,hH,hH1,hi,hil,getm hzy,getm hzp,getm hzk,hkl,wrap_pred (show 0 < i by omega) (show i < 4611686018427387904 by omega),hc,wrap_succ (show i < 4611686018427387904 by omega),wrap_succ (show k < 4611686018427387904 by omega),Nat.zero_le,beq_self_eq_true]
     have hb1:(zs.set k y).take (k + 1)=dd seq (xs.take (K0 + (i + 1))):=by
       rw [hsucc,hc,←ht]
       simp only [cond_false]
       rw [List.take_add_one,List.getElem?_set_self hkl,List.take_set_of_le (Nat.le_refl k)]
       rfl
     have hb2:(zs.set k y).length=xs.length:=by simpa using hz
     have hb3:∀ j,K0 + (i + 1)≤j + 1→(zs.set k y)[j]?=xs[j]?:=by
       intro j hj'; rw [List.getElem?_set_ne (by omega)]; exact hj j (by omega)
     refine ⟨trivial,by omega,by omega,k + 1,zs.set k y,?_⟩
     and_intros<;>first | trivial | rfl | assumption | omega | (simp [List.map_set]; done)
 · rintro i s r e H hi _ hf; cases hf
 · rintro i s e H hi ⟨hi1,hi2,k,zs,h0,h3,h4,h5,hH,hH1,hz,hk,ht,hj⟩
   have hie:i=xs.length - K0:=by omega
   subst hie
   simp only [↓eA,eB,reduceIte,Nat.reduceBEq,Int.reduceNeg,Int.reduceLT,Int.reduceLE,Int.reduceAdd,Int.reduceSub,Int.reduceMul,Int.reduceEq,Int.reduceToNat,Nat.reduceLT,Nat.reduceAdd,Nat.reduceMul,Nat.reduceSub,l190009,h0,h3,h4,h5,hH,hH1,Nat.lt_irrefl]
   have hb1:zs.take k=dd seq xs:=by rw [ht,List.take_of_length_le (by omega)]
   refine ⟨trivial,trivial,k,zs,?_⟩
   and_intros<;>first | trivial | rfl | assumption | omega
 · intro X e' H' h
   have:∀ (n i:Nat),upto (S:=Unit) (R:=Empty) (fun _ _=>.inr ()) n i () = .inr ():=by
     intro n
     induction n with
     | zero=>intro i; rfl
     | succ n ih=>intro i; simp only [upto]; exact ih (i + 1)
   rw [this] at h; exact h
abbrev adj_xs (xs:List ByteArray)(i:Nat):Bool:=match xs[i]?,xs[i - 1]? with | some y,some p=>seq y p | _,_=>false
theorem dd_stop (xs:List ByteArray)(k:Nat)(hk:k≤xs.length)(h:∀ i,1≤i→i < k→adj_xs xs i=false):dd seq (xs.take k)=xs.take k:=by
 induction k with
 | zero=>rfl
 | succ k ih=>
   cases k with
   | zero=>cases xs with
     | nil=>rfl
     | cons x r=>simp [dd,ddF]
   | succ k=>
     obtain ⟨y,hy⟩:∃ y,xs[k + 1]?=some y:=⟨_,List.getElem?_eq_getElem (by omega)⟩
     obtain ⟨p,hp⟩:∃ p,xs[k]?=some p:=⟨_,List.getElem?_eq_getElem (by omega)⟩
     have h1:=h (k + 1) (by omega) (by omega)
     have hkk:xs[k + 1 - 1]?=some p:=hp
     simp only [adj_xs,hy,hkk] at h1
     rw [dd_take_succ seq hy hp,h1,ih (by omega) fun i h1 h2=>h i h1 (by omega)]
     rw [List.take_add_one (i:=k + 1),hy]; rfl
theorem lp_co_s (xs:List ByteArray)(hb:xs.length < 4000000000)(nz dy:Bool)(h2:1 < xs.length)(e:Env)(H:Heap)(h0:Gs.get e 0 = .ow 500000)(h3:Gs.get e 3=int (1:Nat))(hH:hget H 500000=some (.row nz 1 (xs.map D.str) 0 dy))(hH1:hget H 500001=none) :
   Ends T 190004 e H (fun X e' H'=>(X = .ex 0∧Gs.get e' 0 = .ow 500000∧dd seq xs=xs∧H'=[(500000,.row nz 1 (xs.map D.str) 0 dy)])∨(X = .ret∧∃ (k:Nat) (zq:List ByteArray),k=(dd seq xs).length∧k≤xs.length∧zq.length=xs.length∧zq.take k=dd seq xs∧Gs.get e' 2 = .win 500000 0 k∧H'=[(500000,.row nz 1 (zq.map D.str) 0 dy)])):=by
 refine (loop_upto (T:=T) (key:=190004) (li:=l190004.1) rfl (S:=Unit) (R:=Unit) (fun _ k=>bif adj_xs xs k then .inl () else .inr ()) (xs.length) (fun i _ e H=>1≤i∧i≤xs.length∧Gs.get e 0 = .ow 500000∧Gs.get e 3=int i∧hget H 500000=some (.row nz 1 (xs.map D.str) 0 dy)∧hget H 500001=none∧dd seq (xs.take i)=xs.take i) (fun _ X e' H'=>X = .ret∧∃ (k:Nat) (zq:List ByteArray),k=(dd seq xs).length∧k≤xs.length∧zq.length=xs.length∧zq.take k=dd seq xs∧Gs.get e' 2 = .win 500000 0 k∧H'=[(500000,.row nz 1 (zq.map D.str) 0 dy)]) (fun _ X e' H'=>X = .ex 0∧Gs.get e' 0 = .ow 500000∧dd seq xs=xs∧H'=[(500000,.row nz 1 (xs.map D.str) 0 dy)]) ?_ ?_ ?_ (xs.length - 1) 1 () e H (by omega) ⟨Nat.le_refl _,by omega,h0,h3,hH,hH1,dd_stop xs 1 (by omega) (fun i h1 h2=>by omega)⟩).mono ?_
 · rintro i s s' e H hi ⟨hi1,hi2,h0,h3,hH,hH1,hd⟩ hf
   obtain ⟨y,hy⟩:∃ y,xs[i]?=some y:=⟨_,List.getElem?_eq_getElem (by omega)⟩
   obtain ⟨p,hp⟩:∃ p,xs[i - 1]?=some p:=⟨_,List.getElem?_eq_getElem (by omega)⟩
   simp only [adj_xs,hy,hp] at hf
   cases hc:seq y p with
   | true=>rw [hc] at hf; simp only [cond_true] at hf; cases hf
   | false=>
     have hil:i - 1 < xs.length:=by omega
     simp only [↓eA,eB,reduceIte,Nat.reduceBEq,Int.reduceNeg,Int.reduceLT,Int.reduceLE,Int.reduceAdd,Int.reduceSub,Int.reduceMul,Int.reduceEq,Int.reduceToNat,Nat.reduceLT,Nat.reduceAdd,Nat.reduceMul,Nat.reduceSub,l190004,h0,h3,hH,hH1,hi,hil,getm hy,getm hp,wrap_pred (show 0 < i by omega) (show i < 4611686018427387904 by omega),hc,wrap_succ (show i < 4611686018427387904 by omega)]
     have hb1:dd seq (xs.take (i + 1))=xs.take (i + 1):=by
       obtain ⟨m,hm⟩:∃ m,i=m + 1:=⟨i - 1,by omega⟩
       subst hm
       rw [dd_take_succ seq hy hp,hc,hd,List.take_add_one (i:=m + 1),hy]; rfl
     and_intros<;>first | trivial | rfl | assumption | omega
 · rintro i s r e H hi ⟨hi1,hi2,h0,h3,hH,hH1,hd⟩ hf
   obtain ⟨y,hy⟩:∃ y,xs[i]?=some y:=⟨_,List.getElem?_eq_getElem (by omega)⟩
   obtain ⟨p,hp⟩:∃ p,xs[i - 1]?=some p:=⟨_,List.getElem?_eq_getElem (by omega)⟩
   simp only [adj_xs,hy,hp] at hf
   cases hc:seq y p with
   | false=>rw [hc] at hf; simp only [cond_false] at hf; cases hf
   | true=>
     have hb1:dd seq (xs.take (i + 1))=xs.take i:=by
       obtain ⟨m,hm⟩:∃ m,i=m + 1:=⟨i - 1,by omega⟩
       subst hm
       rw [dd_take_succ seq hy hp,hc,hd]; simp
     have hii:i≤xs.length:=by omega
     have hil:i - 1 < xs.length:=by omega
     simp only [↓eA,eB,reduceIte,Nat.reduceBEq,Int.reduceNeg,Int.reduceLT,Int.reduceLE,Int.reduceAdd,Int.reduceSub,Int.reduceMul,Int.reduceEq,Int.reduceToNat,Nat.reduceLT,Nat.reduceAdd,Nat.reduceMul,Nat.reduceSub,l190004,h0,h3,hH,hH1,hi,hii,hil,getm hy,getm hp,wrap_pred (show 0 < i by omega) (show i < 4611686018427387904 by omega),hc,wrap_succ (show i < 4611686018427387904 by omega),Nat.le_refl]
     generalize hE:(lim T).loop 190009 _ _=R
     obtain ⟨X,e',H',rfl,rfl,k,zs,g0,g3,hz,hk,hzt,rfl⟩:=Ends.at hE (lp_ci_s xs hb nz dy i (by omega) hi hb1 _ _ (by simp only [↓eA,eB,reduceIte,Nat.reduceBEq,Int.reduceNeg,Int.reduceLT,Int.reduceLE,Int.reduceAdd,Int.reduceSub,Int.reduceMul,Int.reduceEq,Int.reduceToNat,Nat.reduceLT,Nat.reduceAdd,Nat.reduceMul,Nat.reduceSub,h0]) (by simp only [↓eA,eB,reduceIte,Nat.reduceBEq,Int.reduceNeg,Int.reduceLT,Int.reduceLE,Int.reduceAdd,Int.reduceSub,Int.reduceMul,Int.reduceEq,Int.reduceToNat,Nat.reduceLT,Nat.reduceAdd,Nat.reduceMul,Nat.reduceSub,h3]) (by simp only [↓eA,eB,reduceIte,Nat.reduceBEq,Int.reduceNeg,Int.reduceLT,Int.reduceLE,Int.reduceAdd,Int.reduceSub,Int.reduceMul,Int.reduceEq,Int.reduceToNat,Nat.reduceLT,Nat.reduceAdd,Nat.reduceMul,Nat.reduceSub,hii]) (by simp only [↓eA,eB,reduceIte,Nat.reduceBEq,Int.reduceNeg,Int.reduceLT,Int.reduceLE,Int.reduceAdd,Int.reduceSub,Int.reduceMul,Int.reduceEq,Int.reduceToNat,Nat.reduceLT,Nat.reduceAdd,Nat.reduceMul,Nat.reduceSub]) (by simp only [↓eA,eB,reduceIte,Nat.reduceBEq,Int.reduceNeg,Int.reduceLT,Int.reduceLE,Int.reduceAdd,Int.reduceSub,Int.reduceMul,Int.reduceEq,Int.reduceToNat,Nat.reduceLT,Nat.reduceAdd,Nat.reduceMul,Nat.reduceSub]) (by simp only [↓eA,eB,reduceIte,Nat.reduceBEq,Int.reduceNeg,Int.reduceLT,Int.reduceLE,Int.reduceAdd,Int.reduceSub,Int.reduceMul,Int.reduceEq,Int.reduceToNat,Nat.reduceLT,Nat.reduceAdd,Nat.reduceMul,Nat.reduceSub,hH1]))
     have hkl:k≤zs.length:=by omega
     have hkk:k + (zs.length - k)≤zs.length:=by omega
     obtain ⟨zq,hq1,hq2,hq3⟩:∃ zq:List ByteArray,zq.length=zs.length∧zq.take k=dd seq xs∧List.take k (List.map D.str zs) ++ List.replicate (zs.length - k) (D.str .empty) ++ List.drop (k + (zs.length - k)) (List.map D.str zs)=zq.map D.str:=by
       refine ⟨zs.take k ++ List.replicate (zs.length - k) .empty,by simp; omega,?_,?_⟩
       · rw [←hzt,List.take_append_of_le_length (by simp; omega),List.take_take,Nat.min_self]
       · rw [show k + (zs.length - k)=zs.length by omega]; simp [List.map_take]
     have hkq:k≤zq.length:=by omega
     have hinc:inc 0 k=true:=by simp [inc]
     simp only [↓eA,eB,reduceIte,Nat.reduceBEq,Int.reduceNeg,Int.reduceLT,Int.reduceLE,Int.reduceAdd,Int.reduceSub,Int.reduceMul,Int.reduceEq,Int.reduceToNat,Nat.reduceLT,Nat.reduceAdd,Nat.reduceMul,Nat.reduceSub,g0,g3,hkl,hkk,hq3,hkq,hinc,Nat.le_refl,Nat.zero_le,Nat.sub_zero,Nat.zero_add]
     refine ⟨trivial,trivial,k,zq,by rw [←hq2,List.length_take]; omega,by omega,by omega,hq2,?_⟩
     and_intros<;>first | trivial | rfl | assumption | omega
 · rintro i s e H hi ⟨hi1,hi2,h0,h3,hH,hH1,hd⟩
   have hie:i=xs.length:=by omega
   subst hie
   rw [List.take_length] at hd
   simp only [↓eA,eB,reduceIte,Nat.reduceBEq,Int.reduceNeg,Int.reduceLT,Int.reduceLE,Int.reduceAdd,Int.reduceSub,Int.reduceMul,Int.reduceEq,Int.reduceToNat,Nat.reduceLT,Nat.reduceAdd,Nat.reduceMul,Nat.reduceSub,l190004,h0,h3,hH,hH1,Nat.lt_irrefl]
   and_intros<;>first | trivial | rfl | assumption | omega
 · intro X e' H' h
   split at h
   · exact .inr h
   · exact .inl h
theorem lt2_b {n:Nat}(h:¬n < 2):decide ((n:Int) < 2)=false:=by simp; omega
theorem lt2_a {n:Nat}(h:n < 2):decide ((n:Int) < 2)=true:=by simp; omega
theorem e_compact_s (xs:List ByteArray)(hb:xs.length < 4000000000)(nz dy:Bool) :
   (dd seq xs=xs∧L.call 190 [.ow 500000] [(500000,.row nz 1 (xs.map D.str) 0 dy)]=some (.ow 500000,[(500000,.row nz 1 (xs.map D.str) 0 dy)]))∨
   ∃ zq:List ByteArray,zq.length=xs.length∧zq.take (dd seq xs).length=dd seq xs∧(dd seq xs).length≤xs.length∧L.call 190 [.ow 500000] [(500000,.row nz 1 (xs.map D.str) 0 dy)]=some (.win 500000 0 (dd seq xs).length,[(500000,.row nz 1 (zq.map D.str) 0 dy)]):=by
 by_cases hl:xs.length < 2
 · refine .inl ⟨?_,call_eq rfl rfl ?_⟩
   · match xs,hl with
     | [],_=>rfl
     | [x],_=>rfl
   · simp only [↓eA,eB,reduceIte,Nat.reduceBEq,Int.reduceNeg,Int.reduceLT,Int.reduceLE,Int.reduceAdd,Int.reduceSub,Int.reduceMul,Int.reduceEq,Int.reduceToNat,Nat.reduceLT,Nat.reduceAdd,Nat.reduceMul,Nat.reduceSub,c190,lt2_a hl]
 · generalize hE:(lim T).loop 190004 [(0,D.ow 500000),(2,D.fz true 1 []),(6,D.ow 500000),(7,D.int IntKind.i64 xs.length),(8,D.bool false),(3,D.int IntKind.i64 1)] [(500000,.row nz 1 (xs.map D.str) 0 dy)]=R
   obtain ⟨X,e',H',rfl,h⟩:=Ends.at hE (lp_co_s xs hb nz dy (by omega) _ _ rfl rfl rfl rfl)
   rcases h with ⟨rfl,g0,hd,rfl⟩ | ⟨rfl,k,zq,rfl,hk,hq1,hq2,g2,rfl⟩
   · refine .inl ⟨hd,call_eq rfl rfl ?_⟩
     simp only [↓eA,eB,reduceIte,Nat.reduceBEq,Int.reduceNeg,Int.reduceLT,Int.reduceLE,Int.reduceAdd,Int.reduceSub,Int.reduceMul,Int.reduceEq,Int.reduceToNat,Nat.reduceLT,Nat.reduceAdd,Nat.reduceMul,Nat.reduceSub,c190,lt2_b hl,hE,g0]
   · refine .inr ⟨zq,hq1,hq2,hk,call_eq rfl rfl ?_⟩
     simp only [↓eA,eB,reduceIte,Nat.reduceBEq,Int.reduceNeg,Int.reduceLT,Int.reduceLE,Int.reduceAdd,Int.reduceSub,Int.reduceMul,Int.reduceEq,Int.reduceToNat,Nat.reduceLT,Nat.reduceAdd,Nat.reduceMul,Nat.reduceSub,c190,lt2_b hl,hE,g2]
end Tz
set_option maxRecDepth 100000
open Gs Go
namespace Tz
def badIx {α:Type}(l:List α)(ge:α→α→Bool)(i:Nat):Bool:=match l[i - 1]?,l[i]? with
  | some a,some b=>ge a b
  | _,_=>false
def steps {α:Type}(l:List α)(ge:α→α→Bool):Bool:=(List.range' 1 (l.length - 1)).any (badIx l ge)
abbrev geBed (a b:Bed):Bool:=decide (b.z≤a.z)
abbrev geJoint (a b:Joint):Bool:=!slt a.name b.name
abbrev geFlaw (a b:Flaw):Bool:=!slt a.name b.name
abbrev Hs (s:Survey):Heap:=[(1,.box s.cells false)]
theorem lp_d1 (s:Survey)(hF:s.Fit)(e:Env)(h1:Gs.get e 1 = .ptr 1 0)(hi:Gs.get e 3=int (1:Nat)) :
   Ends T 128002 e (Hs s) (fun X e' H'=>H'=Hs s∧match steps s.beds geBed with | true=>X = .ret∧Gs.get e' 2 = .bool true | false=>X = .ex 0∧Gs.get e' 1 = .ptr 1 0):=by
 have hb:=hF.bl
 refine loop_fr (T:=T) (key:=128002) (li:=l128002.1) rfl 1 s.beds.length (badIx s.beds geBed) (Hs s) (fun k e=>Gs.get e 1 = .ptr 1 0∧Gs.get e 3=int k) (fun X e'=>X = .ret∧Gs.get e' 2 = .bool true) (fun X e'=>X = .ex 0∧Gs.get e' 1 = .ptr 1 0) ?_ ?_ e ⟨h1,hi⟩
 · rintro k e hk hlt ⟨h1,h3⟩
   obtain ⟨y,hy⟩:∃ y,s.beds[k]?=some y:=⟨_,List.getElem?_eq_getElem (by omega)⟩
   obtain ⟨p,hp⟩:∃ p,s.beds[k - 1]?=some p:=⟨_,List.getElem?_eq_getElem (by omega)⟩
   have hil:k - 1 < s.beds.length:=by omega
   have hy':(s.beds.map Bed.enc)[k]?=some y.enc:=by simp [hy]
   have hp':(s.beds.map Bed.enc)[k - 1]?=some p.enc:=by simp [hp]
   have hbd:badIx s.beds geBed k=geBed p y:=by simp only [badIx,hy,hp]
   rw [hbd]
   simp only [↓eA,eB,seval,l128002,h1,h3,hlt,hil,hy',hp',wrap_pred (show 0 < k by omega) (show k < 4611686018427387904 by omega),wrap_succ (show k < 4611686018427387904 by omega)]
   cases hc:geBed p y<;>(try simp only [Bool.not_eq_true',Bool.not_eq_false'] at hc)<;>simp only [↓eA,eB,seval,hc]<;>and_intros<;>first | trivial | rfl
 · rintro k e hk _ ⟨h1,h3⟩
   have hlt:¬ k < s.beds.length:=by omega
   simp only [↓eA,eB,seval,l128002,h1,h3,hlt]
   and_intros<;>first | trivial | rfl
theorem lp_d2 (s:Survey)(hF:s.Fit)(e:Env)(h1:Gs.get e 1 = .ptr 1 0)(hi:Gs.get e 4=int (1:Nat)) :
   Ends T 128007 e (Hs s) (fun X e' H'=>H'=Hs s∧match steps s.joints geJoint with | true=>X = .ret∧Gs.get e' 2 = .bool true | false=>X = .ex 2∧Gs.get e' 1 = .ptr 1 0):=by
 have hb:=hF.jl
 refine loop_fr (T:=T) (key:=128007) (li:=l128007.1) rfl 1 s.joints.length (badIx s.joints geJoint) (Hs s) (fun k e=>Gs.get e 1 = .ptr 1 0∧Gs.get e 4=int k) (fun X e'=>X = .ret∧Gs.get e' 2 = .bool true) (fun X e'=>X = .ex 2∧Gs.get e' 1 = .ptr 1 0) ?_ ?_ e ⟨h1,hi⟩
 · rintro k e hk hlt ⟨h1,h3⟩
   obtain ⟨y,hy⟩:∃ y,s.joints[k]?=some y:=⟨_,List.getElem?_eq_getElem (by omega)⟩
   obtain ⟨p,hp⟩:∃ p,s.joints[k - 1]?=some p:=⟨_,List.getElem?_eq_getElem (by omega)⟩
   have hil:k - 1 < s.joints.length:=by omega
   have hy':(s.joints.map Joint.enc)[k]?=some y.enc:=by simp [hy]
   have hp':(s.joints.map Joint.enc)[k - 1]?=some p.enc:=by simp [hp]
   have hbd:badIx s.joints geJoint k=geJoint p y:=by simp only [badIx,hy,hp]
   rw [hbd]
   simp only [↓eA,eB,seval,l128007,h1,h3,hlt,hil,hy',hp',wrap_pred (show 0 < k by omega) (show k < 4611686018427387904 by omega),wrap_succ (show k < 4611686018427387904 by omega)]
   cases hc:geJoint p y<;>(try simp only [Bool.not_eq_true',Bool.not_eq_false'] at hc)<;>simp only [↓eA,eB,seval,hc]<;>and_intros<;>first | trivial | rfl
 · rintro k e hk _ ⟨h1,h3⟩
   have hlt:¬ k < s.joints.length:=by omega
   simp only [↓eA,eB,seval,l128007,h1,h3,hlt]
   and_intros<;>first | trivial | rfl
theorem lp_d3 (s:Survey)(hF:s.Fit)(e:Env)(h1:Gs.get e 1 = .ptr 1 0)(hi:Gs.get e 5=int (1:Nat)) :
   Ends T 128012 e (Hs s) (fun X e' H'=>H'=Hs s∧match steps s.flaws geFlaw with | true=>X = .ret∧Gs.get e' 2 = .bool true | false=>X = .ex 4∧Gs.get e' 1 = .ptr 1 0):=by
 have hb:=hF.fl
 refine loop_fr (T:=T) (key:=128012) (li:=l128012.1) rfl 1 s.flaws.length (badIx s.flaws geFlaw) (Hs s) (fun k e=>Gs.get e 1 = .ptr 1 0∧Gs.get e 5=int k) (fun X e'=>X = .ret∧Gs.get e' 2 = .bool true) (fun X e'=>X = .ex 4∧Gs.get e' 1 = .ptr 1 0) ?_ ?_ e ⟨h1,hi⟩
 · rintro k e hk hlt ⟨h1,h3⟩
   obtain ⟨y,hy⟩:∃ y,s.flaws[k]?=some y:=⟨_,List.getElem?_eq_getElem (by omega)⟩
   obtain ⟨p,hp⟩:∃ p,s.flaws[k - 1]?=some p:=⟨_,List.getElem?_eq_getElem (by omega)⟩
   have hil:k - 1 < s.flaws.length:=by omega
   have hy':(s.flaws.map Flaw.enc)[k]?=some y.enc:=by simp [hy]
   have hp':(s.flaws.map Flaw.enc)[k - 1]?=some p.enc:=by simp [hp]
   have hbd:badIx s.flaws geFlaw k=geFlaw p y:=by simp only [badIx,hy,hp]
   rw [hbd]
   simp only [↓eA,eB,seval,l128012,h1,h3,hlt,hil,hy',hp',wrap_pred (show 0 < k by omega) (show k < 4611686018427387904 by omega),wrap_succ (show k < 4611686018427387904 by omega)]
   cases hc:geFlaw p y<;>(try simp only [Bool.not_eq_true',Bool.not_eq_false'] at hc)<;>simp only [↓eA,eB,seval,hc]<;>and_intros<;>first | trivial | rfl
 · rintro k e hk _ ⟨h1,h3⟩
   have hlt:¬ k < s.flaws.length:=by omega
   simp only [↓eA,eB,seval,l128012,h1,h3,hlt]
   and_intros<;>first | trivial | rfl
def disordered (s:Survey):Bool:=steps s.beds geBed || (steps s.joints geJoint || (steps s.flaws geFlaw || decide ((dd seq (sortB s.names)).length≠s.names.length)))
theorem strs_map:∀ l:List ByteArray,strs (l.map .str)=some l
 | []=>rfl
 | x :: r=>by simp [strs,strs_map r]
theorem e_sort (nz:Bool)(l:List ByteArray)(hb:l.length < 4611686018427387904):L.call 106 [.ow 500000] [(500000,.row nz 1 (l.map .str) 0 false)]=some (.tup [],[(500000,.row nz 1 ((sortB l).map .str) 0 false)]):=
 ext_eq (s:=sortStrX) rfl (by simp [sortStrX,hget,strs_map,hset,hb])
theorem Survey.names_length (s:Survey):s.names.length=s.beds.length + s.joints.length + s.flaws.length:=by
 simp [Survey.names]; omega
theorem e_disordered (s:Survey)(hF:s.Fit):L.call 128 [s.enc] []=some (.bool (disordered s),[]):=
 call_eq rfl rfl (by
   have hb:=hF.bl; have hj:=hF.jl; have hf:=hF.fl
   have hnl:=s.names_length
   have hsl:(sortB s.names).length=s.names.length:=(sortB_perm _).length_eq
   simp only [↓eA,eB,seval,c128]
   generalize hE:(lim T).loop 128002 _ _=R
   obtain ⟨X,e',H',rfl,rfl,h⟩:=Ends.at hE (lp_d1 s hF _ rfl rfl)
   unfold disordered
   cases h1:steps s.beds geBed with
   | true=>rw [h1] at h; obtain ⟨rfl,g2⟩:=h; simp only [↓eA,eB,seval,g2]
   | false=>
   rw [h1] at h; obtain ⟨rfl,g1⟩:=h
   simp only [↓eA,eB,seval,g1]
   generalize hE:(lim T).loop 128007 _ _=R
   obtain ⟨X,e',H',rfl,rfl,h⟩:=Ends.at hE (lp_d2 s hF _ (by simp only [↓eA,eB,seval,g1]) (by simp only [↓eA,eB,seval]))
   cases h2:steps s.joints geJoint with
   | true=>rw [h2] at h; obtain ⟨rfl,g2⟩:=h; simp only [↓eA,eB,seval,g2]
   | false=>
   rw [h2] at h; obtain ⟨rfl,g1⟩:=h
   simp only [↓eA,eB,seval,g1]
   generalize hE:(lim T).loop 128012 _ _=R
   obtain ⟨X,e',H',rfl,rfl,h⟩:=Ends.at hE (lp_d3 s hF _ (by simp only [↓eA,eB,seval,g1]) (by simp only [↓eA,eB,seval]))
   cases h3:steps s.flaws geFlaw with
   | true=>rw [h3] at h; obtain ⟨rfl,g2⟩:=h; simp only [↓eA,eB,seval,g2]
   | false=>
   rw [h3] at h; obtain ⟨rfl,g1⟩:=h
   have hsort:=e_sort true s.names (by omega)
   rcases e_compact_s (sortB s.names) (by omega) true false with ⟨hd,hcc⟩ | ⟨zq,hz1,hz2,hz3,hcc⟩
   · simp only [↓eA,eB,seval,g1,e_pNames s hF,hsort,killE_nil,hcc]
     rw [hd]; simp; omega
   · simp only [↓eA,eB,seval,g1,e_pNames s hF,hsort,killE_nil,hcc]
     simp; omega)
end Tz
set_option maxRecDepth 100000
open Gs Go
namespace Tz
abbrev far6 (n:Int):Bool:=decide (n < -1000000) || decide (1000000 < n)
theorem e_nearOne (n:Int):L.call 178 [int n] []=some (.bool (far6 n),[]):=
 call_eq rfl rfl (by simp only [↓eA,eB,seval,c178])
theorem e_near6 (nz:Bool)(l:List Int)(hb:l.length < 1000000000):L.call 116 [.fz nz 1 (l.map int)] []=some (.bool (!l.any far6),[]):=
 call_eq rfl rfl (by simp only [↓eA,eB,seval,c116,e_con_int far6 178 [] nz l hb rfl (fun x _=>e_nearOne x)])
def jbad (j:Joint):Bool:=(!decide (j.axis=0) && !decide (j.axis=1)) || decide (j.hi≤j.lo)
def fbad (f:Flaw):Bool:=decide (f.hi≤f.lo)
theorem e_chk2 (j:Joint):L.call 122 [j.enc] []=some (.bool (jbad j),[]):=
 call_eq rfl rfl (by simp only [↓eA,eB,seval,c122]; unfold jbad; cases h:decide (j.axis=0)<;>cases h1:decide (j.axis=1)<;>simp_all)
theorem e_chk3 (f:Flaw):L.call 124 [f.enc] []=some (.bool (fbad f),[]):=
 call_eq rfl rfl (by simp only [↓eA,eB,seval,c124]; rfl)
def sizeBad (s:Survey):Bool:=decide (64 < (s.beds.length:Int)) || decide (128 < (s.joints.length:Int)) || decide (64 < (s.flaws.length:Int))
abbrev Box.six (b:Box):List Int:=[b.x0,b.y0,b.z0,b.x1,b.y1,b.z1]
def surveyErr (s:Survey):Int:=
 bif sizeBad s then 7 else bif s.pit.six.any far6 then 6 else bif !s.pit.ok then 1 else bif s.names.any (fun n=>!pName n) then 4 else
 bif s.joints.any jbad || s.flaws.any fbad then 1 else
 match s.flaws.find? (fun f=>!decide (polyErr f.base=0)) with
 | some f=>polyErr f.base
 | none=>bif s.flaws.any (fun f=>!convex f.base) then 10 else bif outB s then 12 else bif disordered s then 5 else 0
theorem lp_k1 (s:Survey)(hF:s.Fit)(e:Env)(H:Heap)(h1:Gs.get e 1 = .ptr 1 0)(h70:Gs.get e 70 = .fz false 4 (s.flaws.map Flaw.enc))(h71:Gs.get e 71=int s.flaws.length)(h72:Gs.get e 72=int 0)(hH:hget H 1=some (.box s.cells false)) :
   Ends T 78013 e H (fun X e' H'=>match s.flaws.find? (fun f=>!decide (polyErr f.base=0)) with | some f=>X = .ret∧Gs.get e' 2=int (polyErr f.base) | none=>X = .ex 1∧Gs.get e' 1 = .ptr 1 0∧H'=Hs s):=by
 have hb:=hF.fl
 refine (loop_thru (T:=T) (key:=78013) (li:=l78013.1) rfl (S:=Unit) (R:=Flaw) (fun s f=>bif !decide (polyErr f.base=0) then .inl f else .inr s) s.flaws (fun i _ e H=>Gs.get e 1 = .ptr 1 0∧Gs.get e 70 = .fz false 4 (s.flaws.map Flaw.enc)∧Gs.get e 71=int s.flaws.length∧Gs.get e 72=int i∧hget H 1=some (.box s.cells false)) (fun f X e' H'=>X = .ret∧Gs.get e' 2=int (polyErr f.base)) (fun _ X e' H'=>X = .ex 1∧Gs.get e' 1 = .ptr 1 0∧H'=Hs s) ?_ ?_ ?_ s.flaws [] () e H rfl ⟨h1,h70,h71,h72,hH⟩).mono ?_
 · rintro i f u u' e H hx ⟨h1,h70,h71,h72,hH⟩ hf
   have hi:i < s.flaws.length:=(List.getElem?_eq_some_iff.1 hx).1
   have hx':(s.flaws.map Flaw.enc)[i]?=some f.enc:=by simp [hx]
   have hfb:=hF.base f (List.mem_of_getElem? hx)
   cases hp:decide (polyErr f.base=0) with
   | false=>rw [hp] at hf; cases hf
   | true=>
     simp only [↓eA,eB,seval,l78013,h1,h70,h71,h72,hH,hi,hx',e_polyCheck f.base hfb,hp,wrap_succ (show i < 4611686018427387904 by omega)]
     and_intros<;>first | trivial | rfl
 · rintro i f u r e H hx ⟨h1,h70,h71,h72,hH⟩ hf
   have hi:i < s.flaws.length:=(List.getElem?_eq_some_iff.1 hx).1
   have hx':(s.flaws.map Flaw.enc)[i]?=some f.enc:=by simp [hx]
   have hfb:=hF.base f (List.mem_of_getElem? hx)
   cases hp:decide (polyErr f.base=0) with
   | true=>rw [hp] at hf; cases hf
   | false=>
     rw [hp] at hf; injection hf with hf; subst hf
     simp only [↓eA,eB,seval,l78013,h1,h70,h71,h72,hH,hi,hx',e_polyCheck f.base hfb,hp]
     and_intros<;>first | trivial | rfl
 · rintro u e H ⟨h1,h70,h71,h72,hH⟩
   simp only [↓eA,eB,seval,l78013,h1,h70,h71,h72,hH,Nat.lt_irrefl]
   and_intros<;>first | trivial | rfl
 · intro X e' H' h
   rw [thru_find] at h
   cases hf:s.flaws.find? (fun f=>!decide (polyErr f.base=0)) with
   | none=>rw [hf] at h; exact h
   | some f=>rw [hf] at h; exact h
theorem lp_k2 (s:Survey)(hF:s.Fit)(hall:∀ f∈s.flaws,polyErr f.base=0)(e:Env)(H:Heap)(h1:Gs.get e 1 = .ptr 1 0)(h70:Gs.get e 85 = .fz false 4 (s.flaws.map Flaw.enc))(h71:Gs.get e 86=int s.flaws.length)(h72:Gs.get e 87=int 0)(hH:hget H 1=some (.box s.cells false)) :
   Ends T 78020 e H (fun X e' H'=>match s.flaws.any (fun f=>!convex f.base) with | true=>X = .ret∧Gs.get e' 2=int 10 | false=>X = .ex 3∧Gs.get e' 1 = .ptr 1 0∧H'=Hs s):=by
 have hb:=hF.fl
 refine loop_anyH (T:=T) (key:=78020) (li:=l78020.1) rfl s.flaws (fun f=>!convex f.base) (fun i e H=>Gs.get e 1 = .ptr 1 0∧Gs.get e 85 = .fz false 4 (s.flaws.map Flaw.enc)∧Gs.get e 86=int s.flaws.length∧Gs.get e 87=int i∧hget H 1=some (.box s.cells false)) (fun X e' H'=>X = .ret∧Gs.get e' 2=int 10) (fun X e' H'=>X = .ex 3∧Gs.get e' 1 = .ptr 1 0∧H'=Hs s) ?_ ?_ e H ⟨h1,h70,h71,h72,hH⟩
 · rintro i f e H hx hi ⟨h1,h70,h71,h72,hH⟩
   have hx':(s.flaws.map Flaw.enc)[i]?=some f.enc:=by simp [hx]
   have hm:=List.mem_of_getElem? hx
   have hfb:=hF.base f hm
   simp only [↓eA,eB,seval,l78020,h1,h70,h71,h72,hH,hi,hx',e_convex f.base hfb (hall f hm),wrap_succ (show i < 4611686018427387904 by omega)]
   cases hc:convex f.base<;>simp only [↓eA,eB,seval,hc]<;>and_intros<;>first | trivial | rfl
 · rintro e H ⟨h1,h70,h71,h72,hH⟩
   simp only [↓eA,eB,seval,l78020,h1,h70,h71,h72,hH,Nat.lt_irrefl]
   and_intros<;>first | trivial | rfl
theorem e_pCheck (s:Survey)(hF:s.Fit):L.call 78 [s.enc] []=some (int (surveyErr s),[]):=
 call_eq rfl rfl (by
   have hb:=hF.bl; have hj:=hF.jl; have hf:=hF.fl
   have hnl:=s.names_length
   have hnr:L.call 116 [.fz false 1 [int s.pit.x0,int s.pit.y0,int s.pit.z0,int s.pit.x1,int s.pit.y1,int s.pit.z1]] []=some (.bool (!s.pit.six.any far6),[]):=e_near6 false s.pit.six (by simp)
   unfold surveyErr
   cases hz:sizeBad s with
   | true=>have hz':=hz; simp only [sizeBad] at hz'; simp only [↓eA,eB,seval,c78,hz']
   | false=>
   have hz':=hz; simp only [sizeBad] at hz'
   have hsmall:s.names.length < 1000000000:=by
     have hz2:=hz'; simp only [Bool.or_eq_false_iff,decide_eq_false_iff_not] at hz2; omega
   cases hn:s.pit.six.any far6 with
   | true=>rw [hn] at hnr; simp only [↓eA,eB,seval,c78,hz',hnr]
   | false=>
   rw [hn] at hnr
   cases hp:s.pit.ok with
   | false=>simp only [↓eA,eB,seval,c78,hz',hnr,e_proper,hp]
   | true=>
   have hnm:L.call 102 [.fz true 1 (s.names.map .str),.fn 119 []] []=some (.bool (s.names.any fun n=>!pName n),[]):=e_con_str (fun n=>!pName n) 119 [] true s.names hsmall rfl (fun x hx=>e_notName x (hF.nm x hx))
   cases hnb:s.names.any (fun n=>!pName n) with
   | true=>rw [hnb] at hnm; simp only [↓eA,eB,seval,c78,hz',hnr,e_proper,hp,e_pNames s hF,hnm]; skip
   | false=>
   rw [hnb] at hnm
   have hjj:L.call 121 [.fz false 5 (s.joints.map Joint.enc),.fn 122 []] []=some (.bool (s.joints.any jbad),[]):=e_con_joint jbad 122 [] false s.joints hj rfl (fun x _=>e_chk2 x)
   have hff:L.call 123 [.fz false 4 (s.flaws.map Flaw.enc),.fn 124 []] []=some (.bool (s.flaws.any fbad),[]):=e_con_flaw fbad 124 [] false s.flaws hf rfl (fun x _=>e_chk3 x)
   cases hsh:(s.joints.any jbad || s.flaws.any fbad) with
   | true=>simp only [↓eA,eB,seval,c78,hz',hnr,e_proper,hp,e_pNames s hF,hnm,hjj,hff,hsh]
   | false=>
   simp only [↓eA,eB,seval,c78,hz',hnr,e_proper,hp,e_pNames s hF,hnm,hjj,hff,hsh]
   generalize hE:(lim T).loop 78013 _ _=R
   obtain ⟨X,e',H',rfl,h⟩:=Ends.at hE (lp_k1 s hF _ _ rfl rfl rfl rfl rfl)
   cases hk:s.flaws.find? (fun f=>!decide (polyErr f.base=0)) with
   | some f=>rw [hk] at h; obtain ⟨rfl,g2⟩:=h; simp only [↓eA,eB,seval,g2]
   | none=>
   rw [hk] at h; obtain ⟨rfl,g1,rfl⟩:=h
   have hall:∀ f∈s.flaws,polyErr f.base=0:=by
     intro f hm; have:=List.find?_eq_none.1 hk f hm; simpa using this
   simp only [↓eA,eB,seval,g1]
   generalize hE:(lim T).loop 78020 _ _=R
   obtain ⟨X,e',H',rfl,h⟩:=Ends.at hE (lp_k2 s hF hall _ _ (by simp only [↓eA,eB,seval,g1]) (by simp only [↓eA,eB,seval]) (by simp only [↓eA,eB,seval]) (by simp only [↓eA,eB,seval]) rfl)
   cases hc:s.flaws.any (fun f=>!convex f.base) with
   | true=>rw [hc] at h; obtain ⟨rfl,g2⟩:=h; simp only [↓eA,eB,seval,g2]
   | false=>
   rw [hc] at h; obtain ⟨rfl,g1,rfl⟩:=h
   cases ho:outB s with
   | true=>simp only [↓eA,eB,seval,g1,e_outside s hF,ho]
   | false=>
   cases hd:disordered s with
   | true=>simp only [↓eA,eB,seval,g1,e_outside s hF,ho,e_disordered s hF,hd]
   | false=>simp only [↓eA,eB,seval,g1,e_outside s hF,ho,e_disordered s hF,hd])
end Tz
set_option maxRecDepth 100000
open Gs Go
namespace Tz
def ivFar (x:Int×Int):Bool:=!(decide (-1000000000000≤x.1) && decide (x.1≤1000000000000)) || !(decide (-1000000000000≤x.2) && decide (x.2≤1000000000000))
def ivRev (x:Int×Int):Bool:=decide (x.2 < x.1)
def ivErr (l:List (Int×Int)):Int:=bif l.any ivFar then 6 else bif l.any ivRev then 1 else 0
theorem e_spanNear (n:Int):L.call 265 [int n] []=some (.bool (decide (-1000000000000≤n) && decide (n≤1000000000000)),[]):=
 call_eq rfl rfl (by simp only [↓eA,eB,reduceIte,Nat.reduceBEq,Int.reduceNeg,Int.reduceLT,Int.reduceLE,Int.reduceAdd,Int.reduceSub,Int.reduceMul,Int.reduceEq,Int.reduceToNat,Nat.reduceLT,Nat.reduceAdd,Nat.reduceMul,Nat.reduceSub,c265])
theorem lp_sc1 (nz:Bool)(l:List (Int×Int))(hb:l.length < 4000000000)(e:Env)(H:Heap)(h0:Gs.get e 0 = .fz nz 2 (l.map ivD))(h7:Gs.get e 7 = .fz nz 2 (l.map ivD))(h8:Gs.get e 8=int l.length)(h9:Gs.get e 9=int 0) :
   Ends T 254002 e H (fun X e' H'=>match l.any ivFar with | true=>X = .ret∧Gs.get e' 2=int 6 | false=>X = .ex 0∧Gs.get e' 0 = .fz nz 2 (l.map ivD)∧H'=[]):=by
 refine loop_anyH (T:=T) (key:=254002) (li:=l254002.1) rfl l ivFar (fun i e H=>Gs.get e 0 = .fz nz 2 (l.map ivD)∧Gs.get e 7 = .fz nz 2 (l.map ivD)∧Gs.get e 8=int l.length∧Gs.get e 9=int i) (fun X e' H'=>X = .ret∧Gs.get e' 2=int 6) (fun X e' H'=>X = .ex 0∧Gs.get e' 0 = .fz nz 2 (l.map ivD)∧H'=[]) ?_ ?_ e H ⟨h0,h7,h8,h9⟩
 · rintro i x e H hx hi ⟨h0,h7,h8,h9⟩
   have hx':(l.map ivD)[i]?=some (.agg [int x.1,int x.2]):=by simp [hx,ivD]
   simp only [↓eA,eB,reduceIte,Nat.reduceBEq,Int.reduceNeg,Int.reduceLT,Int.reduceLE,Int.reduceAdd,Int.reduceSub,Int.reduceMul,Int.reduceEq,Int.reduceToNat,Nat.reduceLT,Nat.reduceAdd,Nat.reduceMul,Nat.reduceSub,l254002,h0,h7,h8,h9,hi,hx',e_spanNear,wrap_succ (show i < 4611686018427387904 by omega)]
   cases hc:ivFar x<;>simp only [ivFar] at hc<;>simp only [↓eA,eB,reduceIte,Nat.reduceBEq,Int.reduceNeg,Int.reduceLT,Int.reduceLE,Int.reduceAdd,Int.reduceSub,Int.reduceMul,Int.reduceEq,Int.reduceToNat,Nat.reduceLT,Nat.reduceAdd,Nat.reduceMul,Nat.reduceSub,hc]<;>and_intros<;>first | trivial | rfl
 · rintro e H ⟨h0,h7,h8,h9⟩
   simp only [↓eA,eB,reduceIte,Nat.reduceBEq,Int.reduceNeg,Int.reduceLT,Int.reduceLE,Int.reduceAdd,Int.reduceSub,Int.reduceMul,Int.reduceEq,Int.reduceToNat,Nat.reduceLT,Nat.reduceAdd,Nat.reduceMul,Nat.reduceSub,l254002,h0,h7,h8,h9,Nat.lt_irrefl]
   and_intros<;>first | trivial | rfl
theorem lp_sc2 (nz:Bool)(l:List (Int×Int))(hb:l.length < 4000000000)(e:Env)(H:Heap)(h7:Gs.get e 24 = .fz nz 2 (l.map ivD))(h8:Gs.get e 25=int l.length)(h9:Gs.get e 26=int 0) :
   Ends T 254008 e H (fun X e' H'=>match l.any ivRev with | true=>X = .ret∧Gs.get e' 2=int 1 | false=>X = .ex 2):=by
 refine loop_anyH (T:=T) (key:=254008) (li:=l254008.1) rfl l ivRev (fun i e H=>Gs.get e 24 = .fz nz 2 (l.map ivD)∧Gs.get e 25=int l.length∧Gs.get e 26=int i) (fun X e' H'=>X = .ret∧Gs.get e' 2=int 1) (fun X e' H'=>X = .ex 2) ?_ ?_ e H ⟨h7,h8,h9⟩
 · rintro i x e H hx hi ⟨h7,h8,h9⟩
   have hx':(l.map ivD)[i]?=some (.agg [int x.1,int x.2]):=by simp [hx,ivD]
   simp only [↓eA,eB,reduceIte,Nat.reduceBEq,Int.reduceNeg,Int.reduceLT,Int.reduceLE,Int.reduceAdd,Int.reduceSub,Int.reduceMul,Int.reduceEq,Int.reduceToNat,Nat.reduceLT,Nat.reduceAdd,Nat.reduceMul,Nat.reduceSub,l254008,h7,h8,h9,hi,hx',wrap_succ (show i < 4611686018427387904 by omega)]
   cases hc:ivRev x<;>simp only [ivRev] at hc<;>simp only [↓eA,eB,reduceIte,Nat.reduceBEq,Int.reduceNeg,Int.reduceLT,Int.reduceLE,Int.reduceAdd,Int.reduceSub,Int.reduceMul,Int.reduceEq,Int.reduceToNat,Nat.reduceLT,Nat.reduceAdd,Nat.reduceMul,Nat.reduceSub,hc]<;>and_intros<;>first | trivial | rfl
 · rintro e H ⟨h7,h8,h9⟩
   simp only [↓eA,eB,reduceIte,Nat.reduceBEq,Int.reduceNeg,Int.reduceLT,Int.reduceLE,Int.reduceAdd,Int.reduceSub,Int.reduceMul,Int.reduceEq,Int.reduceToNat,Nat.reduceLT,Nat.reduceAdd,Nat.reduceMul,Nat.reduceSub,l254008,h7,h8,h9,Nat.lt_irrefl]
   and_intros<;>first | trivial | rfl
theorem e_spanCheck (nz:Bool)(l:List (Int×Int))(hb:l.length < 4000000000):L.call 254 [.fz nz 2 (l.map ivD)] []=some (int (ivErr l),[]):=
 call_eq rfl rfl (by
   unfold ivErr
   simp only [↓eA,eB,reduceIte,Nat.reduceBEq,Int.reduceNeg,Int.reduceLT,Int.reduceLE,Int.reduceAdd,Int.reduceSub,Int.reduceMul,Int.reduceEq,Int.reduceToNat,Nat.reduceLT,Nat.reduceAdd,Nat.reduceMul,Nat.reduceSub,c254]
   generalize hE:(lim T).loop 254002 _ _=R
   obtain ⟨X,e',H',rfl,hP⟩:=Ends.at hE (lp_sc1 nz l hb _ _ rfl rfl rfl rfl)
   cases hc:l.any ivFar with
   | true=>rw [hc] at hP; obtain ⟨rfl,g⟩:=hP; simp only [↓eA,eB,reduceIte,Nat.reduceBEq,Int.reduceNeg,Int.reduceLT,Int.reduceLE,Int.reduceAdd,Int.reduceSub,Int.reduceMul,Int.reduceEq,Int.reduceToNat,Nat.reduceLT,Nat.reduceAdd,Nat.reduceMul,Nat.reduceSub,g]
   | false=>
     rw [hc] at hP; obtain ⟨rfl,g0,rfl⟩:=hP
     simp only [↓eA,eB,reduceIte,Nat.reduceBEq,Int.reduceNeg,Int.reduceLT,Int.reduceLE,Int.reduceAdd,Int.reduceSub,Int.reduceMul,Int.reduceEq,Int.reduceToNat,Nat.reduceLT,Nat.reduceAdd,Nat.reduceMul,Nat.reduceSub,g0]
     generalize hE:(lim T).loop 254008 _ _=R
     obtain ⟨X,e',H',rfl,hP⟩:=Ends.at hE (lp_sc2 nz l hb _ _ (by simp only [↓eA,eB,reduceIte,Nat.reduceBEq,Int.reduceNeg,Int.reduceLT,Int.reduceLE,Int.reduceAdd,Int.reduceSub,Int.reduceMul,Int.reduceEq,Int.reduceToNat,Nat.reduceLT,Nat.reduceAdd,Nat.reduceMul,Nat.reduceSub]) (by simp only [↓eA,eB,reduceIte,Nat.reduceBEq,Int.reduceNeg,Int.reduceLT,Int.reduceLE,Int.reduceAdd,Int.reduceSub,Int.reduceMul,Int.reduceEq,Int.reduceToNat,Nat.reduceLT,Nat.reduceAdd,Nat.reduceMul,Nat.reduceSub]) (by simp only [↓eA,eB,reduceIte,Nat.reduceBEq,Int.reduceNeg,Int.reduceLT,Int.reduceLE,Int.reduceAdd,Int.reduceSub,Int.reduceMul,Int.reduceEq,Int.reduceToNat,Nat.reduceLT,Nat.reduceAdd,Nat.reduceMul,Nat.reduceSub]))
     cases hc:l.any ivRev with
     | true=>rw [hc] at hP; obtain ⟨rfl,g⟩:=hP; simp only [↓eA,eB,reduceIte,Nat.reduceBEq,Int.reduceNeg,Int.reduceLT,Int.reduceLE,Int.reduceAdd,Int.reduceSub,Int.reduceMul,Int.reduceEq,Int.reduceToNat,Nat.reduceLT,Nat.reduceAdd,Nat.reduceMul,Nat.reduceSub,g]
     | false=>rw [hc] at hP; subst hP; simp only [↓eA,eB,reduceIte,Nat.reduceBEq,Int.reduceNeg,Int.reduceLT,Int.reduceLE,Int.reduceAdd,Int.reduceSub,Int.reduceMul,Int.reduceEq,Int.reduceToNat,Nat.reduceLT,Nat.reduceAdd,Nat.reduceMul,Nat.reduceSub])
theorem lt0 (n:Nat):decide ((n:Int) < 0)=false:=by simp
theorem e_grow (n:Nat)(hn:n < 4000000000):L.call 266 [.fz true 2 [],int n] []=some (if 0 < n then (.ow 600000,[(600000,.row false 2 [] 0 true)]) else (.fz true 2 [],[])):=
 call_eq rfl rfl (by
   by_cases hz:0 < n
   · have hz':decide ((0:Int) < n)=true:=by simpa using hz
     have hfit:fits n 16=true:=by simp [fits]; omega
     have hw:IntKind.i64.wrap ((n:Int) - 0)=n:=by simp only [Int.sub_zero]; exact wrap_nat (by omega)
     have h00:inc 0 0=true:=rfl
     have h0n:inc 0 n=true:=by simp [inc]
     have hc0:cut ([]:List D) 0 0=[]:=rfl
     have hcr:cut (List.replicate n (D.agg [.int .i64 0,.int .i64 0])) 0 0=[]:=by simp [cut]
     simp only [↓eA,eB,reduceIte,Nat.reduceBEq,Int.reduceNeg,Int.reduceLT,Int.reduceLE,Int.reduceAdd,Int.reduceSub,Int.reduceMul,Int.reduceEq,Int.reduceToNat,Nat.reduceLT,Nat.reduceAdd,Nat.reduceMul,Nat.reduceSub,c266,lt0,hw,hz',hfit,h00,h0n,hc0,hcr,List.isEmpty_nil,Int.toNat_natCast,List.length_replicate,Nat.zero_le,Nat.zero_add,Nat.sub_zero,Nat.zero_sub]
     rw [if_pos hz]
   · have hz':decide ((0:Int) < n)=false:=by simp; omega
     have hn0:n=0:=by omega
     subst hn0
     simp only [↓eA,eB,reduceIte,Nat.reduceBEq,Int.reduceNeg,Int.reduceLT,Int.reduceLE,Int.reduceAdd,Int.reduceSub,Int.reduceMul,Int.reduceEq,Int.reduceToNat,Nat.reduceLT,Nat.reduceAdd,Nat.reduceMul,Nat.reduceSub,c266])
abbrev encL (p:Bool×List (Int×Int)):D:=.fz p.1 2 (p.2.map ivD)
def total:List (Bool×List (Int×Int))→Nat
 | []=>0
 | p :: r=>p.2.length + total r
theorem foldl_total:∀ (l:List (Bool×List (Int×Int))) (a:Nat),l.foldl (fun s p=>s + p.2.length) a=a + total l
 | [],a=>rfl
 | p :: r,a=>by simp only [List.foldl_cons,foldl_total r,total]; omega
theorem total_take (l:List (Bool×List (Int×Int))):∀ i p,l[i]?=some p→total (l.take i) + p.2.length≤total l:=by
 induction l with
 | nil=>intro i p h; simp at h
 | cons q r ih=>
   intro i p h
   cases i with
   | zero=>simp at h; subst h; simp [total]
   | succ i=>simp at h; have:=ih i p h; simp only [List.take_succ_cons,total]; omega
theorem total_take_succ (l:List (Bool×List (Int×Int))):∀ i p,l[i]?=some p→total (l.take (i + 1))=total (l.take i) + p.2.length:=by
 induction l with
 | nil=>intro i p h; simp at h
 | cons q r ih=>
   intro i p h
   cases i with
   | zero=>simp at h; subst h; simp [total]
   | succ i=>simp at h; have:=ih i p h; simp only [List.take_succ_cons,total,this]; omega
theorem lp_cc1 (nz:Bool)(xss:List (Bool×List (Int×Int)))(hb:xss.length < 1000000000)(ht:total xss < 4000000000)(e:Env)(H:Heap)(h0:Gs.get e 0 = .fz nz 1 (xss.map encL))(h3:Gs.get e 3=int (0:Nat))(h9:Gs.get e 9 = .fz nz 1 (xss.map encL))(h10:Gs.get e 10=int xss.length)(h11:Gs.get e 11=int 0) :
   Ends T 255003 e H (fun X e' H'=>X = .ex 0∧Gs.get e' 0 = .fz nz 1 (xss.map encL)∧Gs.get e' 3=int (total xss)∧H'=[]):=by
 refine (loop_fold (T:=T) (key:=255003) (li:=l255003.1) rfl xss (fun s p=>s + p.2.length) (fun i a e H=>a=total (xss.take i)∧Gs.get e 0 = .fz nz 1 (xss.map encL)∧Gs.get e 3=int a∧Gs.get e 9 = .fz nz 1 (xss.map encL)∧Gs.get e 10=int xss.length∧Gs.get e 11=int i) (fun a X e' H'=>X = .ex 0∧Gs.get e' 0 = .fz nz 1 (xss.map encL)∧Gs.get e' 3=int a∧H'=[]) ?_ ?_ 0 e H ⟨rfl,h0,h3,h9,h10,h11⟩).mono ?_
 · rintro i p a e H hx hi ⟨ha,h0,h3,h9,h10,h11⟩
   have hx':(xss.map encL)[i]?=some (encL p):=by simp [hx]
   have htt:=total_take xss i p hx
   have hts:=total_take_succ xss i p hx
   have hw:IntKind.i64.wrap ((a:Int) + (p.2.length:Int))=((a + p.2.length:Nat):Int):=by
     rw [←Int.natCast_add]; exact wrap_nat (by omega)
   simp only [↓eA,eB,reduceIte,Nat.reduceBEq,Int.reduceNeg,Int.reduceLT,Int.reduceLE,Int.reduceAdd,Int.reduceSub,Int.reduceMul,Int.reduceEq,Int.reduceToNat,Nat.reduceLT,Nat.reduceAdd,Nat.reduceMul,Nat.reduceSub,l255003,h0,h3,h9,h10,h11,hi,hx',hw,lt0,wrap_succ (show i < 4611686018427387904 by omega)]
   refine ⟨trivial,by omega,?_⟩
   and_intros<;>first | trivial | rfl
 · rintro a e H ⟨ha,h0,h3,h9,h10,h11⟩
   simp only [↓eA,eB,reduceIte,Nat.reduceBEq,Int.reduceNeg,Int.reduceLT,Int.reduceLE,Int.reduceAdd,Int.reduceSub,Int.reduceMul,Int.reduceEq,Int.reduceToNat,Nat.reduceLT,Nat.reduceAdd,Nat.reduceMul,Nat.reduceSub,l255003,h0,h3,h9,h10,h11,Nat.lt_irrefl]
   and_intros<;>first | trivial | rfl
 · rintro X e' H' ⟨hX,g0,g3,hH⟩
   refine ⟨hX,g0,?_,hH⟩
   rw [g3,foldl_total,Nat.zero_add]
theorem lp_cc2 (nz b:Bool)(xss:List (Bool×List (Int×Int)))(hb:xss.length < 1000000000)(ht:total xss < 4000000000)(e:Env)(H:Heap)(h6:Gs.get e 6 = .ow 1006)(h9:Gs.get e 25 = .fz nz 1 (xss.map encL))(h10:Gs.get e 26=int xss.length)(h11:Gs.get e 27=int 0)(hH:hget H 1006=some (.row b 2 [] 0 true))(hH1:hget H 10480=none)(hH2:hget H 10481=none) :
   Ends T 255011 e H (fun X e' H'=>X = .ex 2∧Gs.get e' 6 = .ow 1006∧H'=[(1006,.row b 2 (((xss.map Prod.snd).flatten).map ivD) 0 true)]):=by
 refine (loop_fold (T:=T) (key:=255011) (li:=l255011.1) rfl xss (fun s p=>s ++ p.2) (fun i a e H=>a.length=total (xss.take i)∧Gs.get e 6 = .ow 1006∧Gs.get e 25 = .fz nz 1 (xss.map encL)∧Gs.get e 26=int xss.length∧Gs.get e 27=int i∧hget H 1006=some (.row b 2 (a.map ivD) 0 true)∧hget H 10480=none∧hget H 10481=none) (fun a X e' H'=>X = .ex 2∧Gs.get e' 6 = .ow 1006∧H'=[(1006,.row b 2 (a.map ivD) 0 true)]) ?_ ?_ [] e H ⟨rfl,h6,h9,h10,h11,hH,hH1,hH2⟩).mono ?_
 · rintro i p a e H hx hi ⟨ha,h6,h9,h10,h11,hH,hH1,hH2⟩
   have hx':(xss.map encL)[i]?=some (encL p):=by simp [hx]
   have htt:=total_take xss i p hx
   have hts:=total_take_succ xss i p hx
   have hfit:fits (a.length + p.2.length) 16=true:=by simp [fits]; omega
   have hlen:(a ++ p.2).length=total (xss.take (i + 1)):=by simp; omega
   simp only [↓eA,eB,reduceIte,Nat.reduceBEq,Int.reduceNeg,Int.reduceLT,Int.reduceLE,Int.reduceAdd,Int.reduceSub,Int.reduceMul,Int.reduceEq,Int.reduceToNat,Nat.reduceLT,Nat.reduceAdd,Nat.reduceMul,Nat.reduceSub,l255011,h6,h9,h10,h11,hH,hH1,hH2,hi,hx',hfit,wrap_succ (show i < 4611686018427387904 by omega),List.map_append]
   refine ⟨trivial,hlen,?_⟩
   and_intros<;>first | trivial | rfl
 · rintro a e H ⟨ha,h6,h9,h10,h11,hH,hH1,hH2⟩
   simp only [↓eA,eB,reduceIte,Nat.reduceBEq,Int.reduceNeg,Int.reduceLT,Int.reduceLE,Int.reduceAdd,Int.reduceSub,Int.reduceMul,Int.reduceEq,Int.reduceToNat,Nat.reduceLT,Nat.reduceAdd,Nat.reduceMul,Nat.reduceSub,l255011,h6,h9,h10,h11,hH,hH1,hH2,Nat.lt_irrefl]
   and_intros<;>first | trivial | rfl
 · rintro X e' H' ⟨hX,g6,hH⟩
   refine ⟨hX,g6,?_⟩
   have:∀ (l:List (Bool×List (Int×Int))) (a:List (Int×Int)),l.foldl (fun s p=>s ++ p.2) a=a ++ (l.map Prod.snd).flatten:=by
     intro l
     induction l with
     | nil=>intro a; simp
     | cons q r ih=>intro a; simp [ih]
   rw [hH,this,List.nil_append]
theorem e_concat (nz:Bool)(xss:List (Bool×List (Int×Int)))(hb:xss.length < 1000000000)(ht:total xss < 4000000000) :
   L.call 255 [.fz nz 1 (xss.map encL)] []=some (.fz (decide (total xss=0)) 2 (((xss.map Prod.snd).flatten).map ivD),[]):=
 call_eq rfl rfl (by
   simp only [↓eA,eB,reduceIte,Nat.reduceBEq,Int.reduceNeg,Int.reduceLT,Int.reduceLE,Int.reduceAdd,Int.reduceSub,Int.reduceMul,Int.reduceEq,Int.reduceToNat,Nat.reduceLT,Nat.reduceAdd,Nat.reduceMul,Nat.reduceSub,c255]
   generalize hE:(lim T).loop 255003 _ _=R
   obtain ⟨X,e',H',rfl,rfl,g0,g3,rfl⟩:=Ends.at hE (lp_cc1 nz xss hb ht _ _ rfl rfl rfl rfl rfl)
   by_cases hz:0 < total xss
   · have hg:=e_grow (total xss) ht
     rw [if_pos hz] at hg
     simp only [↓eA,eB,reduceIte,Nat.reduceBEq,Int.reduceNeg,Int.reduceLT,Int.reduceLE,Int.reduceAdd,Int.reduceSub,Int.reduceMul,Int.reduceEq,Int.reduceToNat,Nat.reduceLT,Nat.reduceAdd,Nat.reduceMul,Nat.reduceSub,g0,g3,hg,killE_nil]
     generalize hE2:(lim T).loop 255011 _ _=R
     obtain ⟨X,e2,H',rfl,rfl,g6,rfl⟩:=Ends.at hE2 (lp_cc2 nz false xss hb ht _ _ (by simp only [↓eA,eB,reduceIte,Nat.reduceBEq,Int.reduceNeg,Int.reduceLT,Int.reduceLE,Int.reduceAdd,Int.reduceSub,Int.reduceMul,Int.reduceEq,Int.reduceToNat,Nat.reduceLT,Nat.reduceAdd,Nat.reduceMul,Nat.reduceSub]) (by simp only [↓eA,eB,reduceIte,Nat.reduceBEq,Int.reduceNeg,Int.reduceLT,Int.reduceLE,Int.reduceAdd,Int.reduceSub,Int.reduceMul,Int.reduceEq,Int.reduceToNat,Nat.reduceLT,Nat.reduceAdd,Nat.reduceMul,Nat.reduceSub,get_killE,killD]) (by simp only [↓eA,eB,reduceIte,Nat.reduceBEq,Int.reduceNeg,Int.reduceLT,Int.reduceLE,Int.reduceAdd,Int.reduceSub,Int.reduceMul,Int.reduceEq,Int.reduceToNat,Nat.reduceLT,Nat.reduceAdd,Nat.reduceMul,Nat.reduceSub,get_killE,killD]) (by simp only [↓eA,eB,reduceIte,Nat.reduceBEq,Int.reduceNeg,Int.reduceLT,Int.reduceLE,Int.reduceAdd,Int.reduceSub,Int.reduceMul,Int.reduceEq,Int.reduceToNat,Nat.reduceLT,Nat.reduceAdd,Nat.reduceMul,Nat.reduceSub,get_killE,killD]) rfl rfl rfl)
     have hd:decide (total xss=0)=false:=by simp; omega
     simp only [↓eA,eB,reduceIte,Nat.reduceBEq,Int.reduceNeg,Int.reduceLT,Int.reduceLE,Int.reduceAdd,Int.reduceSub,Int.reduceMul,Int.reduceEq,Int.reduceToNat,Nat.reduceLT,Nat.reduceAdd,Nat.reduceMul,Nat.reduceSub,g6,hd]
   · have hg:=e_grow (total xss) ht
     rw [if_neg hz] at hg
     simp only [↓eA,eB,reduceIte,Nat.reduceBEq,Int.reduceNeg,Int.reduceLT,Int.reduceLE,Int.reduceAdd,Int.reduceSub,Int.reduceMul,Int.reduceEq,Int.reduceToNat,Nat.reduceLT,Nat.reduceAdd,Nat.reduceMul,Nat.reduceSub,g0,g3,hg,killE_nil]
     generalize hE2:(lim T).loop 255011 _ _=R
     obtain ⟨X,e2,H',rfl,rfl,g6,rfl⟩:=Ends.at hE2 (lp_cc2 nz true xss hb ht _ _ (by simp only [↓eA,eB,reduceIte,Nat.reduceBEq,Int.reduceNeg,Int.reduceLT,Int.reduceLE,Int.reduceAdd,Int.reduceSub,Int.reduceMul,Int.reduceEq,Int.reduceToNat,Nat.reduceLT,Nat.reduceAdd,Nat.reduceMul,Nat.reduceSub]) (by simp only [↓eA,eB,reduceIte,Nat.reduceBEq,Int.reduceNeg,Int.reduceLT,Int.reduceLE,Int.reduceAdd,Int.reduceSub,Int.reduceMul,Int.reduceEq,Int.reduceToNat,Nat.reduceLT,Nat.reduceAdd,Nat.reduceMul,Nat.reduceSub]) (by simp only [↓eA,eB,reduceIte,Nat.reduceBEq,Int.reduceNeg,Int.reduceLT,Int.reduceLE,Int.reduceAdd,Int.reduceSub,Int.reduceMul,Int.reduceEq,Int.reduceToNat,Nat.reduceLT,Nat.reduceAdd,Nat.reduceMul,Nat.reduceSub]) (by simp only [↓eA,eB,reduceIte,Nat.reduceBEq,Int.reduceNeg,Int.reduceLT,Int.reduceLE,Int.reduceAdd,Int.reduceSub,Int.reduceMul,Int.reduceEq,Int.reduceToNat,Nat.reduceLT,Nat.reduceAdd,Nat.reduceMul,Nat.reduceSub]) rfl rfl rfl)
     have hd:decide (total xss=0)=true:=by simp; omega
     simp only [↓eA,eB,reduceIte,Nat.reduceBEq,Int.reduceNeg,Int.reduceLT,Int.reduceLE,Int.reduceAdd,Int.reduceSub,Int.reduceMul,Int.reduceEq,Int.reduceToNat,Nat.reduceLT,Nat.reduceAdd,Nat.reduceMul,Nat.reduceSub,g6,hd])
theorem e_clone (l:List (Int×Int))(hb:l.length < 4000000000):L.call 256 [.fz true 2 (l.map ivD)] []=some (if l=[] then (.fz true 2 [],[]) else (.ow 600001,[(600001,.row false 2 (l.map ivD) 0 true)])):=
 call_eq rfl rfl (by
   cases l with
   | nil=>simp only [↓eA,eB,reduceIte,Nat.reduceBEq,Int.reduceNeg,Int.reduceLT,Int.reduceLE,Int.reduceAdd,Int.reduceSub,Int.reduceMul,Int.reduceEq,Int.reduceToNat,Nat.reduceLT,Nat.reduceAdd,Nat.reduceMul,Nat.reduceSub,c256]; rfl
   | cons x r=>
     have hfit:fits (0 + (r.length + 1)) 16=true:=by simp only [List.length_cons] at hb; simp [fits]; omega
     have hne:(List.map ivD (x :: r)).isEmpty=false:=rfl
     simp only [↓eA,eB,reduceIte,Nat.reduceBEq,Int.reduceNeg,Int.reduceLT,Int.reduceLE,Int.reduceAdd,Int.reduceSub,Int.reduceMul,Int.reduceEq,Int.reduceToNat,Nat.reduceLT,Nat.reduceAdd,Nat.reduceMul,Nat.reduceSub,c256,hfit,hne]
     simp)
theorem e_lists1 (l:List (Int×Int))(b:Bool)(hb:l.length < 4000000000):L.call 243 [.fz false 1 [.fz b 2 (l.map ivD)]] []=some (int (bif decide (10000 < (l.length:Int)) then 7 else ivErr l),[]):=
 call_eq rfl rfl (by
   have hc:=e_concat false [(b,l)] (by simp) (by simpa [total] using hb)
   have hc':∃ z,L.call 255 [.fz false 1 [.fz b 2 (l.map ivD)]] []=some (.fz z 2 (l.map ivD),[]):=⟨_,by simpa using hc⟩
   obtain ⟨z,hc⟩:=hc'
   have h01:inb 0 1=true:=rfl
   have hz0:∀ d:D,[d][0]?=some d:=fun _=>rfl
   simp only [↓eA,eB,reduceIte,Nat.reduceBEq,Int.reduceNeg,Int.reduceLT,Int.reduceLE,Int.reduceAdd,Int.reduceSub,Int.reduceMul,Int.reduceEq,Int.reduceToNat,Nat.reduceLT,Nat.reduceAdd,Nat.reduceMul,Nat.reduceSub,c243]
   rw [loop_unfold_c (T:=T) (k:=243002) rfl]
   cases h1:decide (10000 < (l.length:Int)) with
   | true=>simp only [↓eA,eB,reduceIte,Nat.reduceBEq,Int.reduceNeg,Int.reduceLT,Int.reduceLE,Int.reduceAdd,Int.reduceSub,Int.reduceMul,Int.reduceEq,Int.reduceToNat,Nat.reduceLT,Nat.reduceAdd,Nat.reduceMul,Nat.reduceSub,l243002,h1,h01,hz0]
   | false=>
     simp only [↓eA,eB,reduceIte,Nat.reduceBEq,Int.reduceNeg,Int.reduceLT,Int.reduceLE,Int.reduceAdd,Int.reduceSub,Int.reduceMul,Int.reduceEq,Int.reduceToNat,Nat.reduceLT,Nat.reduceAdd,Nat.reduceMul,Nat.reduceSub,l243002,h1,h01,hz0]
     rw [loop_unfold_c (T:=T) (k:=243002) rfl]
     simp only [↓eA,eB,reduceIte,Nat.reduceBEq,Int.reduceNeg,Int.reduceLT,Int.reduceLE,Int.reduceAdd,Int.reduceSub,Int.reduceMul,Int.reduceEq,Int.reduceToNat,Nat.reduceLT,Nat.reduceAdd,Nat.reduceMul,Nat.reduceSub,l243002,h01,hz0,hc,e_spanCheck z l hb])
end Tz
