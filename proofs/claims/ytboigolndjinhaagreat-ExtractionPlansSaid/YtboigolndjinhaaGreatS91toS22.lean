/- part S91; Interval ends, reference; Interval ends, second part; Set and Same, reference; no conditions. -/
import Derived.Test.YtboigolndjinhaaGreatS17toS86
import Derived.Test.YtboigolndjinhaaGreatS66toS19
set_option linter.all false
set_option maxRecDepth 100000
open Gs Go
namespace Tz.C18
def prF {α:Type}(p:α→α→Bool):List α→List α→Bool
 | _,[]=>false
 | s,b :: r=>s.any (p b) || prF p (s ++ [b]) r
theorem thru_pr {α:Type}(p:α→α→Bool):∀ (r s:List α),thru (R:=Unit) (fun (s:List α) b=>bif s.any (p b) then .inl () else .inr (s ++ [b])) r s=bif prF p s r then .inl () else .inr (s ++ r)
 | [],s=>by simp [thru,prF]
 | b :: r,s=>by
   simp only [thru,prF]
   cases h:s.any (p b) with
   | true=>rfl
   | false=>simp only [cond_false,Bool.false_or]; rw [thru_pr p r (s ++ [b])]; simp
def levP (b:Block)(x:Bench):Bool:=decide (x.lo=b.box.z0) && decide (b.box.z1≤x.hi)
abbrev bxc (b:Box):List D:=[int b.x0,int b.y0,int b.z0,int b.x1,int b.y1,int b.z1]
theorem lp_lev (s:Site)(hF:s.Fit)(b:Block)(e:Env)(H:Heap)(h2:Gs.get e 2 = .ptr 2 0)(h5:Gs.get e 5 = .ptr 5 0)(h6:Gs.get e 6=int 0)(hH2:hget H 2=some (.box s.cells false))(hH5:hget H 5=some (.box (bxc b.box) false)) :
   Ends T 67003 e H (fun X e' H'=>match s.benches.findIdx? (levP b) with | some j=>X = .ret∧Gs.get e' 4=int j | none=>X = .ex 0):=by
 have hbe:=hF.be
 refine (loop_thru (T:=T) (key:=67003) (li:=l67003.1) rfl (fun (i:Nat) (x:Bench)=>bif levP b x then .inl i else .inr (i + 1)) s.benches
   (fun i t e H=>t=i∧Gs.get e 2 = .ptr 2 0∧Gs.get e 5 = .ptr 5 0∧Gs.get e 6=int i∧hget H 2=some (.box s.cells false)∧hget H 5=some (.box (bxc b.box) false))
   (fun i X e' H'=>X = .ret∧Gs.get e' 4=int i) (fun s X e' H'=>X = .ex 0) ?_ ?_ ?_ s.benches [] 0 e H rfl ⟨rfl,h2,h5,h6,hH2,hH5⟩).mono fun X e' H' h=>?_
 · rintro i x t t' e H hx ⟨rfl,h2,h5,h6,hH2,hH5⟩ hf
   have hi:=(List.getElem?_eq_some_iff.1 hx).1
   have hx':(s.benches.map Bench.enc)[t]?=some x.enc:=by simp [hx]
   have hn:levP b x=false:=by cases hb:levP b x<;>simp_all
   rw [hn] at hf
   injection hf with hf; subst hf
   unfold levP at hn
   simp only [↓eA,eB,seval,l67003,h2,h5,h6,hH2,hH5,hi,hx',hn,wrap_succ (show t < 4611686018427387904 by omega)]
   and_intros<;>first | trivial | rfl
 · rintro i x t r e H hx ⟨rfl,h2,h5,h6,hH2,hH5⟩ hf
   have hi:=(List.getElem?_eq_some_iff.1 hx).1
   have hx':(s.benches.map Bench.enc)[t]?=some x.enc:=by simp [hx]
   have hn:levP b x=true:=by cases hb:levP b x<;>simp_all
   rw [hn] at hf
   injection hf with hf; subst hf
   unfold levP at hn
   simp only [↓eA,eB,seval,l67003,h2,h5,h6,hH2,hH5,hi,hx',hn]
   and_intros<;>first | trivial | rfl
 · rintro t e H ⟨rfl,h2,h5,h6,hH2,hH5⟩
   simp only [↓eA,eB,seval,l67003,h2,h5,h6,hH2,hH5,Nat.lt_irrefl]
   and_intros<;>first | trivial | rfl
 · rw [thru_idx] at h
   cases hd:s.benches.findIdx? (levP b)<;>rw [hd] at h
   · exact h
   · simpa using h
theorem e_rLevel (s:Site)(hF:s.Fit)(i:Nat)(b:Block)(hx:s.blocks[i]?=some b):L.call 67 [s.enc,int i] []=some (int (idxOf (levP b) s.benches),[]):=
 call_eq rfl rfl (by
   have hi:=(List.getElem?_eq_some_iff.1 hx).1
   have hx':(s.blocks.map Block.enc)[i]?=some b.enc:=by simp [hx]
   simp only [↓eA,eB,seval,c67,hi,hx',List.length_map]
   generalize hE:(lim T).loop 67003 _ _=R
   obtain ⟨X,e',H',rfl,hp⟩:=Ends.at hE (lp_lev s hF b _ _ (by simp only [↓eA,eB,seval]) (by simp only [↓eA,eB,seval]) (by simp only [↓eA,eB,seval]) rfl rfl)
   unfold idxOf
   cases hf:s.benches.findIdx? (levP b) with
   | some j=>rw [hf] at hp; obtain ⟨rfl,g4⟩:=hp; simp only [↓eA,eB,seval,g4]
   | none=>rw [hf] at hp; subst hp; simp only [↓eA,eB,seval])
def overB (a b:Box):Bool:=(flat2 a b && decide (a.z0 < b.z1)) && decide (b.z0 < a.z1)
theorem e_rOverlap (a b:Box):L.call 95 [a.enc,b.enc] []=some (.bool (overB a b),[]):=
 call_eq rfl rfl (by simp only [↓eA,eB,seval,c95,e_rFlat a b]; rfl)
def benchRev (b:Bench):Bool:=decide (b.hi≤b.lo)
def blkBad (b:Block):Bool:=!b.box.ok
def blkOut (s:Site)(b:Block):Bool:=!b.box.inside s.survey.pit
def noLev (s:Site)(b:Block):Bool:=!s.benches.any (levP b)
theorem lp_p1 (s:Site)(hF:s.Fit)(e:Env)(h1:Gs.get e 1 = .ptr 1 0)(hi:Gs.get e 3=int 0) :
   Ends T 47002 e (Hst s) (fun X e' H'=>H'=Hst s∧match s.benches.any benchRev with | true=>X = .ret∧Gs.get e' 2=int 1 | false=>X = .ex 0∧Gs.get e' 1 = .ptr 1 0):=by
 have hbb:=hF.be
 refine loop_any (T:=T) (key:=47002) (li:=l47002.1) rfl s.benches benchRev (Hst s) (fun i e=>Gs.get e 1 = .ptr 1 0∧Gs.get e 3=int i)
   (fun X e'=>X = .ret∧Gs.get e' 2=int 1) (fun X e'=>X = .ex 0∧Gs.get e' 1 = .ptr 1 0) ?_ ?_ e ⟨h1,hi⟩
 · rintro i b e hx hi ⟨h1,h3⟩
   have hx':(s.benches.map Bench.enc)[i]?=some b.enc:=by simp [hx]
   have hq:=trivial
   cases hp:benchRev b<;>unfold benchRev at hp<;>(try simp only [Bool.not_eq_true',Bool.not_eq_false'] at hp)<;>simp only [↓eA,eB,seval,l47002,h1,h3,hi,hx',hp,hq,wrap_succ (show i < 4611686018427387904 by omega)]<;>and_intros<;>first | trivial | rfl
 · rintro e ⟨h1,h3⟩
   simp only [↓eA,eB,seval,l47002,h1,h3,Nat.lt_irrefl]
   and_intros<;>first | trivial | rfl
theorem lp_p2 (s:Site)(hF:s.Fit)(e:Env)(h1:Gs.get e 1 = .ptr 1 0)(hi:Gs.get e 4=int 0) :
   Ends T 47007 e (Hst s) (fun X e' H'=>H'=Hst s∧match s.blocks.any blkBad with | true=>X = .ret∧Gs.get e' 2=int 1 | false=>X = .ex 2∧Gs.get e' 1 = .ptr 1 0):=by
 have hbb:=hF.bl
 refine loop_any (T:=T) (key:=47007) (li:=l47007.1) rfl s.blocks blkBad (Hst s) (fun i e=>Gs.get e 1 = .ptr 1 0∧Gs.get e 4=int i)
   (fun X e'=>X = .ret∧Gs.get e' 2=int 1) (fun X e'=>X = .ex 2∧Gs.get e' 1 = .ptr 1 0) ?_ ?_ e ⟨h1,hi⟩
 · rintro i b e hx hi ⟨h1,h3⟩
   have hx':(s.blocks.map Block.enc)[i]?=some b.enc:=by simp [hx]
   have hq:=e_rProper b.box
   cases hp:blkBad b<;>unfold blkBad at hp<;>(try simp only [Bool.not_eq_true',Bool.not_eq_false'] at hp)<;>simp only [↓eA,eB,seval,l47007,h1,h3,hi,hx',hp,hq,wrap_succ (show i < 4611686018427387904 by omega)]<;>and_intros<;>first | trivial | rfl
 · rintro e ⟨h1,h3⟩
   simp only [↓eA,eB,seval,l47007,h1,h3,Nat.lt_irrefl]
   and_intros<;>first | trivial | rfl
theorem lp_p3 (s:Site)(hF:s.Fit)(e:Env)(h1:Gs.get e 1 = .ptr 1 0)(hi:Gs.get e 5=int 0) :
   Ends T 47012 e (Hst s) (fun X e' H'=>H'=Hst s∧match s.benches.any (benchOut s) with | true=>X = .ret∧Gs.get e' 2=int 12 | false=>X = .ex 4∧Gs.get e' 1 = .ptr 1 0):=by
 have hbb:=hF.be
 refine loop_any (T:=T) (key:=47012) (li:=l47012.1) rfl s.benches (benchOut s) (Hst s) (fun i e=>Gs.get e 1 = .ptr 1 0∧Gs.get e 5=int i)
   (fun X e'=>X = .ret∧Gs.get e' 2=int 12) (fun X e'=>X = .ex 4∧Gs.get e' 1 = .ptr 1 0) ?_ ?_ e ⟨h1,hi⟩
 · rintro i b e hx hi ⟨h1,h3⟩
   have hx':(s.benches.map Bench.enc)[i]?=some b.enc:=by simp [hx]
   have hq:=trivial
   cases hp:(benchOut s) b<;>unfold benchOut at hp<;>(try simp only [Bool.not_eq_true',Bool.not_eq_false'] at hp)<;>simp only [↓eA,eB,seval,l47012,h1,h3,hi,hx',hp,hq,wrap_succ (show i < 4611686018427387904 by omega)]<;>and_intros<;>first | trivial | rfl
 · rintro e ⟨h1,h3⟩
   simp only [↓eA,eB,seval,l47012,h1,h3,Nat.lt_irrefl]
   and_intros<;>first | trivial | rfl
theorem lp_p4 (s:Site)(hF:s.Fit)(e:Env)(h1:Gs.get e 1 = .ptr 1 0)(hi:Gs.get e 6=int 0) :
   Ends T 47017 e (Hst s) (fun X e' H'=>H'=Hst s∧match s.blocks.any (blkOut s) with | true=>X = .ret∧Gs.get e' 2=int 12 | false=>X = .ex 6∧Gs.get e' 1 = .ptr 1 0):=by
 have hbb:=hF.bl
 refine loop_any (T:=T) (key:=47017) (li:=l47017.1) rfl s.blocks (blkOut s) (Hst s) (fun i e=>Gs.get e 1 = .ptr 1 0∧Gs.get e 6=int i)
   (fun X e'=>X = .ret∧Gs.get e' 2=int 12) (fun X e'=>X = .ex 6∧Gs.get e' 1 = .ptr 1 0) ?_ ?_ e ⟨h1,hi⟩
 · rintro i b e hx hi ⟨h1,h3⟩
   have hx':(s.blocks.map Block.enc)[i]?=some b.enc:=by simp [hx]
   have hq:=e_rInside b.box s.survey.pit
   cases hp:(blkOut s) b<;>unfold blkOut at hp<;>(try simp only [Bool.not_eq_true',Bool.not_eq_false'] at hp)<;>simp only [↓eA,eB,seval,l47017,h1,h3,hi,hx',hp,hq,wrap_succ (show i < 4611686018427387904 by omega)]<;>and_intros<;>first | trivial | rfl
 · rintro e ⟨h1,h3⟩
   simp only [↓eA,eB,seval,l47017,h1,h3,Nat.lt_irrefl]
   and_intros<;>first | trivial | rfl
theorem lp_p8 (s:Site)(hF:s.Fit)(e:Env)(h1:Gs.get e 1 = .ptr 1 0)(hi:Gs.get e 11=int 0) :
   Ends T 47040 e (Hst s) (fun X e' H'=>H'=Hst s∧match s.blocks.any (noLev s) with | true=>X = .ret∧Gs.get e' 2=int 10 | false=>X = .ex 16∧Gs.get e' 1 = .ptr 1 0):=by
 have hbb:=hF.bl
 refine loop_any (T:=T) (key:=47040) (li:=l47040.1) rfl s.blocks (noLev s) (Hst s) (fun i e=>Gs.get e 1 = .ptr 1 0∧Gs.get e 11=int i)
   (fun X e'=>X = .ret∧Gs.get e' 2=int 10) (fun X e'=>X = .ex 16∧Gs.get e' 1 = .ptr 1 0) ?_ ?_ e ⟨h1,hi⟩
 · rintro i b e hx hi ⟨h1,h3⟩
   have hq:=e_rLevel s hF i b hx
   have hz:=idx_lt0 (levP b) s.benches
   unfold noLev
   cases hp:s.benches.any (levP b)<;>rw [hp] at hz<;>simp only [↓eA,eB,seval,l47040,h1,h3,hi,hq,hz,hp,wrap_succ (show i < 4611686018427387904 by omega)]<;>and_intros<;>first | trivial | rfl
 · rintro e ⟨h1,h3⟩
   simp only [↓eA,eB,seval,l47040,h1,h3,Nat.lt_irrefl]
   and_intros<;>first | trivial | rfl
theorem lp_p5 (s:Site)(hF:s.Fit)(e:Env)(h1:Gs.get e 1 = .ptr 1 0)(hi:Gs.get e 7=int (1:Nat)) :
   Ends T 47022 e (Hst s) (fun X e' H'=>H'=Hst s∧match steps s.benches geBench with | true=>X = .ret∧Gs.get e' 2=int 11 | false=>X = .ex 8∧Gs.get e' 1 = .ptr 1 0):=by
 have hb:=hF.be
 refine loop_fr (T:=T) (key:=47022) (li:=l47022.1) rfl 1 s.benches.length (badIx s.benches geBench) (Hst s) (fun k e=>Gs.get e 1 = .ptr 1 0∧Gs.get e 7=int k) (fun X e'=>X = .ret∧Gs.get e' 2=int 11) (fun X e'=>X = .ex 8∧Gs.get e' 1 = .ptr 1 0) ?_ ?_ e ⟨h1,hi⟩
 · rintro k e hk hlt ⟨h1,h3⟩
   obtain ⟨y,hy⟩:∃ y,s.benches[k]?=some y:=⟨_,List.getElem?_eq_getElem (by omega)⟩
   obtain ⟨p,hp⟩:∃ p,s.benches[k - 1]?=some p:=⟨_,List.getElem?_eq_getElem (by omega)⟩
   have hil:k - 1 < s.benches.length:=by omega
   have hy':(s.benches.map Bench.enc)[k]?=some y.enc:=by simp [hy]
   have hp':(s.benches.map Bench.enc)[k - 1]?=some p.enc:=by simp [hp]
   have hbd:badIx s.benches geBench k=geBench p y:=by simp only [badIx,hy,hp]
   rw [hbd]
   simp only [↓eA,eB,seval,l47022,h1,h3,hlt,hil,hy',hp',wrap_pred (show 0 < k by omega) (show k < 4611686018427387904 by omega),wrap_succ (show k < 4611686018427387904 by omega)]
   cases hc:geBench p y<;>(try simp only [Bool.not_eq_true',Bool.not_eq_false'] at hc)<;>simp only [↓eA,eB,seval,hc]<;>and_intros<;>first | trivial | rfl
 · rintro k e hk _ ⟨h1,h3⟩
   have hlt:¬ k < s.benches.length:=by omega
   simp only [↓eA,eB,seval,l47022,h1,h3,hlt]
   and_intros<;>first | trivial | rfl
theorem lp_p7 (s:Site)(hF:s.Fit)(e:Env)(h1:Gs.get e 1 = .ptr 1 0)(hi:Gs.get e 10=int (1:Nat)) :
   Ends T 47035 e (Hst s) (fun X e' H'=>H'=Hst s∧match steps s.blocks geBlock with | true=>X = .ret∧Gs.get e' 2=int 5 | false=>X = .ex 14∧Gs.get e' 1 = .ptr 1 0):=by
 have hb:=hF.bl
 refine loop_fr (T:=T) (key:=47035) (li:=l47035.1) rfl 1 s.blocks.length (badIx s.blocks geBlock) (Hst s) (fun k e=>Gs.get e 1 = .ptr 1 0∧Gs.get e 10=int k) (fun X e'=>X = .ret∧Gs.get e' 2=int 5) (fun X e'=>X = .ex 14∧Gs.get e' 1 = .ptr 1 0) ?_ ?_ e ⟨h1,hi⟩
 · rintro k e hk hlt ⟨h1,h3⟩
   obtain ⟨y,hy⟩:∃ y,s.blocks[k]?=some y:=⟨_,List.getElem?_eq_getElem (by omega)⟩
   obtain ⟨p,hp⟩:∃ p,s.blocks[k - 1]?=some p:=⟨_,List.getElem?_eq_getElem (by omega)⟩
   have hil:k - 1 < s.blocks.length:=by omega
   have hy':(s.blocks.map Block.enc)[k]?=some y.enc:=by simp [hy]
   have hp':(s.blocks.map Block.enc)[k - 1]?=some p.enc:=by simp [hp]
   have hbd:badIx s.blocks geBlock k=geBlock p y:=by simp only [badIx,hy,hp]
   rw [hbd]
   simp only [↓eA,eB,seval,l47035,h1,h3,hlt,hil,hy',hp',wrap_pred (show 0 < k by omega) (show k < 4611686018427387904 by omega),wrap_succ (show k < 4611686018427387904 by omega)]
   cases hc:geBlock p y<;>(try simp only [Bool.not_eq_true',Bool.not_eq_false'] at hc)<;>simp only [↓eA,eB,seval,hc]<;>and_intros<;>first | trivial | rfl
 · rintro k e hk _ ⟨h1,h3⟩
   have hlt:¬ k < s.blocks.length:=by omega
   simp only [↓eA,eB,seval,l47035,h1,h3,hlt]
   and_intros<;>first | trivial | rfl
def nameP (b c:Bench):Bool:=seq b.name c.name
def lapP (b c:Block):Bool:=overB b.box c.box
theorem lp_p6i (s:Site)(hF:s.Fit)(i:Nat)(x:Bench)(hx:s.benches[i]?=some x)(e:Env)(h1:Gs.get e 1 = .ptr 1 0)(ho:Gs.get e 8=int i)(hi:Gs.get e 9=int 0) :
   Ends T 47030 e (Hst s) (fun X e' H'=>H'=Hst s∧match (s.benches.take i).any (nameP x) with | true=>X = .ret∧Gs.get e' 2=int 5 | false=>X = .ex 12∧Gs.get e' 1 = .ptr 1 0∧Gs.get e' 8=int i):=by
 have hbb:=hF.be
 have hil:=(List.getElem?_eq_some_iff.1 hx).1
 have hxx:(s.benches.map Bench.enc)[i]?=some x.enc:=by simp [hx]
 refine loop_any (T:=T) (key:=47030) (li:=l47030.1) rfl (s.benches.take i) (nameP x) (Hst s) (fun k e=>Gs.get e 1 = .ptr 1 0∧Gs.get e 8=int i∧Gs.get e 9=int k)
   (fun X e'=>X = .ret∧Gs.get e' 2=int 5) (fun X e'=>X = .ex 12∧Gs.get e' 1 = .ptr 1 0∧Gs.get e' 8=int i) ?_ ?_ e ⟨h1,ho,hi⟩
 · rintro k c e hc hk ⟨h1,ho,h3⟩
   rw [List.length_take] at hk
   have hki:k < i:=by omega
   have hkl:k < s.benches.length:=by omega
   rw [List.getElem?_take_of_lt hki] at hc
   have hc':(s.benches.map Bench.enc)[k]?=some c.enc:=by simp [hc]
   have hq:=trivial
   cases hp:nameP x c<;>unfold nameP at hp<;>simp only [↓eA,eB,seval,l47030,h1,ho,h3,hki,hkl,hil,hxx,hc',hp,hq,wrap_succ (show k < 4611686018427387904 by omega)]<;>and_intros<;>first | trivial | rfl
 · rintro e ⟨h1,ho,h3⟩
   rw [List.length_take] at h3
   have hn:min i s.benches.length=i:=by omega
   rw [hn] at h3
   simp only [↓eA,eB,seval,l47030,h1,ho,h3,Nat.lt_irrefl]
   and_intros<;>first | trivial | rfl
theorem lp_p6 (s:Site)(hF:s.Fit)(e:Env)(h1:Gs.get e 1 = .ptr 1 0)(hi:Gs.get e 8=int 0) :
   Ends T 47027 e (Hst s) (fun X e' H'=>match prF nameP [] s.benches with | true=>X = .ret∧Gs.get e' 2=int 5 | false=>X = .ex 10∧Gs.get e' 1 = .ptr 1 0∧H'=Hst s):=by
 have hbb:=hF.be
 refine (loop_thru (T:=T) (key:=47027) (li:=l47027.1) rfl (fun (t:List Bench) b=>bif t.any (nameP b) then .inl () else .inr (t ++ [b])) s.benches
   (fun i t e H=>Gs.get e 1 = .ptr 1 0∧Gs.get e 8=int i∧H=Hst s∧t=s.benches.take i)
   (fun _ X e' H'=>X = .ret∧Gs.get e' 2=int 5) (fun t X e' H'=>X = .ex 10∧Gs.get e' 1 = .ptr 1 0∧H'=Hst s) ?_ ?_ ?_ s.benches [] [] e (Hst s) rfl ⟨h1,hi,rfl,rfl⟩).mono fun X e' H' h=>?_
 · rintro i b t t' e H hx ⟨h1,ho,rfl,rfl⟩ hf
   have hi:=(List.getElem?_eq_some_iff.1 hx).1
   have hn:(s.benches.take i).any (nameP b)=false:=by cases hb:(s.benches.take i).any (nameP b)<;>simp_all
   rw [hn] at hf
   injection hf with hf
   simp only [↓eA,eB,seval,l47027,h1,ho,hi]
   generalize hE:(lim T).loop 47030 _ _=R
   obtain ⟨X,e',H',rfl,rfl,hp⟩:=Ends.at hE (lp_p6i s hF i b hx _ (by simp only [↓eA,eB,seval,h1]) (by simp only [↓eA,eB,seval,ho]) (by simp only [↓eA,eB,seval]))
   rw [hn] at hp
   obtain ⟨rfl,g1,g8⟩:=hp
   simp only [↓eA,eB,seval,g1,g8,wrap_succ (show i < 4611686018427387904 by omega)]
   refine ⟨trivial,trivial,trivial,trivial,?_⟩
   rw [←hf,List.take_add_one,hx]; rfl
 · rintro i b t r e H hx ⟨h1,ho,rfl,rfl⟩ hf
   have hi:=(List.getElem?_eq_some_iff.1 hx).1
   have hn:(s.benches.take i).any (nameP b)=true:=by cases hb:(s.benches.take i).any (nameP b)<;>simp_all
   simp only [↓eA,eB,seval,l47027,h1,ho,hi]
   generalize hE:(lim T).loop 47030 _ _=R
   obtain ⟨X,e',H',rfl,rfl,hp⟩:=Ends.at hE (lp_p6i s hF i b hx _ (by simp only [↓eA,eB,seval,h1]) (by simp only [↓eA,eB,seval,ho]) (by simp only [↓eA,eB,seval]))
   rw [hn] at hp
   obtain ⟨rfl,g2⟩:=hp
   simp only [↓eA,eB,seval,g2]
   and_intros<;>first | trivial | rfl
 · rintro t e H ⟨h1,ho,rfl,ht⟩
   simp only [↓eA,eB,seval,l47027,h1,ho,Nat.lt_irrefl]
   and_intros<;>first | trivial | rfl
 · rw [thru_pr] at h
   cases hd:prF nameP [] s.benches<;>rw [hd] at h<;>exact h
theorem lp_p9i (s:Site)(hF:s.Fit)(i:Nat)(x:Block)(hx:s.blocks[i]?=some x)(e:Env)(h1:Gs.get e 1 = .ptr 1 0)(ho:Gs.get e 12=int i)(hi:Gs.get e 13=int 0) :
   Ends T 47048 e (Hst s) (fun X e' H'=>H'=Hst s∧match (s.blocks.take i).any (lapP x) with | true=>X = .ret∧Gs.get e' 2=int 11 | false=>X = .ex 20∧Gs.get e' 1 = .ptr 1 0∧Gs.get e' 12=int i):=by
 have hbb:=hF.bl
 have hil:=(List.getElem?_eq_some_iff.1 hx).1
 have hxx:(s.blocks.map Block.enc)[i]?=some x.enc:=by simp [hx]
 refine loop_any (T:=T) (key:=47048) (li:=l47048.1) rfl (s.blocks.take i) (lapP x) (Hst s) (fun k e=>Gs.get e 1 = .ptr 1 0∧Gs.get e 12=int i∧Gs.get e 13=int k)
   (fun X e'=>X = .ret∧Gs.get e' 2=int 11) (fun X e'=>X = .ex 20∧Gs.get e' 1 = .ptr 1 0∧Gs.get e' 12=int i) ?_ ?_ e ⟨h1,ho,hi⟩
 · rintro k c e hc hk ⟨h1,ho,h3⟩
   rw [List.length_take] at hk
   have hki:k < i:=by omega
   have hkl:k < s.blocks.length:=by omega
   rw [List.getElem?_take_of_lt hki] at hc
   have hc':(s.blocks.map Block.enc)[k]?=some c.enc:=by simp [hc]
   have hq:=e_rOverlap x.box c.box
   cases hp:lapP x c<;>unfold lapP at hp<;>simp only [↓eA,eB,seval,l47048,h1,ho,h3,hki,hkl,hil,hxx,hc',hp,hq,wrap_succ (show k < 4611686018427387904 by omega)]<;>and_intros<;>first | trivial | rfl
 · rintro e ⟨h1,ho,h3⟩
   rw [List.length_take] at h3
   have hn:min i s.blocks.length=i:=by omega
   rw [hn] at h3
   simp only [↓eA,eB,seval,l47048,h1,ho,h3,Nat.lt_irrefl]
   and_intros<;>first | trivial | rfl
theorem lp_p9 (s:Site)(hF:s.Fit)(e:Env)(h1:Gs.get e 1 = .ptr 1 0)(hi:Gs.get e 12=int 0) :
   Ends T 47045 e (Hst s) (fun X e' H'=>match prF lapP [] s.blocks with | true=>X = .ret∧Gs.get e' 2=int 11 | false=>X = .ex 18∧Gs.get e' 1 = .ptr 1 0∧H'=Hst s):=by
 have hbb:=hF.bl
 refine (loop_thru (T:=T) (key:=47045) (li:=l47045.1) rfl (fun (t:List Block) b=>bif t.any (lapP b) then .inl () else .inr (t ++ [b])) s.blocks
   (fun i t e H=>Gs.get e 1 = .ptr 1 0∧Gs.get e 12=int i∧H=Hst s∧t=s.blocks.take i)
   (fun _ X e' H'=>X = .ret∧Gs.get e' 2=int 11) (fun t X e' H'=>X = .ex 18∧Gs.get e' 1 = .ptr 1 0∧H'=Hst s) ?_ ?_ ?_ s.blocks [] [] e (Hst s) rfl ⟨h1,hi,rfl,rfl⟩).mono fun X e' H' h=>?_
 · rintro i b t t' e H hx ⟨h1,ho,rfl,rfl⟩ hf
   have hi:=(List.getElem?_eq_some_iff.1 hx).1
   have hn:(s.blocks.take i).any (lapP b)=false:=by cases hb:(s.blocks.take i).any (lapP b)<;>simp_all
   rw [hn] at hf
   injection hf with hf
   simp only [↓eA,eB,seval,l47045,h1,ho,hi]
   generalize hE:(lim T).loop 47048 _ _=R
   obtain ⟨X,e',H',rfl,rfl,hp⟩:=Ends.at hE (lp_p9i s hF i b hx _ (by simp only [↓eA,eB,seval,h1]) (by simp only [↓eA,eB,seval,ho]) (by simp only [↓eA,eB,seval]))
   rw [hn] at hp
   obtain ⟨rfl,g1,g8⟩:=hp
   simp only [↓eA,eB,seval,g1,g8,wrap_succ (show i < 4611686018427387904 by omega)]
   refine ⟨trivial,trivial,trivial,trivial,?_⟩
   rw [←hf,List.take_add_one,hx]; rfl
 · rintro i b t r e H hx ⟨h1,ho,rfl,rfl⟩ hf
   have hi:=(List.getElem?_eq_some_iff.1 hx).1
   have hn:(s.blocks.take i).any (lapP b)=true:=by cases hb:(s.blocks.take i).any (lapP b)<;>simp_all
   simp only [↓eA,eB,seval,l47045,h1,ho,hi]
   generalize hE:(lim T).loop 47048 _ _=R
   obtain ⟨X,e',H',rfl,rfl,hp⟩:=Ends.at hE (lp_p9i s hF i b hx _ (by simp only [↓eA,eB,seval,h1]) (by simp only [↓eA,eB,seval,ho]) (by simp only [↓eA,eB,seval]))
   rw [hn] at hp
   obtain ⟨rfl,g2⟩:=hp
   simp only [↓eA,eB,seval,g2]
   and_intros<;>first | trivial | rfl
 · rintro t e H ⟨h1,ho,rfl,ht⟩
   simp only [↓eA,eB,seval,l47045,h1,ho,Nat.lt_irrefl]
   and_intros<;>first | trivial | rfl
 · rw [thru_pr] at h
   cases hd:prF lapP [] s.blocks<;>rw [hd] at h<;>exact h
end Tz.C18
set_option maxRecDepth 100000
open Gs Go
namespace Tz
def ivFarR (x:Int×Int):Bool:=decide (x.1 < -1000000000000) || decide (1000000000000 < x.1) || decide (x.2 < -1000000000000) || decide (1000000000000 < x.2)
theorem e_rIvOut (x:Int×Int):L.call 269 [.agg [int x.1,int x.2]] []=some (.bool (ivFarR x),[]):=
 call_eq rfl rfl (by simp only [↓eA,eB,seval,c269]; rfl)
theorem ivFarR_eq (x:Int×Int):ivFarR x=ivFar x:=by
 unfold ivFarR ivFar
 rw [Bool.eq_iff_iff]
 simp only [Bool.or_eq_true,decide_eq_true_eq,Bool.not_eq_true',Bool.and_eq_false_iff,decide_eq_false_iff_not]
 omega
theorem lp_a1 (nz:Bool)(l:List (Int×Int))(hb:l.length < 4000000000)(e:Env)(H:Heap)(h0:Gs.get e 0 = .fz nz 2 (l.map ivD))(h3:Gs.get e 3=int 0) :
   Ends T 260002 e H (fun X e' H'=>match l.any ivFarR with | true=>X = .ret∧Gs.get e' 2=int 6 | false=>X = .ex 0∧Gs.get e' 0 = .fz nz 2 (l.map ivD)∧H'=[]):=by
 refine loop_anyH (T:=T) (key:=260002) (li:=l260002.1) rfl l ivFarR (fun i e H=>Gs.get e 0 = .fz nz 2 (l.map ivD)∧Gs.get e 3=int i) (fun X e' H'=>X = .ret∧Gs.get e' 2=int 6) (fun X e' H'=>X = .ex 0∧Gs.get e' 0 = .fz nz 2 (l.map ivD)∧H'=[]) ?_ ?_ e H ⟨h0,h3⟩
 · rintro i x e H hx hi ⟨h0,h3⟩
   have hx':(l.map ivD)[i]?=some (.agg [int x.1,int x.2]):=by simp [hx,ivD]
   simp only [↓eA,eB,seval,l260002,h0,h3,hi,hx',e_rIvOut,wrap_succ (show i < 4611686018427387904 by omega)]
   cases hc:ivFarR x<;>simp only [↓eA,eB,seval,hc]<;>and_intros<;>first | trivial | rfl
 · rintro e H ⟨h0,h3⟩
   simp only [↓eA,eB,seval,l260002,h0,h3,Nat.lt_irrefl]
   and_intros<;>first | trivial | rfl
theorem lp_a2 (nz:Bool)(l:List (Int×Int))(hb:l.length < 4000000000)(e:Env)(H:Heap)(h0:Gs.get e 0 = .fz nz 2 (l.map ivD))(h3:Gs.get e 4=int 0) :
   Ends T 260007 e H (fun X e' H'=>match l.any ivRev with | true=>X = .ret∧Gs.get e' 2=int 1 | false=>X = .ex 2):=by
 refine loop_anyH (T:=T) (key:=260007) (li:=l260007.1) rfl l ivRev (fun i e H=>Gs.get e 0 = .fz nz 2 (l.map ivD)∧Gs.get e 4=int i) (fun X e' H'=>X = .ret∧Gs.get e' 2=int 1) (fun X e' H'=>X = .ex 2) ?_ ?_ e H ⟨h0,h3⟩
 · rintro i x e H hx hi ⟨h0,h3⟩
   have hx':(l.map ivD)[i]?=some (.agg [int x.1,int x.2]):=by simp [hx,ivD]
   simp only [↓eA,eB,seval,l260007,h0,h3,hi,hx',wrap_succ (show i < 4611686018427387904 by omega)]
   cases hc:ivRev x<;>simp only [ivRev] at hc<;>simp only [↓eA,eB,seval,hc]<;>and_intros<;>first | trivial | rfl
 · rintro e H ⟨h0,h3⟩
   simp only [↓eA,eB,seval,l260007,h0,h3,Nat.lt_irrefl]
   and_intros<;>first | trivial | rfl
theorem any_far (l:List (Int×Int)):l.any ivFarR=l.any ivFar:=by congr 1; funext x; exact ivFarR_eq x
theorem e_all (nz:Bool)(l:List (Int×Int))(hb:l.length < 4000000000):L.call 260 [.fz nz 2 (l.map ivD)] []=some (int (ivErr l),[]):=
 call_eq rfl rfl (by
   unfold ivErr
   simp only [↓eA,eB,seval,c260]
   generalize hE:(lim T).loop 260002 _ _=R
   obtain ⟨X,e',H',rfl,hP⟩:=Ends.at hE (lp_a1 nz l hb _ _ rfl rfl)
   rw [any_far] at hP
   cases hc:l.any ivFar with
   | true=>rw [hc] at hP; obtain ⟨rfl,g⟩:=hP; simp only [↓eA,eB,seval,g]
   | false=>
     rw [hc] at hP; obtain ⟨rfl,g0,rfl⟩:=hP
     simp only [↓eA,eB,seval,g0]
     generalize hE:(lim T).loop 260007 _ _=R
     obtain ⟨X,e',H',rfl,hP⟩:=Ends.at hE (lp_a2 nz l hb _ _ (by simp only [↓eA,eB,seval,g0]) (by simp only [↓eA,eB,seval]))
     cases hc:l.any ivRev with
     | true=>rw [hc] at hP; obtain ⟨rfl,g⟩:=hP; simp only [↓eA,eB,seval,g]
     | false=>rw [hc] at hP; subst hP; simp only [↓eA,eB,seval])
def listsErr (a b:List (Int×Int)):Int:=bif decide (10000 < (a.length:Int)) || decide (10000 < (b.length:Int)) then 7 else ivErr (a ++ b)
theorem e_rLists (n1 n2:Bool)(a b:List (Int×Int))(hb:a.length + b.length < 4000000000):L.call 250 [.fz n1 2 (a.map ivD),.fz n2 2 (b.map ivD)] []=some (int (listsErr a b),[]):=
 call_eq rfl rfl (by
   have h1:fits (0 + a.length) 16=true:=by simp [fits]; omega
   have h2:fits (a.length + b.length) 16=true:=by simp [fits]; omega
   have hm:List.map ivD a ++ List.map ivD b=List.map ivD (a ++ b):=by simp
   unfold listsErr
   have hal:=e_all false (a ++ b) (by simp; omega)
   cases hc:(decide (10000 < (a.length:Int)) || decide (10000 < (b.length:Int))) with
   | true=>simp only [↓eA,eB,seval,c250,hc]
   | false=>simp only [↓eA,eB,seval,c250,hc,h1,h2,hm,hal])
def tw (l:List Int)(x:Int):Nat:=(l.takeWhile fun y=>decide (y < x)).length
def addL (l:List Int)(x:Int):List Int:=if l[tw l x]?=some x then l else l.take (tw l x) ++ [x] ++ l.drop (tw l x)
abbrev ints (l:List Int):List D:=l.map int
theorem lp_ad (nz:Bool)(l:List Int)(x:Int)(hb:l.length < 4000000000)(e:Env)(H:Heap)(h0:Gs.get e 0 = .fz nz 1 (ints l))(h1:Gs.get e 1=int x)(h5:Gs.get e 5=int (0:Nat)) :
   Ends T 270002 e H (fun X e' H'=>X = .ex 0∧Gs.get e' 0 = .fz nz 1 (ints l)∧Gs.get e' 1=int x∧Gs.get e' 5=int (tw l x)∧H'=[]):=by
 refine (loop_thru (T:=T) (key:=270002) (li:=l270002.1) rfl (S:=Nat) (R:=Nat) (fun n y=>bif decide (y < x) then .inr (n + 1) else .inl n) l (fun i n e H=>n=i∧Gs.get e 0 = .fz nz 1 (ints l)∧Gs.get e 1=int x∧Gs.get e 5=int n) (fun n X e' H'=>X = .ex 0∧Gs.get e' 0 = .fz nz 1 (ints l)∧Gs.get e' 1=int x∧Gs.get e' 5=int n∧H'=[]) (fun n X e' H'=>X = .ex 0∧Gs.get e' 0 = .fz nz 1 (ints l)∧Gs.get e' 1=int x∧Gs.get e' 5=int n∧H'=[]) ?_ ?_ ?_ l [] 0 e H rfl ⟨rfl,h0,h1,h5⟩).mono ?_
 · rintro i y n n' e H hx ⟨rfl,h0,h1,h5⟩ hf
   have hi:n < l.length:=(List.getElem?_eq_some_iff.1 hx).1
   have hx':(ints l)[n]?=some (int y):=by simp [ints,hx]
   cases hc:decide (y < x) with
   | false=>rw [hc] at hf; cases hf
   | true=>
     rw [hc] at hf; injection hf with hf; subst hf
     simp only [↓eA,eB,seval,l270002,h0,h1,h5,hi,hx',hc,wrap_succ (show n < 4611686018427387904 by omega)]
     and_intros<;>first | trivial | rfl
 · rintro i y n n' e H hx ⟨rfl,h0,h1,h5⟩ hf
   have hi:n < l.length:=(List.getElem?_eq_some_iff.1 hx).1
   have hx':(ints l)[n]?=some (int y):=by simp [ints,hx]
   cases hc:decide (y < x) with
   | true=>rw [hc] at hf; cases hf
   | false=>
     rw [hc] at hf; injection hf with hf; subst hf
     simp only [↓eA,eB,seval,l270002,h0,h1,h5,hi,hx',hc]
     and_intros<;>first | trivial | rfl
 · rintro n e H ⟨rfl,h0,h1,h5⟩
   simp only [↓eA,eB,seval,l270002,h0,h1,h5,Nat.lt_irrefl]
   and_intros<;>first | trivial | rfl
 · intro X e' H' h
   have:∀ (l:List Int) (s:Nat),thru (S:=Nat) (R:=Nat) (fun n y=>bif decide (y < x) then .inr (n + 1) else .inl n) l s = .inl (s + tw l x)∨thru (S:=Nat) (R:=Nat) (fun n y=>bif decide (y < x) then .inr (n + 1) else .inl n) l s = .inr (s + tw l x):=by
     intro l
     induction l with
     | nil=>intro s; exact .inr rfl
     | cons y r ih=>
       intro s
       cases hc:decide (y < x) with
       | false=>left; simp [thru,hc,tw,List.takeWhile]
       | true=>
         have h2:s + tw (y :: r) x=s + 1 + tw r x:=by simp [tw,List.takeWhile,hc]; omega
         rw [h2]
         simpa [thru,hc] using ih (s + 1)
   rcases this l 0 with h2 | h2<;>rw [h2] at h<;>simpa using h
theorem tw_le (l:List Int)(x:Int):tw l x≤l.length:=(List.takeWhile_sublist _).length_le
theorem e_add (nz:Bool)(l:List Int)(x:Int)(hb:l.length < 4000000000):∃ nz',L.call 270 [.fz nz 1 (ints l),int x] []=some (.fz nz' 1 (ints (addL l x)),[]):=by
 have htl:=tw_le l x
 have hinc:inc 0 (tw l x)=true:=by simp [inc]
 have hcA:cut (ints l) 0 (tw l x)=ints (l.take (tw l x)):=by simp [cut,ints,List.map_take]
 have hcB:cut (ints l) (tw l x) (l.length - tw l x)=ints (l.drop (tw l x)):=by
   simp only [cut,ints,List.map_drop]
   rw [List.take_of_length_le (by simp)]
 have hAl:(l.take (tw l x)).length=tw l x:=by simp; omega
 have hBl:(l.drop (tw l x)).length=l.length - tw l x:=by simp
 have hlx:(ints (l.take (tw l x)) ++ [int x]).length=tw l x + 1:=by simp; omega
 have hf1:fits (0 + tw l x) 8=true:=by simp [fits]; omega
 have hf2:fits (tw l x + 1) 8=true:=by simp [fits]; omega
 have hf3:fits (tw l x + 1 + (l.length - tw l x)) 8=true:=by simp [fits]; omega
 have hmm:ints (l.take (tw l x)) ++ [int x] ++ ints (l.drop (tw l x))=ints (l.take (tw l x) ++ [x] ++ l.drop (tw l x)):=by simp [ints]
 generalize hE:(lim T).loop 270002 [(0,.fz nz 1 (ints l)),(1,int x),(4,.fz true 1 []),(5,.int .i64 0)] []=R
 obtain ⟨X,e',H',rfl,rfl,g0,g1,g5,rfl⟩:=Ends.at hE (lp_ad nz l x hb _ _ rfl rfl rfl)
 by_cases hlt:tw l x < l.length
 · obtain ⟨y,hy⟩:∃ y,l[tw l x]?=some y:=⟨_,List.getElem?_eq_getElem hlt⟩
   have hx':(ints l)[tw l x]?=some (int y):=by simp [ints,hy]
   cases hc:decide (y=x) with
   | true=>
     have hyx:y=x:=of_decide_eq_true hc
     refine ⟨nz,call_eq rfl rfl ?_⟩
     have ha:addL l x=l:=by unfold addL; rw [hy,hyx,if_pos rfl]
     rw [ha]
     simp only [↓eA,eB,seval,c270,hE,g0,g1,g5,get_wipeB,get_killE,killD,hlt,hx',hc]
   | false=>
     have hyx:¬ y=x:=of_decide_eq_false hc
     refine ⟨false,call_eq rfl rfl ?_⟩
     have ha:addL l x=l.take (tw l x) ++ [x] ++ l.drop (tw l x):=by unfold addL; rw [hy,if_neg (by simpa using hyx)]
     rw [ha]
     simp only [↓eA,eB,seval,c270,hE,g0,g1,g5,get_wipeB,get_killE,killD,hlt,hx',hc,htl,hinc,hcA,hcB,hf1,hf2,hf3,hlx,hAl,Nat.sub_zero,Nat.le_refl,hBl]
     rw [hmm]
 · refine ⟨false,call_eq rfl rfl ?_⟩
   have hte:tw l x=l.length:=by omega
   have ha:addL l x=l.take (tw l x) ++ [x] ++ l.drop (tw l x):=by unfold addL; rw [hte,List.getElem?_eq_none (Nat.le_refl _),if_neg (by simp)]
   rw [ha]
   simp only [↓eA,eB,seval,c270,hE,g0,g1,g5,get_wipeB,get_killE,killD,hlt,htl,hinc,hcA,hcB,hf1,hf2,hf3,hlx,hAl,Nat.sub_zero,Nat.le_refl,hBl]
   rw [hmm]
end Tz
set_option maxRecDepth 100000
open Gs Go
namespace Tz
theorem addL_len (l:List Int)(x:Int):(addL l x).length≤l.length + 1:=by
 have:=tw_le l x
 unfold addL
 split
 · omega
 · simp; omega
theorem addL_mem {l:List Int}{x y:Int}(h:y∈addL l x):y∈l∨y=x:=by
 unfold addL at h
 split at h
 · exact .inl h
 · simp only [List.mem_append,List.mem_singleton] at h
   rcases h with (h | h) | h
   · exact .inl (List.mem_of_mem_take h)
   · exact .inr h
   · exact .inl (List.mem_of_mem_drop h)
def estep (acc:List Int)(x:Int×Int):List Int:=addL (addL acc x.1) (x.2 + 1)
def endsL (l:List (Int×Int)):List Int:=l.foldl estep []
theorem lp_en (nz:Bool)(l:List (Int×Int))(hb:l.length < 1000000000)(hin:∀ p∈l,inB p)(e:Env)(H:Heap)(h0:Gs.get e 0 = .fz nz 2 (l.map ivD))(h3:Gs.get e 3 = .fz false 1 [])(h4:Gs.get e 4=int 0) :
   Ends T 261003 e H (fun X e' H'=>X = .ex 0∧∃ z,Gs.get e' 3 = .fz z 1 (ints (endsL l))):=by
 refine loop_fold (T:=T) (key:=261003) (li:=l261003.1) rfl l estep (fun i a e H=>a.length≤2 * i∧(∃ z,Gs.get e 3 = .fz z 1 (ints a))∧Gs.get e 0 = .fz nz 2 (l.map ivD)∧Gs.get e 4=int i) (fun a X e' H'=>X = .ex 0∧∃ z,Gs.get e' 3 = .fz z 1 (ints a)) ?_ ?_ [] e H ⟨Nat.le_refl _,⟨false,h3⟩,h0,h4⟩
 · rintro i x a e H hx hi ⟨hal,⟨z,h3⟩,h0,h4⟩
   have hx':(l.map ivD)[i]?=some (.agg [int x.1,int x.2]):=by simp [hx,ivD]
   have hxin:=hin x (List.mem_of_getElem? hx)
   obtain ⟨hp1,hp2,hp3,hp4⟩:=hxin
   have hw:IntKind.i64.wrap (x.2 + 1)=x.2 + 1:=wrap_in (by omega) (by omega)
   have hl1:=addL_len a x.1
   have hl2:=addL_len (addL a x.1) (x.2 + 1)
   obtain ⟨z1,ha1⟩:=e_add z a x.1 (by omega)
   obtain ⟨z2,ha2⟩:=e_add z1 (addL a x.1) (x.2 + 1) (by omega)
   simp only [↓eA,eB,seval,l261003,h0,h3,h4,hi,hx',hw,ha1,ha2,wrap_succ (show i < 4611686018427387904 by omega)]
   refine ⟨trivial,?_,⟨z2,rfl⟩,?_⟩
   · unfold estep; omega
   · and_intros<;>first | trivial | rfl
 · rintro a e H ⟨hal,⟨z,h3⟩,h0,h4⟩
   simp only [↓eA,eB,seval,l261003,h0,h3,h4,Nat.lt_irrefl]
   exact ⟨trivial,trivial,z,rfl⟩
theorem e_rEnds (nz:Bool)(l:List (Int×Int))(hb:l.length < 1000000000)(hin:∀ p∈l,inB p):∃ z,L.call 261 [.fz nz 2 (l.map ivD)] []=some (.fz z 1 (ints (endsL l)),[]):=by
 generalize hE:(lim T).loop 261003 [(0,.fz nz 2 (l.map ivD)),(2,.fz true 1 []),(5,.fz false 1 []),(3,.fz false 1 []),(4,.int .i64 0)] []=R
 obtain ⟨X,e',H',rfl,rfl,z,g3⟩:=Ends.at hE (lp_en nz l hb hin _ _ rfl rfl rfl)
 refine ⟨z,call_eq rfl rfl ?_⟩
 simp only [↓eA,eB,seval,c261,hE,g3]
def hasIv (n:Int)(x:Int×Int):Bool:=decide (x.1≤n) && decide (n≤x.2)
theorem e_rContains (x:Int×Int)(n:Int):L.call 271 [.agg [int x.1,int x.2],int n] []=some (.bool (hasIv n x),[]):=
 call_eq rfl rfl (by simp only [↓eA,eB,seval,c271]; rfl)
theorem lp_ri (nz:Bool)(l:List (Int×Int))(n:Int)(hb:l.length < 4000000000)(e:Env)(H:Heap)(h0:Gs.get e 0 = .fz nz 2 (l.map ivD))(h1:Gs.get e 1=int n)(h3:Gs.get e 5=int 0) :
   Ends T 262002 e H (fun X e' H'=>match l.any (hasIv n) with | true=>X = .ret∧Gs.get e' 4 = .bool true | false=>X = .ex 0):=by
 refine loop_anyH (T:=T) (key:=262002) (li:=l262002.1) rfl l (hasIv n) (fun i e H=>Gs.get e 0 = .fz nz 2 (l.map ivD)∧Gs.get e 1=int n∧Gs.get e 5=int i) (fun X e' H'=>X = .ret∧Gs.get e' 4 = .bool true) (fun X e' H'=>X = .ex 0) ?_ ?_ e H ⟨h0,h1,h3⟩
 · rintro i x e H hx hi ⟨h0,h1,h3⟩
   have hx':(l.map ivD)[i]?=some (.agg [int x.1,int x.2]):=by simp [hx,ivD]
   simp only [↓eA,eB,seval,l262002,h0,h1,h3,hi,hx',e_rContains,wrap_succ (show i < 4611686018427387904 by omega)]
   cases hc:hasIv n x<;>simp only [↓eA,eB,seval,hc]<;>and_intros<;>first | trivial | rfl
 · rintro e H ⟨h0,h1,h3⟩
   simp only [↓eA,eB,seval,l262002,h0,h1,h3,Nat.lt_irrefl]
   and_intros<;>first | trivial | rfl
theorem e_rIn (nz:Bool)(l:List (Int×Int))(n:Int)(hb:l.length < 4000000000):L.call 262 [.fz nz 2 (l.map ivD),int n] []=some (.bool (l.any (hasIv n)),[]):=
 call_eq rfl rfl (by
   simp only [↓eA,eB,seval,c262]
   generalize hE:(lim T).loop 262002 _ _=R
   obtain ⟨X,e',H',rfl,hP⟩:=Ends.at hE (lp_ri nz l n hb _ _ rfl rfl rfl)
   cases hc:l.any (hasIv n) with
   | true=>rw [hc] at hP; obtain ⟨rfl,g⟩:=hP; simp only [↓eA,eB,seval,g]
   | false=>rw [hc] at hP; subst hP; simp only [↓eA,eB,seval])
def skipO (op:Int)(A B:Bool):Bool:=((decide (op=1) && !A && !B) || (decide (op=2) && (!A || B))) || (decide (op=3) && (!A || !B))
def at0 (es:List Int)(i:Nat):Int:=es[i]?.getD 0
def fput (acc:List (Int×Int))(lo nx:Int):List (Int×Int):=match acc.getLast? with
  | none=>acc ++ [(lo,nx - 1)]
  | some q=>bif decide (q.2 + 1=lo) then acc.dropLast ++ [(q.1,nx - 1)] else acc ++ [(lo,nx - 1)]
def fstep (op:Int)(a b:List (Int×Int))(es:List Int)(acc:List (Int×Int))(i:Nat):List (Int×Int):=
 bif skipO op (a.any (hasIv (at0 es i))) (b.any (hasIv (at0 es i))) then acc else fput acc (at0 es i) (at0 es (i + 1))
theorem at0_get {es:List Int}{i:Nat}(h:i < es.length):(ints es)[i]?=some (int (at0 es i)):=by
 have:es[i]?=some es[i]:=List.getElem?_eq_getElem h
 simp [at0,ints,this]
theorem at0_mem {es:List Int}{i:Nat}(h:i < es.length):at0 es i∈es:=by
 have:es[i]?=some es[i]:=List.getElem?_eq_getElem h
 simp [at0,this]
def hiB (q:Int×Int):Prop:=-1000000000001≤q.2∧q.2≤1000000000000
theorem fput_in {acc:List (Int×Int)}{lo nx:Int}(h:∀ q∈acc,hiB q)(h1 : -1000000000000≤nx)(h2:nx≤1000000000001):∀ q∈fput acc lo nx,hiB q:=by
 have hn:∀ a:Int,hiB (a,nx - 1):=fun a=>by unfold hiB; simp only; omega
 unfold fput
 cases hl:acc.getLast? with
 | none=>intro q hq; simp at hq; rcases hq with hq | rfl; exact h q hq; exact hn _
 | some p=>
   simp only
   cases decide (p.2 + 1=lo) with
   | true=>
     intro q hq
     simp only [cond_true,List.mem_append,List.mem_singleton] at hq
     rcases hq with hq | rfl
     · exact h q (List.dropLast_subset acc hq)
     · exact hn _
   | false=>intro q hq; simp at hq; rcases hq with hq | rfl; exact h q hq; exact hn _
theorem fput_len (acc:List (Int×Int))(lo nx:Int):(fput acc lo nx).length≤acc.length + 1:=by
 unfold fput
 cases acc.getLast? with
 | none=>simp
 | some q=>
   simp only
   cases decide (q.2 + 1=lo)
   · simp
   · simp
end Tz
set_option maxHeartbeats 2000000
set_option maxRecDepth 100000
open Gs Go
namespace Tz
def formL (op:Int)(a b:List (Int×Int)):List (Int×Int):=(List.range ((endsL (a ++ b)).length - 1)).foldl (fstep op a b (endsL (a ++ b))) []
theorem wrap_in1 {n:Int}(h : -1000000000002≤n)(h':n≤1000000000002):IntKind.i64.wrap n=n:=wrap_in (by omega) (by omega)
theorem lp_fo (op:Int)(n1 n2 z:Bool)(a b:List (Int×Int))(ha:a.length < 4000000000)(hb:b.length < 4000000000)(es:List Int)(hes:es.length < 4000000000)(hein:∀ y∈es,-1000000000000≤y∧y≤1000000000001)(e:Env)(H:Heap)(h0:Gs.get e 0 = .fz n1 2 (a.map ivD))(h1:Gs.get e 1 = .fz n2 2 (b.map ivD))(h2:Gs.get e 2=int op)(h7:Gs.get e 7 = .fz z 1 (ints es))(h8:Gs.get e 8 = .ow 1008)(h9:Gs.get e 9=int 0)(hH:hget H 1008=some (.row false 2 [] 0 true)) :
   Ends T 251004 e H (fun X e' H'=>X = .ex 0∧Gs.get e' 8 = .ow 1008∧hget H' 1008=some (.row false 2 (((List.range (es.length - 1)).foldl (fstep op a b es) []).map ivD) 0 true)):=by
 refine loop_fold (T:=T) (key:=251004) (li:=l251004.1) rfl (List.range (es.length - 1)) (fstep op a b es) (fun i acc e H=>acc.length≤i∧(∀ q∈acc,hiB q)∧Gs.get e 0 = .fz n1 2 (a.map ivD)∧Gs.get e 1 = .fz n2 2 (b.map ivD)∧Gs.get e 2=int op∧Gs.get e 7 = .fz z 1 (ints es)∧Gs.get e 8 = .ow 1008∧Gs.get e 9=int i∧hget H 1008=some (.row false 2 (acc.map ivD) 0 true)) (fun acc X e' H'=>X = .ex 0∧Gs.get e' 8 = .ow 1008∧hget H' 1008=some (.row false 2 (acc.map ivD) 0 true)) ?_ ?_ [] e H ⟨Nat.le_refl _,by simp,h0,h1,h2,h7,h8,h9,hH⟩
 · rintro i k acc e H hx hi' ⟨hal,hain,h0,h1,h2,h7,h8,h9,hH⟩
   have hi:i < es.length - 1:=by simpa using hi'
   rw [List.getElem?_range hi] at hx; injection hx with hx; subst hx
   have hi1:i < es.length:=by omega
   have hi2:i + 1 < es.length:=by omega
   have m1:=hein _ (at0_mem hi1); have m2:=hein _ (at0_mem hi2)
   have hA:=e_rIn n1 a (at0 es i) ha
   have hB:=e_rIn n2 b (at0 es i) hb
   have hws:=wrap_succ (show i < 4611686018427387904 by omega)
   have hwn:IntKind.i64.wrap (at0 es (i + 1) - 1)=at0 es (i + 1) - 1:=wrap_in1 (by omega) (by omega)
   have hst:fstep op a b es acc i=bif skipO op (a.any (hasIv (at0 es i))) (b.any (hasIv (at0 es i))) then acc else fput acc (at0 es i) (at0 es (i + 1)):=rfl
   rw [hst]
   have hpl:=fput_len acc (at0 es i) (at0 es (i + 1))
   have hpi:=fput_in (acc:=acc) (lo:=at0 es i) hain m2.1 m2.2
   cases hs:skipO op (a.any (hasIv (at0 es i))) (b.any (hasIv (at0 es i))) with
   | true=>
     have hs':=hs; simp only [skipO] at hs'
     simp only [↓eA,eB,seval,l251004,h0,h1,h2,h7,h8,h9,hH,hws,hi1,hi2,at0_get hi1,at0_get hi2,hA,hB,hs']
     refine ⟨trivial,by omega,hain,?_⟩
     and_intros<;>first | trivial | rfl
   | false =>
     have hs':=hs; simp only [skipO] at hs'
     cases hl:acc.getLast? with
     | none=>
       have hac:acc=[]:=by simpa using hl
       subst hac
       have hfp:fput [] (at0 es i) (at0 es (i + 1))=[(at0 es i,at0 es (i + 1) - 1)]:=rfl
       simp only [↓eA,eB,seval,l251004,h0,h1,h2,h7,h8,h9,hH,hws,hi1,hi2,at0_get hi1,at0_get hi2,hA,hB,hs',hwn,show fits 1 16=true from rfl]
       refine ⟨trivial,by omega,hpi,?_⟩
       and_intros<;>first | trivial | rfl
     | some p=>
       obtain ⟨pre,rfl⟩:∃ pre,acc=pre ++ [p]:=List.getLast?_eq_some_iff.1 hl
       have hpin:=hain p (by simp)
       obtain ⟨hp1,hp2⟩:=hpin
       have hlen:(pre ++ [p]).length=pre.length + 1:=by simp
       have hg:(List.map ivD (pre ++ [p]))[pre.length]?=some (.agg [int p.1,int p.2]):=by simp [ivD]
       have hw:IntKind.i64.wrap (p.2 + 1)=p.2 + 1:=wrap_in1 (by omega) (by omega)
       have hgt:decide ((0:Int) < ((pre.length + 1:Nat):Int))=true:=by rw [decide_eq_true_eq]; omega
       have hlt:pre.length < pre.length + 1:=by omega
       have hwp:=wrap_pred (show 0 < pre.length + 1 by omega) (show pre.length + 1 < 4611686018427387904 by omega)
       rw [Nat.add_sub_cancel] at hwp
       cases hc:decide (p.2 + 1=at0 es i) with
       | true=>
         have hms:fput (pre ++ [p]) (at0 es i) (at0 es (i + 1))=pre ++ [(p.1,at0 es (i + 1) - 1)]:=by simp [fput,hc]
         have hset:List.set (List.map ivD (pre ++ [p])) pre.length (.agg [int p.1,int (at0 es (i + 1) - 1)])=List.map ivD (fput (pre ++ [p]) (at0 es i) (at0 es (i + 1))):=by
           rw [hms]; simp [ivD]
         simp only [↓eA,eB,seval,l251004,h0,h1,h2,h7,h8,h9,hH,hws,hi1,hi2,at0_get hi1,at0_get hi2,hA,hB,hs',hwn,hlen,hg,hw,hgt,hlt,hwp,hc,hset,Nat.zero_le]
         refine ⟨trivial,by omega,hpi,?_⟩
         and_intros<;>first | trivial | rfl
       | false=>
         have hms:fput (pre ++ [p]) (at0 es i) (at0 es (i + 1))=pre ++ [p] ++ [(at0 es i,at0 es (i + 1) - 1)]:=by simp [fput,hc]
         have hmp:List.map ivD (pre ++ [p]) ++ [.agg [int (at0 es i),int (at0 es (i + 1) - 1)]]=List.map ivD (fput (pre ++ [p]) (at0 es i) (at0 es (i + 1))):=by rw [hms]; simp [ivD]
         have hfit:fits (pre.length + 1 + 1) 16=true:=by simp [fits]; omega
         simp only [↓eA,eB,seval,l251004,h0,h1,h2,h7,h8,h9,hH,hws,hi1,hi2,at0_get hi1,at0_get hi2,hA,hB,hs',hwn,hlen,hg,hw,hgt,hlt,hwp,hc,hfit,hmp,Nat.zero_le]
         refine ⟨trivial,by omega,hpi,?_⟩
         and_intros<;>first | trivial | rfl
 · rintro acc e H ⟨hal,hain,h0,h1,h2,h7,h8,h9,hH⟩
   rw [List.length_range] at h9 hal
   by_cases hz:es.length=0
   · have hn:¬ (es.length - 1 + 1 < es.length):=by omega
     have hws:=wrap_succ (show es.length - 1 < 4611686018427387904 by omega)
     simp only [↓eA,eB,seval,l251004,h0,h1,h2,h7,h8,h9,hH,hws,hn]
     and_intros<;>first | trivial | rfl
   · have hn:¬ (es.length - 1 + 1 < es.length):=by omega
     have hws:=wrap_succ (show es.length - 1 < 4611686018427387904 by omega)
     simp only [↓eA,eB,seval,l251004,h0,h1,h2,h7,h8,h9,hH,hws,hn]
     and_intros<;>first | trivial | rfl
theorem endsL_all (l:List (Int×Int))(hin:∀ p∈l,inB p):(∀ y∈endsL l,-1000000000000≤y∧y≤1000000000001)∧(endsL l).length≤2 * l.length:=by
 have:∀ (l:List (Int×Int)) (acc:List Int),(∀ p∈l,inB p)→(∀ y∈acc,-1000000000000≤y∧y≤1000000000001)→(∀ y∈l.foldl estep acc,-1000000000000≤y∧y≤1000000000001)∧(l.foldl estep acc).length≤acc.length + 2 * l.length:=by
   intro l
   induction l with
   | nil=>intro acc _ h; exact ⟨h,by simp⟩
   | cons x r ih=>
     intro acc hp h
     have hx:=hp x (by simp)
     obtain ⟨h1,h2,h3,h4⟩:=hx
     have h5:∀ y∈estep acc x,-1000000000000≤y∧y≤1000000000001:=by
       intro y hy
       rcases addL_mem hy with hy | rfl
       · rcases addL_mem hy with hy | rfl
         · exact h y hy
         · omega
       · omega
     have h6:(estep acc x).length≤acc.length + 2:=by
       have:=addL_len acc x.1; have:=addL_len (addL acc x.1) (x.2 + 1); unfold estep; omega
     have:=ih (estep acc x) (fun p h=>hp p (by simp [h])) h5
     refine ⟨this.1,?_⟩
     have h7:=this.2
     simp only [List.foldl_cons,List.length_cons]; omega
 have:=this l [] hin (by simp)
 refine ⟨this.1,?_⟩
 have h:=this.2
 unfold endsL; simp only [List.length_nil] at h; omega
theorem e_form (op:Int)(n1 n2:Bool)(a b:List (Int×Int))(hab:a.length + b.length < 500000000)(hin:∀ p∈a ++ b,inB p):L.call 251 [.fz n1 2 (a.map ivD),.fz n2 2 (b.map ivD),int op] []=some (.fz false 2 ((formL op a b).map ivD),[]):=by
 have h1:fits (0 + a.length) 16=true:=by simp [fits]; omega
 have h2:fits (a.length + b.length) 16=true:=by simp [fits]; omega
 have hm:List.map ivD a ++ List.map ivD b=List.map ivD (a ++ b):=by simp
 obtain ⟨z,he⟩:=e_rEnds false (a ++ b) (by simp; omega) hin
 have hall:=endsL_all (a ++ b) hin
 have hle:=hall.2
 rw [List.length_append] at hle
 refine call_eq rfl rfl ?_
 simp only [↓eA,eB,seval,c251,h1,h2,hm,he]
 generalize hE:(lim T).loop 251004 _ _=R
 obtain ⟨X,e',H',rfl,rfl,g8,gH⟩:=Ends.at hE (lp_fo op n1 n2 z a b (by omega) (by omega) (endsL (a ++ b)) (by omega) hall.1 _ _ rfl rfl rfl rfl rfl rfl rfl)
 simp only [↓eA,eB,seval,g8,gH]
 rfl
def setR (op:Int)(a b:List (Int×Int)):List (Int×Int)×Int:=bif decide (listsErr a b=0) then (formL op a b,0) else ([],listsErr a b)
theorem lists_in {a b:List (Int×Int)}(h:listsErr a b=0):∀ p∈a ++ b,inB p:=by
 unfold listsErr at h
 cases hc:(decide (10000 < (a.length:Int)) || decide (10000 < (b.length:Int))) with
 | true=>rw [hc] at h; cases h
 | false=>rw [hc] at h; exact ivErr_in h
theorem e_set (op:Int)(n1 n2:Bool)(a b:List (Int×Int))(hab:a.length + b.length < 500000000):∃ z,L.call 234 [.fz n1 2 (a.map ivD),.fz n2 2 (b.map ivD),int op] []=some (.tup [.fz z 2 ((setR op a b).1.map ivD),int (setR op a b).2],[]):=by
 have hl:=e_rLists n1 n2 a b (by omega)
 unfold setR
 cases hc:decide (listsErr a b=0) with
 | false=>exact ⟨true,call_eq rfl rfl (by simp only [↓eA,eB,seval,c234,hl,hc]; rfl)⟩
 | true=>
   have hf:=e_form op n1 n2 a b hab (lists_in (of_decide_eq_true hc))
   exact ⟨false,call_eq rfl rfl (by simp only [↓eA,eB,seval,c234,hl,hc,hf])⟩
theorem lp_rj (s:Survey)(hF:s.Fit)(b:Box)(hJ:JB s b)(ax at_:Int)(e:Env)(H:Heap)(h3:Gs.get e 3 = .ptr 3 0)(h4:Gs.get e 4 = .ptr 4 0)(h9:Gs.get e 8=int ax)(h10:Gs.get e 9=int at_)(h11:Gs.get e 7 = .ow 1007)(h31:Gs.get e 10=int 0)(hH3:hget H 3=some (.box s.cells false))(hH4:hget H 4=some (.box (bx b) false))(hH:hget H 1007=some (.row false 2 [] 0 true)) :
   Ends T 205004 e H (fun X e' H'=>X = .ex 0∧Gs.get e' 7 = .ow 1007∧hget H' 1007=some (.row false 2 ((jList s b ax at_).map ivD) 0 true)):=by
 have hb:=hF.jl
 obtain ⟨hz0,⟨hz1,hz2⟩,hjh⟩:=hJ
 refine loop_fold (T:=T) (key:=205004) (li:=l205004.1) rfl s.joints (jStep b ax at_) (fun i a e H=>a.length≤i∧Gs.get e 3 = .ptr 3 0∧Gs.get e 4 = .ptr 4 0∧Gs.get e 8=int ax∧Gs.get e 9=int at_∧Gs.get e 7 = .ow 1007∧Gs.get e 10=int i∧hget H 3=some (.box s.cells false)∧hget H 4=some (.box (bx b) false)∧hget H 1007=some (.row false 2 (a.map ivD) 0 true)) (fun a X e' H'=>X = .ex 0∧Gs.get e' 7 = .ow 1007∧hget H' 1007=some (.row false 2 (a.map ivD) 0 true)) ?_ ?_ [] e H ⟨Nat.le_refl _,h3,h4,h9,h10,h11,h31,hH3,hH4,hH⟩
 · rintro i j a e H hx hi ⟨hal,h3,h4,h9,h10,h11,h31,hH3,hH4,hH⟩
   have hx':(s.joints.map Joint.enc)[i]?=some j.enc:=by simp [hx]
   have hjl:=hjh j (List.mem_of_getElem? hx)
   have hw:IntKind.i64.wrap (min j.hi b.z1 - 1)=min j.hi b.z1 - 1:=wrap_in (by omega) (by omega)
   have hsl:=jStep_len b ax at_ a j
   have hfit:fits (a.length + 1) 16=true:=by simp [fits]; omega
   cases hc:jHit b ax at_ j with
   | true=>
     have hc':=hc; simp only [jHit] at hc'
     have hm:List.map ivD a ++ [.agg [int (max j.lo b.z0),int (min j.hi b.z1 - 1)]]=List.map ivD (jStep b ax at_ a j):=by simp [jStep,hc,jIv,ivD]
     simp only [↓eA,eB,seval,l205004,h3,h4,h9,h10,h11,h31,hH3,hH4,hH,hi,hx',hw,hc',hfit,hm,wrap_succ (show i < 4611686018427387904 by omega)]
     refine ⟨trivial,by omega,?_⟩
     and_intros<;>first | trivial | rfl
   | false=>
     have hc':=hc; simp only [jHit] at hc'
     have hm:jStep b ax at_ a j=a:=by simp [jStep,hc]
     simp only [↓eA,eB,seval,l205004,h3,h4,h9,h10,h11,h31,hH3,hH4,hH,hi,hx',hw,hc',hm,wrap_succ (show i < 4611686018427387904 by omega)]
     refine ⟨trivial,by omega,?_⟩
     and_intros<;>first | trivial | rfl
 · rintro a e H ⟨hal,h3,h4,h9,h10,h11,h31,hH3,hH4,hH⟩
   simp only [↓eA,eB,seval,l205004,h3,h4,h9,h10,h11,h31,hH3,hH4,hH,Nat.lt_irrefl]
   and_intros<;>first | trivial | rfl
theorem e_rJointed (s:Survey)(hF:s.Fit)(hsz:s.joints.length < 400000000)(b:Box)(d:Int)(hd:sideBad d=false)(hJ:JB s b):∃ z,L.call 205 [s.enc,b.enc,int d] []=some (.fz z 2 ((setR 1 (pJointed s b d) []).1.map ivD),[]):=by
 have e1:=e_rPlane b d hd
 have hb:=hF.jl
 have hjl:=jList_len s b (planeAx d) (planeAt b d)
 obtain ⟨z,hs⟩:=e_set 1 false true (pJointed s b d) [] (by unfold pJointed; simp; omega)
 have hs':L.call 234 [.fz false 2 ((pJointed s b d).map ivD),.fz true 2 [],int 1] []=some (.tup [.fz z 2 ((setR 1 (pJointed s b d) []).1.map ivD),int (setR 1 (pJointed s b d) []).2],[]):=hs
 refine ⟨z,call_eq rfl rfl ?_⟩
 simp only [↓eA,eB,seval,c205,e1]
 generalize hE:(lim T).loop 205004 _ _=R
 obtain ⟨X,e',H',rfl,rfl,g7,gH⟩:=Ends.at hE (lp_rj s hF b hJ (planeAx d) (planeAt b d) _ _ rfl rfl rfl rfl rfl rfl rfl rfl rfl)
 have gH':hget H' 1007=some (.row false 2 ((pJointed s b d).map ivD) 0 true):=gH
 simp only [↓eA,eB,seval,g7,gH',hs']
end Tz
