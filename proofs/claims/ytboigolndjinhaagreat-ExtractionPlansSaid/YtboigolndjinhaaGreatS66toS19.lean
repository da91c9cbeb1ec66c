/- The reference: Sorted and Same; The reference: LeansOn and Carries; Shapes, order and place, reference; Check, Boxed and Open, reference; no conditions. -/
import Derived.Test.YtboigolndjinhaaGreatS87toS65
import Derived.Test.YtboigolndjinhaaGreatS17toS86
set_option linter.all false
set_option maxRecDepth 100000
open Gs Go
namespace Tz.C18
abbrev sl (l:List ByteArray):List D:=l.map .str
theorem lp_same (n1 n2:Bool)(l:List ByteArray)(hl:l.length < 1000000)(e:Env)(H:Heap)(h0:Gs.get e 0 = .fz n1 1 (sl l))(h1:Gs.get e 1 = .fz n2 1 (sl l))(h5:Gs.get e 5=int 0)(hH:H=[]) :
   Ends T 27004 e H (fun X e' H'=>X = .ex 0∧H'=[]):=by
 refine (loop_fold (T:=T) (key:=27004) (li:=l27004.1) rfl l (fun (s:Unit) _=>s)
   (fun i s e H=>Gs.get e 0 = .fz n1 1 (sl l)∧Gs.get e 1 = .fz n2 1 (sl l)∧Gs.get e 5=int i∧H=[])
   (fun s X e' H'=>X = .ex 0∧H'=[]) ?_ ?_ () e H ⟨h0,h1,h5,hH⟩).mono fun _ _ _ h=>h
 · rintro i x s e H hx hi ⟨h0,h1,h5,rfl⟩
   have hx':(sl l)[i]?=some (.str x):=by simp [sl,hx]
   have hlen:(sl l).length=l.length:=by simp [sl]
   simp only [↓eA,eB,seval,l27004,h0,h1,h5,hlen,hi,hx',seq_refl,wrap_succ (show i < 4611686018427387904 by omega)]
   and_intros<;>first | trivial | rfl
 · rintro s e H ⟨h0,h1,h5,rfl⟩
   have hlen:(sl l).length=l.length:=by simp [sl]
   simp only [↓eA,eB,seval,l27004,h0,h1,h5,hlen,Nat.lt_irrefl]
   and_intros<;>first | trivial | rfl
theorem e_same (n1 n2:Bool)(l:List ByteArray)(hl:l.length < 1000000):L.call 27 [.fz n1 1 (sl l),.fz n2 1 (sl l)] []=some (.bool true,[]):=
 call_eq rfl rfl (by
   simp only [↓eA,eB,seval,c27]
   generalize hE:(lim T).loop 27004 _ _=R
   obtain ⟨X,e',H',rfl,rfl,rfl⟩:=Ends.at hE (lp_same n1 n2 l hl _ _ rfl rfl rfl rfl)
   simp only [↓eA,eB,seval])
end Tz.C18
set_option maxRecDepth 100000
open Gs Go
namespace Tz.C18
def flat2 (a b:Box):Bool:=((decide (a.x0 < b.x1) && decide (b.x0 < a.x1)) && decide (a.y0 < b.y1)) && decide (b.y0 < a.y1)
theorem e_rFlat (a b:Box):L.call 155 [a.enc,b.enc] []=some (.bool (flat2 a b),[]):=
 call_eq rfl rfl (by simp only [↓eA,eB,seval,c155]; rfl)
theorem find_idx (p:Block→Bool):∀ {bs:List Block} {a:Block},bs.find? p=some a→∃ j,bs.findIdx? p=some j∧bs[j]?=some a
 | [],a,h=>by simp at h
 | b :: r,a,h=>by
   rw [List.find?_cons] at h
   rw [List.findIdx?_cons]
   cases hb:p b with
   | true=>rw [hb] at h; injection h with h; subst h; exact ⟨0,rfl,rfl⟩
   | false=>
     rw [hb] at h
     obtain ⟨j,h1,h2⟩:=find_idx p h
     exact ⟨j + 1,by simp [h1],by simpa using h2⟩
end Tz.C18
set_option maxRecDepth 100000
open Gs Go
namespace Tz
def rShapes (s:Survey):Int:=bif s.joints.any jbad then 1 else bif s.flaws.any fbad then 1 else
 match s.flaws.find? (fun f=>!decide (polyErr f.base=0)) with
 | some f=>polyErr f.base
 | none=>bif s.flaws.any (fun f=>!convex f.base) then 10 else 0
abbrev box1 (s:Survey)(H:Heap):Prop:=hget H 1=some (.box s.cells false)
theorem lp_h1 (s:Survey)(hF:s.Fit)(e:Env)(H:Heap)(h1:Gs.get e 1 = .ptr 1 0)(h3:Gs.get e 3=int 0)(hH:box1 s H) :
   Ends T 89002 e H (fun X e' H'=>match s.joints.any jbad with | true=>X = .ret∧Gs.get e' 2=int 1 | false=>X = .ex 0∧Gs.get e' 1 = .ptr 1 0∧H'=Hs s):=by
 have hb:=hF.jl
 refine loop_anyH (T:=T) (key:=89002) (li:=l89002.1) rfl s.joints jbad (fun i e H=>Gs.get e 1 = .ptr 1 0∧Gs.get e 3=int i∧box1 s H) (fun X e' H'=>X = .ret∧Gs.get e' 2=int 1) (fun X e' H'=>X = .ex 0∧Gs.get e' 1 = .ptr 1 0∧H'=Hs s) ?_ ?_ e H ⟨h1,h3,hH⟩
 · rintro i j e H hx hi ⟨h1,h3,hH⟩
   have hx':(s.joints.map Joint.enc)[i]?=some j.enc:=by simp [hx]
   simp only [↓eA,eB,seval,l89002,h1,h3,hH,hi,hx',wrap_succ (show i < 4611686018427387904 by omega)]
   cases hc:jbad j<;>simp only [jbad] at hc<;>simp only [↓eA,eB,seval,hc]<;>and_intros<;>first | trivial | rfl
 · rintro e H ⟨h1,h3,hH⟩
   simp only [↓eA,eB,seval,l89002,h1,h3,hH,Nat.lt_irrefl]
   and_intros<;>first | trivial | rfl
theorem lp_h2 (s:Survey)(hF:s.Fit)(e:Env)(H:Heap)(h1:Gs.get e 1 = .ptr 1 0)(h3:Gs.get e 5=int 0)(hH:box1 s H) :
   Ends T 89008 e H (fun X e' H'=>match s.flaws.any fbad with | true=>X = .ret∧Gs.get e' 2=int 1 | false=>X = .ex 2∧Gs.get e' 1 = .ptr 1 0∧H'=Hs s):=by
 have hb:=hF.fl
 refine loop_anyH (T:=T) (key:=89008) (li:=l89008.1) rfl s.flaws fbad (fun i e H=>Gs.get e 1 = .ptr 1 0∧Gs.get e 5=int i∧box1 s H) (fun X e' H'=>X = .ret∧Gs.get e' 2=int 1) (fun X e' H'=>X = .ex 2∧Gs.get e' 1 = .ptr 1 0∧H'=Hs s) ?_ ?_ e H ⟨h1,h3,hH⟩
 · rintro i f e H hx hi ⟨h1,h3,hH⟩
   have hx':(s.flaws.map Flaw.enc)[i]?=some f.enc:=by simp [hx]
   simp only [↓eA,eB,seval,l89008,h1,h3,hH,hi,hx',wrap_succ (show i < 4611686018427387904 by omega)]
   cases hc:fbad f<;>simp only [fbad] at hc<;>simp only [↓eA,eB,seval,hc]<;>and_intros<;>first | trivial | rfl
 · rintro e H ⟨h1,h3,hH⟩
   simp only [↓eA,eB,seval,l89008,h1,h3,hH,Nat.lt_irrefl]
   and_intros<;>first | trivial | rfl
theorem lp_h3 (s:Survey)(hF:s.Fit)(e:Env)(H:Heap)(h1:Gs.get e 1 = .ptr 1 0)(h3:Gs.get e 6=int 0)(hH:box1 s H) :
   Ends T 89013 e H (fun X e' H'=>match s.flaws.find? (fun f=>!decide (polyErr f.base=0)) with | some f=>X = .ret∧Gs.get e' 2=int (polyErr f.base) | none=>X = .ex 4∧Gs.get e' 1 = .ptr 1 0∧H'=Hs s):=by
 have hb:=hF.fl
 refine (loop_thru (T:=T) (key:=89013) (li:=l89013.1) rfl (S:=Unit) (R:=Flaw) (fun s f=>bif !decide (polyErr f.base=0) then .inl f else .inr s) s.flaws (fun i _ e H=>Gs.get e 1 = .ptr 1 0∧Gs.get e 6=int i∧box1 s H) (fun f X e' H'=>X = .ret∧Gs.get e' 2=int (polyErr f.base)) (fun _ X e' H'=>X = .ex 4∧Gs.get e' 1 = .ptr 1 0∧H'=Hs s) ?_ ?_ ?_ s.flaws [] () e H rfl ⟨h1,h3,hH⟩).mono ?_
 · rintro i f u u' e H hx ⟨h1,h3,hH⟩ hf
   have hi:i < s.flaws.length:=(List.getElem?_eq_some_iff.1 hx).1
   have hx':(s.flaws.map Flaw.enc)[i]?=some f.enc:=by simp [hx]
   have hfb:=hF.base f (List.mem_of_getElem? hx)
   cases hp:decide (polyErr f.base=0) with
   | false=>rw [hp] at hf; cases hf
   | true=>
     simp only [↓eA,eB,seval,l89013,h1,h3,hH,hi,hx',e_rPolyCheck f.base hfb,hp,wrap_succ (show i < 4611686018427387904 by omega)]
     and_intros<;>first | trivial | rfl
 · rintro i f u r e H hx ⟨h1,h3,hH⟩ hf
   have hi:i < s.flaws.length:=(List.getElem?_eq_some_iff.1 hx).1
   have hx':(s.flaws.map Flaw.enc)[i]?=some f.enc:=by simp [hx]
   have hfb:=hF.base f (List.mem_of_getElem? hx)
   cases hp:decide (polyErr f.base=0) with
   | true=>rw [hp] at hf; cases hf
   | false=>
     rw [hp] at hf; injection hf with hf; subst hf
     simp only [↓eA,eB,seval,l89013,h1,h3,hH,hi,hx',e_rPolyCheck f.base hfb,hp]
     and_intros<;>first | trivial | rfl
 · rintro u e H ⟨h1,h3,hH⟩
   simp only [↓eA,eB,seval,l89013,h1,h3,hH,Nat.lt_irrefl]
   and_intros<;>first | trivial | rfl
 · intro X e' H' h
   rw [thru_find] at h
   cases hf:s.flaws.find? (fun f=>!decide (polyErr f.base=0)) with
   | none=>rw [hf] at h; exact h
   | some f=>rw [hf] at h; exact h
theorem lp_h4 (s:Survey)(hF:s.Fit)(hall:∀ f∈s.flaws,polyErr f.base=0)(e:Env)(H:Heap)(h1:Gs.get e 1 = .ptr 1 0)(h3:Gs.get e 8=int 0)(hH:box1 s H) :
   Ends T 89019 e H (fun X e' H'=>match s.flaws.any (fun f=>!convex f.base) with | true=>X = .ret∧Gs.get e' 2=int 10 | false=>X = .ex 6):=by
 have hb:=hF.fl
 refine loop_anyH (T:=T) (key:=89019) (li:=l89019.1) rfl s.flaws (fun f=>!convex f.base) (fun i e H=>Gs.get e 1 = .ptr 1 0∧Gs.get e 8=int i∧box1 s H) (fun X e' H'=>X = .ret∧Gs.get e' 2=int 10) (fun X e' H'=>X = .ex 6) ?_ ?_ e H ⟨h1,h3,hH⟩
 · rintro i f e H hx hi ⟨h1,h3,hH⟩
   have hx':(s.flaws.map Flaw.enc)[i]?=some f.enc:=by simp [hx]
   have hm:=List.mem_of_getElem? hx
   have hfb:=hF.base f hm
   have hcx:=e_rConvex f.base hfb (polyErr_in (hall f hm))
   simp only [↓eA,eB,seval,l89019,h1,h3,hH,hi,hx',hcx,wrap_succ (show i < 4611686018427387904 by omega)]
   cases hc:convex f.base<;>simp only [↓eA,eB,seval,hc]<;>and_intros<;>first | trivial | rfl
 · rintro e H ⟨h1,h3,hH⟩
   simp only [↓eA,eB,seval,l89019,h1,h3,hH,Nat.lt_irrefl]
   and_intros<;>first | trivial | rfl
theorem e_shapes (s:Survey)(hF:s.Fit):L.call 89 [s.enc] []=some (int (rShapes s),[]):=
 call_eq rfl rfl (by
   have hb:=hF.bl; have hj:=hF.jl; have hf:=hF.fl
   unfold rShapes
   simp only [↓eA,eB,seval,c89]
   generalize hE:(lim T).loop 89002 _ _=R
   obtain ⟨X,e',H',rfl,h⟩:=Ends.at hE (lp_h1 s hF _ _ rfl rfl rfl)
   cases hk:s.joints.any jbad with
   | true=>rw [hk] at h; obtain ⟨rfl,g2⟩:=h; simp only [↓eA,eB,seval,g2]
   | false=>
   rw [hk] at h; obtain ⟨rfl,g1,rfl⟩:=h
   simp only [↓eA,eB,seval,g1]
   generalize hE:(lim T).loop 89008 _ _=R
   obtain ⟨X,e',H',rfl,h⟩:=Ends.at hE (lp_h2 s hF _ _ (by simp only [↓eA,eB,seval,g1]) (by simp only [↓eA,eB,seval]) rfl)
   cases hk:s.flaws.any fbad with
   | true=>rw [hk] at h; obtain ⟨rfl,g2⟩:=h; simp only [↓eA,eB,seval,g2]
   | false=>
   rw [hk] at h; obtain ⟨rfl,g1,rfl⟩:=h
   simp only [↓eA,eB,seval,g1]
   generalize hE:(lim T).loop 89013 _ _=R
   obtain ⟨X,e',H',rfl,h⟩:=Ends.at hE (lp_h3 s hF _ _ (by simp only [↓eA,eB,seval,g1]) (by simp only [↓eA,eB,seval]) rfl)
   cases hk:s.flaws.find? (fun f=>!decide (polyErr f.base=0)) with
   | some f=>rw [hk] at h; obtain ⟨rfl,g2⟩:=h; simp only [↓eA,eB,seval,g2]
   | none=>
   rw [hk] at h; obtain ⟨rfl,g1,rfl⟩:=h
   simp only [↓eA,eB,seval,g1]
   generalize hE:(lim T).loop 89019 _ _=R
   obtain ⟨X,e',H',rfl,h⟩:=Ends.at hE (lp_h4 s hF (polyErr_find hk) _ _ (by simp only [↓eA,eB,seval,g1]) (by simp only [↓eA,eB,seval]) rfl)
   cases hk:s.flaws.any (fun f=>!convex f.base) with
   | true=>rw [hk] at h; obtain ⟨rfl,g2⟩:=h; simp only [↓eA,eB,seval,g2]
   | false=>rw [hk] at h; subst h; simp only [↓eA,eB,seval])
theorem lp_u1 (s:Survey)(hF:s.Fit)(e:Env)(h1:Gs.get e 1 = .ptr 1 0)(hi:Gs.get e 3=int (1:Nat)) :
   Ends T 91002 e (Hs s) (fun X e' H'=>H'=Hs s∧match steps s.beds geBed with | true=>X = .ret∧Gs.get e' 2 = .bool true | false=>X = .ex 0∧Gs.get e' 1 = .ptr 1 0):=by
 have hb:=hF.bl
 refine loop_fr (T:=T) (key:=91002) (li:=l91002.1) rfl 1 s.beds.length (badIx s.beds geBed) (Hs s) (fun k e=>Gs.get e 1 = .ptr 1 0∧Gs.get e 3=int k) (fun X e'=>X = .ret∧Gs.get e' 2 = .bool true) (fun X e'=>X = .ex 0∧Gs.get e' 1 = .ptr 1 0) ?_ ?_ e ⟨h1,hi⟩
 · rintro k e hk hlt ⟨h1,h3⟩
   obtain ⟨y,hy⟩:∃ y,s.beds[k]?=some y:=⟨_,List.getElem?_eq_getElem (by omega)⟩
   obtain ⟨p,hp⟩:∃ p,s.beds[k - 1]?=some p:=⟨_,List.getElem?_eq_getElem (by omega)⟩
   have hil:k - 1 < s.beds.length:=by omega
   have hy':(s.beds.map Bed.enc)[k]?=some y.enc:=by simp [hy]
   have hp':(s.beds.map Bed.enc)[k - 1]?=some p.enc:=by simp [hp]
   have hbd:badIx s.beds geBed k=geBed p y:=by simp only [badIx,hy,hp]
   rw [hbd]
   simp only [↓eA,eB,seval,l91002,h1,h3,hlt,hil,hy',hp',wrap_pred (show 0 < k by omega) (show k < 4611686018427387904 by omega),wrap_succ (show k < 4611686018427387904 by omega)]
   cases hc:geBed p y<;>(try simp only [Bool.not_eq_true',Bool.not_eq_false'] at hc)<;>simp only [↓eA,eB,seval,hc]<;>and_intros<;>first | trivial | rfl
 · rintro k e hk _ ⟨h1,h3⟩
   have hlt:¬ k < s.beds.length:=by omega
   simp only [↓eA,eB,seval,l91002,h1,h3,hlt]
   and_intros<;>first | trivial | rfl
theorem lp_u2 (s:Survey)(hF:s.Fit)(e:Env)(h1:Gs.get e 1 = .ptr 1 0)(hi:Gs.get e 4=int (1:Nat)) :
   Ends T 91007 e (Hs s) (fun X e' H'=>H'=Hs s∧match steps s.joints geJoint with | true=>X = .ret∧Gs.get e' 2 = .bool true | false=>X = .ex 2∧Gs.get e' 1 = .ptr 1 0):=by
 have hb:=hF.jl
 refine loop_fr (T:=T) (key:=91007) (li:=l91007.1) rfl 1 s.joints.length (badIx s.joints geJoint) (Hs s) (fun k e=>Gs.get e 1 = .ptr 1 0∧Gs.get e 4=int k) (fun X e'=>X = .ret∧Gs.get e' 2 = .bool true) (fun X e'=>X = .ex 2∧Gs.get e' 1 = .ptr 1 0) ?_ ?_ e ⟨h1,hi⟩
 · rintro k e hk hlt ⟨h1,h3⟩
   obtain ⟨y,hy⟩:∃ y,s.joints[k]?=some y:=⟨_,List.getElem?_eq_getElem (by omega)⟩
   obtain ⟨p,hp⟩:∃ p,s.joints[k - 1]?=some p:=⟨_,List.getElem?_eq_getElem (by omega)⟩
   have hil:k - 1 < s.joints.length:=by omega
   have hy':(s.joints.map Joint.enc)[k]?=some y.enc:=by simp [hy]
   have hp':(s.joints.map Joint.enc)[k - 1]?=some p.enc:=by simp [hp]
   have hbd:badIx s.joints geJoint k=geJoint p y:=by simp only [badIx,hy,hp]
   rw [hbd]
   simp only [↓eA,eB,seval,l91007,h1,h3,hlt,hil,hy',hp',wrap_pred (show 0 < k by omega) (show k < 4611686018427387904 by omega),wrap_succ (show k < 4611686018427387904 by omega)]
   cases hc:geJoint p y<;>(try simp only [Bool.not_eq_true',Bool.not_eq_false'] at hc)<;>simp only [↓eA,eB,seval,hc]<;>and_intros<;>first | trivial | rfl
 · rintro k e hk _ ⟨h1,h3⟩
   have hlt:¬ k < s.joints.length:=by omega
   simp only [↓eA,eB,seval,l91007,h1,h3,hlt]
   and_intros<;>first | trivial | rfl
theorem lp_u3 (s:Survey)(hF:s.Fit)(e:Env)(h1:Gs.get e 1 = .ptr 1 0)(hi:Gs.get e 5=int (1:Nat)) :
   Ends T 91012 e (Hs s) (fun X e' H'=>H'=Hs s∧match steps s.flaws geFlaw with | true=>X = .ret∧Gs.get e' 2 = .bool true | false=>X = .ex 4∧Gs.get e' 1 = .ptr 1 0):=by
 have hb:=hF.fl
 refine loop_fr (T:=T) (key:=91012) (li:=l91012.1) rfl 1 s.flaws.length (badIx s.flaws geFlaw) (Hs s) (fun k e=>Gs.get e 1 = .ptr 1 0∧Gs.get e 5=int k) (fun X e'=>X = .ret∧Gs.get e' 2 = .bool true) (fun X e'=>X = .ex 4∧Gs.get e' 1 = .ptr 1 0) ?_ ?_ e ⟨h1,hi⟩
 · rintro k e hk hlt ⟨h1,h3⟩
   obtain ⟨y,hy⟩:∃ y,s.flaws[k]?=some y:=⟨_,List.getElem?_eq_getElem (by omega)⟩
   obtain ⟨p,hp⟩:∃ p,s.flaws[k - 1]?=some p:=⟨_,List.getElem?_eq_getElem (by omega)⟩
   have hil:k - 1 < s.flaws.length:=by omega
   have hy':(s.flaws.map Flaw.enc)[k]?=some y.enc:=by simp [hy]
   have hp':(s.flaws.map Flaw.enc)[k - 1]?=some p.enc:=by simp [hp]
   have hbd:badIx s.flaws geFlaw k=geFlaw p y:=by simp only [badIx,hy,hp]
   rw [hbd]
   simp only [↓eA,eB,seval,l91012,h1,h3,hlt,hil,hy',hp',wrap_pred (show 0 < k by omega) (show k < 4611686018427387904 by omega),wrap_succ (show k < 4611686018427387904 by omega)]
   cases hc:geFlaw p y<;>(try simp only [Bool.not_eq_true',Bool.not_eq_false'] at hc)<;>simp only [↓eA,eB,seval,hc]<;>and_intros<;>first | trivial | rfl
 · rintro k e hk _ ⟨h1,h3⟩
   have hlt:¬ k < s.flaws.length:=by omega
   simp only [↓eA,eB,seval,l91012,h1,h3,hlt]
   and_intros<;>first | trivial | rfl
def nm (l:List ByteArray)(i:Nat):ByteArray:=l[i]?.getD ⟨#[]⟩
def pairs (l:List ByteArray):Bool:=(List.range l.length).any fun i=>(List.range i).any fun j=>seq (nm l i) (nm l j)
theorem nm_get {l:List ByteArray}{i:Nat}(h:i < l.length):(l.map D.str)[i]?=some (.str (nm l i)):=by
 have:l[i]?=some l[i]:=List.getElem?_eq_getElem h
 simp [nm,this]
theorem lp_ui (l:List ByteArray)(hb:l.length < 4000000000)(i:Nat)(hi:i < l.length)(e:Env)(H:Heap)(h6:Gs.get e 6 = .fz false 1 (l.map .str))(h7:Gs.get e 7=int i)(h8:Gs.get e 8=int 0) :
   Ends T 91021 e [] (fun X e' H'=>H'=[]∧match (List.range i).any (fun j=>seq (nm l i) (nm l j)) with | true=>X = .ret∧Gs.get e' 2 = .bool true | false=>X = .ex 8∧Gs.get e' 6 = .fz false 1 (l.map .str)∧Gs.get e' 7=int i):=by
 refine loop_rng (T:=T) (key:=91021) (li:=l91021.1) rfl i (fun j=>seq (nm l i) (nm l j)) [] (fun j e=>Gs.get e 6 = .fz false 1 (l.map .str)∧Gs.get e 7=int i∧Gs.get e 8=int j) (fun X e'=>X = .ret∧Gs.get e' 2 = .bool true) (fun X e'=>X = .ex 8∧Gs.get e' 6 = .fz false 1 (l.map .str)∧Gs.get e' 7=int i) ?_ ?_ e ⟨h6,h7,h8⟩
 · rintro j e hj ⟨h6,h7,h8⟩
   have hjl:j < l.length:=by omega
   simp only [↓eA,eB,seval,l91021,h6,h7,h8,hi,hjl,hj,nm_get hi,nm_get hjl,wrap_succ (show j < 4611686018427387904 by omega)]
   cases hc:seq (nm l i) (nm l j)<;>simp only [↓eA,eB,seval,hc]<;>and_intros<;>first | trivial | rfl
 · rintro e ⟨h6,h7,h8⟩
   simp only [↓eA,eB,seval,l91021,h6,h7,h8,Nat.lt_irrefl]
   and_intros<;>first | trivial | rfl
theorem lp_uo (l:List ByteArray)(hb:l.length < 4000000000)(e:Env)(H:Heap)(h6:Gs.get e 6 = .fz false 1 (l.map .str))(h7:Gs.get e 7=int 0) :
   Ends T 91018 e H (fun X e' H'=>match pairs l with | true=>X = .ret∧Gs.get e' 2 = .bool true | false=>X = .ex 6):=by
 refine loop_anyH (T:=T) (key:=91018) (li:=l91018.1) rfl (List.range l.length) (fun i=>(List.range i).any fun j=>seq (nm l i) (nm l j)) (fun i e H=>Gs.get e 6 = .fz false 1 (l.map .str)∧Gs.get e 7=int i) (fun X e' H'=>X = .ret∧Gs.get e' 2 = .bool true) (fun X e' H'=>X = .ex 6) ?_ ?_ e H ⟨h6,h7⟩
 · rintro i k e H hx hi' ⟨h6,h7⟩
   have hi:i < l.length:=by simpa using hi'
   rw [List.getElem?_range hi] at hx; injection hx with hx; subst hx
   simp only [↓eA,eB,seval,l91018,h6,h7,hi]
   generalize hE:(lim T).loop 91021 _ _=R
   obtain ⟨X,e',H',rfl,rfl,hP⟩:=Ends.at hE (lp_ui l hb i hi _ [] (by simp only [↓eA,eB,seval,h6]) (by simp only [↓eA,eB,seval,h7]) (by simp only [↓eA,eB,seval]))
   cases hc:(List.range i).any (fun j=>seq (nm l i) (nm l j)) with
   | true=>rw [hc] at hP; obtain ⟨rfl,g2⟩:=hP; simp only [↓eA,eB,seval,g2]; and_intros<;>first | trivial | rfl
   | false=>
     rw [hc] at hP; obtain ⟨rfl,g6,g7⟩:=hP
     simp only [↓eA,eB,seval,g6,g7,wrap_succ (show i < 4611686018427387904 by omega)]
     and_intros<;>first | trivial | rfl
 · rintro e H ⟨h6,h7⟩
   rw [List.length_range] at h7
   simp only [↓eA,eB,seval,l91018,h6,h7,Nat.lt_irrefl]
   and_intros<;>first | trivial | rfl
def unordered (s:Survey):Bool:=steps s.beds geBed || (steps s.joints geJoint || (steps s.flaws geFlaw || pairs s.names))
theorem e_unordered (s:Survey)(hF:s.Fit):L.call 91 [s.enc] []=some (.bool (unordered s),[]):=
 call_eq rfl rfl (by
   have hb:=hF.bl; have hj:=hF.jl; have hf:=hF.fl
   have hnl:=s.names_length
   simp only [↓eA,eB,seval,c91]
   generalize hE:(lim T).loop 91002 _ _=R
   obtain ⟨X,e',H',rfl,rfl,h⟩:=Ends.at hE (lp_u1 s hF _ rfl rfl)
   unfold unordered
   cases h1:steps s.beds geBed with
   | true=>rw [h1] at h; obtain ⟨rfl,g2⟩:=h; simp only [↓eA,eB,seval,g2]
   | false=>
   rw [h1] at h; obtain ⟨rfl,g1⟩:=h
   simp only [↓eA,eB,seval,g1]
   generalize hE:(lim T).loop 91007 _ _=R
   obtain ⟨X,e',H',rfl,rfl,h⟩:=Ends.at hE (lp_u2 s hF _ (by simp only [↓eA,eB,seval,g1]) (by simp only [↓eA,eB,seval]))
   cases h2:steps s.joints geJoint with
   | true=>rw [h2] at h; obtain ⟨rfl,g2⟩:=h; simp only [↓eA,eB,seval,g2]
   | false=>
   rw [h2] at h; obtain ⟨rfl,g1⟩:=h
   simp only [↓eA,eB,seval,g1]
   generalize hE:(lim T).loop 91012 _ _=R
   obtain ⟨X,e',H',rfl,rfl,h⟩:=Ends.at hE (lp_u3 s hF _ (by simp only [↓eA,eB,seval,g1]) (by simp only [↓eA,eB,seval]))
   cases h3:steps s.flaws geFlaw with
   | true=>rw [h3] at h; obtain ⟨rfl,g2⟩:=h; simp only [↓eA,eB,seval,g2]
   | false=>
   rw [h3] at h; obtain ⟨rfl,g1⟩:=h
   simp only [↓eA,eB,seval,g1,e_rNames s hF.toFit0]
   generalize hE:(lim T).loop 91018 _ _=R
   obtain ⟨X,e',H',rfl,h⟩:=Ends.at hE (lp_uo s.names (by omega) _ _ (by simp only [↓eA,eB,seval]) (by simp only [↓eA,eB,seval]))
   cases h4:pairs s.names with
   | true=>rw [h4] at h; obtain ⟨rfl,g2⟩:=h; simp only [↓eA,eB,seval,g2]
   | false=>rw [h4] at h; subst h; simp only [↓eA,eB,seval])
def rJointOut (s:Survey)(j:Joint):Bool:=(!inR (if j.axis=0 then s.pit.x0 else if j.axis=1 then s.pit.y0 else s.pit.z0) j.at_ (if j.axis=0 then s.pit.x1 else if j.axis=1 then s.pit.y1 else s.pit.z1) || decide (j.lo < s.pit.z0)) || decide (s.pit.z1 < j.hi)
def rFlawOut (s:Survey)(f:Flaw):Bool:=(decide (f.lo < s.pit.z0) || decide (s.pit.z1 < f.hi)) || f.base.any (cornerOut s)
def rOut (s:Survey):Bool:=s.beds.any (bedOut s) || (s.joints.any (rJointOut s) || s.flaws.any (rFlawOut s))
abbrev Hp3 (s:Survey):Heap:=[(1,.box s.cells false),(3,.box [int s.pit.x0,int s.pit.y0,int s.pit.z0] false),(4,.box [int s.pit.x1,int s.pit.y1,int s.pit.z1] false)]
abbrev box3 (s:Survey)(H:Heap):Prop:=hget H 1=some (.box s.cells false)∧hget H 3=some (.box [int s.pit.x0,int s.pit.y0,int s.pit.z0] false)∧hget H 4=some (.box [int s.pit.x1,int s.pit.y1,int s.pit.z1] false)
abbrev pt3 (e:Env):Prop:=Gs.get e 1 = .ptr 1 0∧Gs.get e 3 = .ptr 3 0∧Gs.get e 4 = .ptr 4 0
theorem lp_x1 (s:Survey)(hF:s.Fit)(e:Env)(H:Heap)(hp:pt3 e)(h5:Gs.get e 5=int 0)(hH:box3 s H) :
   Ends T 90004 e H (fun X e' H'=>match s.beds.any (bedOut s) with | true=>X = .ret∧Gs.get e' 2 = .bool true | false=>X = .ex 0∧pt3 e'∧H'=Hp3 s):=by
 have hb:=hF.bl
 refine loop_anyH (T:=T) (key:=90004) (li:=l90004.1) rfl s.beds (bedOut s) (fun i e H=>pt3 e∧Gs.get e 5=int i∧box3 s H) (fun X e' H'=>X = .ret∧Gs.get e' 2 = .bool true) (fun X e' H'=>X = .ex 0∧pt3 e'∧H'=Hp3 s) ?_ ?_ e H ⟨hp,h5,hH⟩
 · rintro i b e H hx hi ⟨⟨h1,h3,h4⟩,h5,⟨hH1,hH3,hH4⟩⟩
   have hx':(s.beds.map Bed.enc)[i]?=some b.enc:=by simp [hx]
   simp only [↓eA,eB,seval,l90004,h1,h3,h4,h5,hH1,hH3,hH4,hi,hx',e_inR,wrap_succ (show i < 4611686018427387904 by omega)]
   cases hc:bedOut s b<;>(simp only [bedOut,Bool.not_eq_true',Bool.not_eq_false'] at hc)<;>simp only [↓eA,eB,seval,hc]<;>and_intros<;>first | trivial | rfl
 · rintro e H ⟨⟨h1,h3,h4⟩,h5,⟨hH1,hH3,hH4⟩⟩
   simp only [↓eA,eB,seval,l90004,h1,h3,h4,h5,hH1,hH3,hH4,Nat.lt_irrefl]
   and_intros<;>first | trivial | rfl
theorem lp_x2 (s:Survey)(hF:s.Fit)(e:Env)(H:Heap)(hp:pt3 e)(h5:Gs.get e 6=int 0)(hH:box3 s H) :
   Ends T 90009 e H (fun X e' H'=>match s.joints.any (rJointOut s) with | true=>X = .ret∧Gs.get e' 2 = .bool true | false=>X = .ex 2∧pt3 e'∧H'=Hp3 s):=by
 have hb:=hF.jl
 refine loop_anyH (T:=T) (key:=90009) (li:=l90009.1) rfl s.joints (rJointOut s) (fun i e H=>pt3 e∧Gs.get e 6=int i∧box3 s H) (fun X e' H'=>X = .ret∧Gs.get e' 2 = .bool true) (fun X e' H'=>X = .ex 2∧pt3 e'∧H'=Hp3 s) ?_ ?_ e H ⟨hp,h5,hH⟩
 · rintro i j e H hx hi ⟨⟨h1,h3,h4⟩,h5,⟨hH1,hH3,hH4⟩⟩
   have hx':(s.joints.map Joint.enc)[i]?=some j.enc:=by simp [hx]
   simp only [↓eA,eB,seval,l90009,h1,h3,h4,h5,hH1,hH3,hH4,hi,hx',e_inR,e_coord,wrap_succ (show i < 4611686018427387904 by omega)]
   cases hc:rJointOut s j<;>simp only [rJointOut] at hc<;>simp only [↓eA,eB,seval,hc]<;>and_intros<;>first | trivial | rfl
 · rintro e H ⟨⟨h1,h3,h4⟩,h5,⟨hH1,hH3,hH4⟩⟩
   simp only [↓eA,eB,seval,l90009,h1,h3,h4,h5,hH1,hH3,hH4,Nat.lt_irrefl]
   and_intros<;>first | trivial | rfl
theorem lp_x4 (s:Survey)(f:Flaw)(hb:f.base.length < 1000000000)(i:Nat)(e:Env)(H:Heap)(hp:pt3 e)(h8:Gs.get e 8=int i)(h9:Gs.get e 9 = .ptr 9 0)(h10:Gs.get e 10=int 0)(hH:box3 s H)(hH9:hget H 9=some (.box [poly f.base,int f.lo,int f.hi] false)) :
   Ends T 90021 e H (fun X e' H'=>match f.base.any (cornerOut s) with | true=>X = .ret∧Gs.get e' 2 = .bool true | false=>X = .ex 6∧pt3 e'∧Gs.get e' 8=int i∧box3 s H'):=by
 refine loop_anyH (T:=T) (key:=90021) (li:=l90021.1) rfl f.base (cornerOut s) (fun k e H=>pt3 e∧Gs.get e 8=int i∧Gs.get e 9 = .ptr 9 0∧Gs.get e 10=int k∧box3 s H∧hget H 9=some (.box [poly f.base,int f.lo,int f.hi] false)) (fun X e' H'=>X = .ret∧Gs.get e' 2 = .bool true) (fun X e' H'=>X = .ex 6∧pt3 e'∧Gs.get e' 8=int i∧box3 s H') ?_ ?_ e H ⟨hp,h8,h9,h10,hH,hH9⟩
 · rintro k c e H hx hi ⟨⟨h1,h3,h4⟩,h8,h9,h10,⟨hH1,hH3,hH4⟩,hH9⟩
   have hx':(f.base.map Pt.enc)[k]?=some c.enc:=by simp [hx]
   simp only [↓eA,eB,seval,l90021,h1,h3,h4,h8,h9,h10,hH1,hH3,hH4,hH9,hi,hx',e_inR,wrap_succ (show k < 4611686018427387904 by omega)]
   cases hc:cornerOut s c<;>simp only [cornerOut] at hc<;>simp only [↓eA,eB,seval,hc]<;>and_intros<;>first | trivial | rfl
 · rintro e H ⟨⟨h1,h3,h4⟩,h8,h9,h10,⟨hH1,hH3,hH4⟩,hH9⟩
   simp only [↓eA,eB,seval,l90021,h1,h3,h4,h8,h9,h10,hH1,hH3,hH4,hH9,Nat.lt_irrefl]
   and_intros<;>first | trivial | rfl
theorem lp_x3 (s:Survey)(hF:s.Fit)(e:Env)(H:Heap)(hp:pt3 e)(h5:Gs.get e 8=int 0)(hH:box3 s H) :
   Ends T 90015 e H (fun X e' H'=>match s.flaws.any (rFlawOut s) with | true=>X = .ret∧Gs.get e' 2 = .bool true | false=>X = .ex 4):=by
 have hb:=hF.fl
 refine loop_anyH (T:=T) (key:=90015) (li:=l90015.1) rfl s.flaws (rFlawOut s) (fun i e H=>pt3 e∧Gs.get e 8=int i∧box3 s H) (fun X e' H'=>X = .ret∧Gs.get e' 2 = .bool true) (fun X e' H'=>X = .ex 4) ?_ ?_ e H ⟨hp,h5,hH⟩
 · rintro i f e H hx hi ⟨⟨h1,h3,h4⟩,h5,⟨hH1,hH3,hH4⟩⟩
   have hx':(s.flaws.map Flaw.enc)[i]?=some f.enc:=by simp [hx]
   have hfb:=hF.base f (List.mem_of_getElem? hx)
   unfold rFlawOut
   cases hr:(decide (f.lo < s.pit.z0) || decide (s.pit.z1 < f.hi)) with
   | true=>
     simp only [↓eA,eB,seval,l90015,h1,h3,h4,h5,hH1,hH3,hH4,hi,hx',hr]
     and_intros<;>first | trivial | rfl
   | false=>
     simp only [↓eA,eB,seval,l90015,h1,h3,h4,h5,hH1,hH3,hH4,hi,hx',hr]
     generalize hE:(lim T).loop 90021 _ _=R
     obtain ⟨X,e',H',rfl,hP⟩:=Ends.at hE (lp_x4 s f hfb i _ _ ⟨rfl,rfl,rfl⟩ rfl rfl rfl ⟨rfl,rfl,rfl⟩ rfl)
     cases hc:f.base.any (cornerOut s) with
     | true=>rw [hc] at hP; obtain ⟨rfl,g⟩:=hP; simp only [↓eA,eB,seval,g]; and_intros<;>first | trivial | rfl
     | false=>
       rw [hc] at hP; obtain ⟨rfl,⟨g1,g3,g4⟩,g8,⟨gH1,gH3,gH4⟩⟩:=hP
       simp only [↓eA,eB,seval,pt3,box3,g1,g3,g4,g8,gH1,gH3,gH4,wrap_succ (show i < 4611686018427387904 by omega)]
       and_intros<;>first | trivial | rfl
 · rintro e H ⟨⟨h1,h3,h4⟩,h5,⟨hH1,hH3,hH4⟩⟩
   simp only [↓eA,eB,seval,l90015,h1,h3,h4,h5,hH1,hH3,hH4,Nat.lt_irrefl]
   and_intros<;>first | trivial | rfl
theorem e_rOutside (s:Survey)(hF:s.Fit):L.call 90 [s.enc] []=some (.bool (rOut s),[]):=
 call_eq rfl rfl (by
   unfold rOut
   simp only [↓eA,eB,seval,c90]
   generalize hE:(lim T).loop 90004 _ _=R
   obtain ⟨X,e',H',rfl,hP⟩:=Ends.at hE (lp_x1 s hF _ _ ⟨rfl,rfl,rfl⟩ rfl ⟨rfl,rfl,rfl⟩)
   cases hc:s.beds.any (bedOut s) with
   | true=>rw [hc] at hP; obtain ⟨rfl,g⟩:=hP; simp only [↓eA,eB,seval,g]
   | false=>
   rw [hc] at hP; obtain ⟨rfl,⟨g1,g3,g4⟩,rfl⟩:=hP
   simp only [↓eA,eB,seval,g1,g3,g4]
   generalize hE:(lim T).loop 90009 _ _=R
   obtain ⟨X,e',H',rfl,hP⟩:=Ends.at hE (lp_x2 s hF _ _ ⟨by simp only [↓eA,eB,seval,g1],by simp only [↓eA,eB,seval,g3],by simp only [↓eA,eB,seval,g4]⟩ (by simp only [↓eA,eB,seval]) ⟨rfl,rfl,rfl⟩)
   cases hc:s.joints.any (rJointOut s) with
   | true=>rw [hc] at hP; obtain ⟨rfl,g⟩:=hP; simp only [↓eA,eB,seval,g]
   | false=>
   rw [hc] at hP; obtain ⟨rfl,⟨g1,g3,g4⟩,rfl⟩:=hP
   simp only [↓eA,eB,seval,g1,g3,g4]
   generalize hE:(lim T).loop 90015 _ _=R
   obtain ⟨X,e',H',rfl,hP⟩:=Ends.at hE (lp_x3 s hF _ _ ⟨by simp only [↓eA,eB,seval,g1],by simp only [↓eA,eB,seval,g3],by simp only [↓eA,eB,seval,g4]⟩ (by simp only [↓eA,eB,seval]) ⟨rfl,rfl,rfl⟩)
   cases hc:s.flaws.any (rFlawOut s) with
   | true=>rw [hc] at hP; obtain ⟨rfl,g⟩:=hP; simp only [↓eA,eB,seval,g]
   | false=>rw [hc] at hP; subst hP; simp only [↓eA,eB,seval])
end Tz
set_option maxRecDepth 100000
open Gs Go
namespace Tz
def rf (n:Int):Bool:=!(decide (-1000000≤n) && decide (n≤1000000))
def rFar (b:Box):Bool:=(rf b.x0 || rf b.x1) || ((rf b.y0 || rf b.y1) || (rf b.z0 || rf b.z1))
theorem e_rf (n:Int):L.call 85 [int n] []=some (.bool (rf n),[]):=e_far n
theorem e_c0 (x y z:Int):L.call 86 [.agg [int x,int y,int z],int 0] []=some (int x,[]):=e_coord x y z 0
theorem e_c1 (x y z:Int):L.call 86 [.agg [int x,int y,int z],int 1] []=some (int y,[]):=e_coord x y z 1
theorem e_c2 (x y z:Int):L.call 86 [.agg [int x,int y,int z],int 2] []=some (int z,[]):=e_coord x y z 2
theorem lp_rc2 (s:Survey)(nz:Bool)(l:List ByteArray)(hb:l.length < 4000000000)(hs:∀ n∈l,n.size < 1000000000)(e:Env)(h1:Gs.get e 1 = .ptr 1 0)(h4:Gs.get e 4 = .fz nz 1 (l.map .str))(h5:Gs.get e 5=int 0) :
   Ends T 45012 e (Hs s) (fun X e' H'=>H'=Hs s∧match l.any (fun n=>!rName n) with | true=>X = .ret∧Gs.get e' 2=int 4 | false=>X = .ex 2∧Gs.get e' 1 = .ptr 1 0):=by
 refine loop_any (T:=T) (key:=45012) (li:=l45012.1) rfl l (fun n=>!rName n) (Hs s) (fun i e=>Gs.get e 1 = .ptr 1 0∧Gs.get e 4 = .fz nz 1 (l.map .str)∧Gs.get e 5=int i) (fun X e'=>X = .ret∧Gs.get e' 2=int 4) (fun X e'=>X = .ex 2∧Gs.get e' 1 = .ptr 1 0) ?_ ?_ e ⟨h1,h4,h5⟩
 · rintro i n e hx hi ⟨h1,h4,h5⟩
   have hx':(l.map D.str)[i]?=some (.str n):=by simp [hx]
   have hns:=hs n (List.mem_of_getElem? hx)
   simp only [↓eA,eB,seval,l45012,h1,h4,h5,hi,hx',e_rName n hns,wrap_succ (show i < 4611686018427387904 by omega)]
   cases hc:rName n<;>simp only [↓eA,eB,seval,hc]<;>and_intros<;>first | trivial | rfl
 · rintro e ⟨h1,h4,h5⟩
   simp only [↓eA,eB,seval,l45012,h1,h4,h5,Nat.lt_irrefl]
   and_intros<;>first | trivial | rfl
def rCheck (s:Survey):Int:=bif sizeBad s then 7 else bif rFar s.pit then 6 else bif !s.pit.ok then 1 else bif s.names.any (fun n=>!rName n) then 4 else bif !decide (rShapes s=0) then rShapes s else bif rOut s then 12 else bif unordered s then 5 else 0
theorem lp_rc1 (s:Survey)(e:Env)(h1:Gs.get e 1 = .ptr 1 0)(h3:Gs.get e 3=int 0) :
   Ends T 45004 e (Hs s) (fun X e' H'=>H'=Hs s∧match rFar s.pit with | true=>X = .ret∧Gs.get e' 2=int 6 | false=>X = .ex 0∧Gs.get e' 1 = .ptr 1 0):=by
 have hg:∀ i:Nat,i < 3→(i=0∨i=1∨i=2):=fun i hi=>by omega
 have:=loop_rng (T:=T) (key:=45004) (li:=l45004.1) rfl 3 (fun i=>if i=0 then rf s.pit.x0 || rf s.pit.x1 else if i=1 then rf s.pit.y0 || rf s.pit.y1 else rf s.pit.z0 || rf s.pit.z1) (Hs s) (fun i e=>Gs.get e 1 = .ptr 1 0∧Gs.get e 3=int i) (fun X e'=>X = .ret∧Gs.get e' 2=int 6) (fun X e'=>X = .ex 0∧Gs.get e' 1 = .ptr 1 0) ?_ ?_ e ⟨h1,h3⟩
 · refine this.mono fun X e' H' h=>?_
   have he:(List.range 3).any (fun i=>if i=0 then rf s.pit.x0 || rf s.pit.x1 else if i=1 then rf s.pit.y0 || rf s.pit.y1 else rf s.pit.z0 || rf s.pit.z1)=rFar s.pit:=by
     simp [rFar,List.range,List.range.loop]
   rw [he] at h; exact h
 · rintro i e hi ⟨h1,h3⟩
   rcases hg i hi with rfl | rfl | rfl
   · have hz:Gs.get e 3=int 0:=h3
     simp only [↓eA,eB,seval,l45004,h1,hz,e_c0,e_rf]
     cases hc:(rf s.pit.x0 || rf s.pit.x1)<;>(try simp only [↓eA,eB,seval,hc])<;>and_intros<;>first | trivial | rfl
   · have hz:Gs.get e 3=int 1:=h3
     simp only [↓eA,eB,seval,l45004,h1,hz,e_c1,e_rf]
     cases hc:(rf s.pit.y0 || rf s.pit.y1)<;>(try simp only [↓eA,eB,seval,hc])<;>and_intros<;>first | trivial | rfl
   · have hz:Gs.get e 3=int 2:=h3
     simp only [↓eA,eB,seval,l45004,h1,hz,e_c2,e_rf]
     cases hc:(rf s.pit.z0 || rf s.pit.z1)<;>(try simp only [↓eA,eB,seval,hc])<;>and_intros<;>first | trivial | rfl
 · rintro e ⟨h1,h3⟩
   have hz:Gs.get e 3=int 3:=h3
   simp only [↓eA,eB,seval,l45004,h1,hz]
   and_intros<;>first | trivial | rfl
theorem e_rCheck (s:Survey)(hF:s.Fit):L.call 45 [s.enc] []=some (int (rCheck s),[]):=
 call_eq rfl rfl (by
   have hb:=hF.bl; have hj:=hF.jl; have hf:=hF.fl
   have hnl:=s.names_length
   unfold rCheck
   cases hz:sizeBad s with
   | true=>have hz':=hz; simp only [sizeBad] at hz'; simp only [↓eA,eB,seval,c45,hz']
   | false=>
   have hz':=hz; simp only [sizeBad] at hz'
   simp only [↓eA,eB,seval,c45,hz']
   generalize hE:(lim T).loop 45004 _ _=R
   obtain ⟨X,e',H',rfl,rfl,h⟩:=Ends.at hE (lp_rc1 s _ rfl rfl)
   cases hk:rFar s.pit with
   | true=>rw [hk] at h; obtain ⟨rfl,g2⟩:=h; simp only [↓eA,eB,seval,g2]
   | false=>
   rw [hk] at h; obtain ⟨rfl,g1⟩:=h
   cases hp:s.pit.ok with
   | false=>simp only [↓eA,eB,seval,g1,e_rProper,hp]
   | true=>
   simp only [↓eA,eB,seval,g1,e_rProper,hp,e_rNames s hF.toFit0]
   generalize hE:(lim T).loop 45012 _ _=R
   obtain ⟨X,e',H',rfl,rfl,h⟩:=Ends.at hE (lp_rc2 s false s.names (by omega) hF.nm _ (by simp only [↓eA,eB,seval,g1]) (by simp only [↓eA,eB,seval]) (by simp only [↓eA,eB,seval]))
   cases hk:s.names.any (fun n=>!rName n) with
   | true=>rw [hk] at h; obtain ⟨rfl,g2⟩:=h; simp only [↓eA,eB,seval,g2]
   | false=>
   rw [hk] at h; obtain ⟨rfl,g1⟩:=h
   cases hs:decide (rShapes s=0) with
   | false=>simp only [↓eA,eB,seval,g1,e_shapes s hF,hs]
   | true=>
   cases ho:rOut s with
   | true=>simp only [↓eA,eB,seval,g1,e_shapes s hF,hs,e_rOutside s hF,ho]
   | false=>
   cases hu:unordered s with
   | true=>simp only [↓eA,eB,seval,g1,e_shapes s hF,hs,e_rOutside s hF,ho,e_unordered s hF,hu]
   | false=>simp only [↓eA,eB,seval,g1,e_shapes s hF,hs,e_rOutside s hF,ho,e_unordered s hF,hu])
theorem e_rOpen (s:Survey)(b:Box)(d:Int)(h:sideBad d=false):L.call 202 [s.enc,b.enc,int d] []=some (.bool (openB s b d),[]):=by
 have e1:=e_rPlane b d h; have e2:=e_rPlane s.pit d h
 have h':d=0∨d=1∨d=2∨d=3:=by simp only [sideBad,Bool.or_eq_false_iff,decide_eq_false_iff_not] at h; omega
 unfold openB openAt
 rcases h' with rfl | rfl | rfl | rfl
 · exact call_eq rfl rfl (by simp only [↓eA,eB,seval,c202,e1,e2,n0,n1,n2,n3]; cases decide (planeAt b 0=planeAt s.pit 0)<;>cases s.o0<;>rfl)
 · exact call_eq rfl rfl (by simp only [↓eA,eB,seval,c202,e1,e2,n0,n1,n2,n3]; cases decide (planeAt b 1=planeAt s.pit 1)<;>cases s.o1<;>rfl)
 · exact call_eq rfl rfl (by simp only [↓eA,eB,seval,c202,e1,e2,n0,n1,n2,n3]; cases decide (planeAt b 2=planeAt s.pit 2)<;>cases s.o2<;>rfl)
 · exact call_eq rfl rfl (by simp only [↓eA,eB,seval,c202,e1,e2,n0,n1,n2,n3]; cases decide (planeAt b 3=planeAt s.pit 3)<;>cases s.o3<;>rfl)
end Tz
