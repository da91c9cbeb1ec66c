/- part S148; part S149; part S150; part S151; no conditions. -/
import Derived.Test.YtbdcbppmgbekoaaGreatP11
import Derived.Test.YtbdcbppmgbekoaaGreatP1toP3
import Derived.Test.YtbdcbppmgbekoaaGreatS0A
set_option linter.all false
set_option maxHeartbeats 2000000
set_option maxRecDepth 100000
set_option maxRecDepth 100000
open Gs Go
namespace Tz
theorem e_awake:L.call 6 [] []=some (.bool true,[]):=lim_call.2 ⟨100,aw_run⟩
theorem polyErr_len {p:List Pt}(h:polyErr p=0):3≤p.length∧p.length≤64:=by
 unfold polyErr at h
 split at h
 · cases h
 · split at h
   · cases h
   · omega
theorem flawsOk_of {s:Survey}{b:Box}(h:SurveyOk s)(hb:boxedErr s b=0):FlawsOk s b:=by
 obtain ⟨h1,h2⟩:=boxed_ok hb
 have h6:=six_in h.far
 simp only [Box.six,List.mem_cons,List.not_mem_nil,or_false,forall_eq_or_imp,forall_eq] at h6
 refine ⟨fun f hf=>?_,?_,h1⟩
 · have hp:=h.pe f hf
   obtain ⟨n3,n64⟩:=polyErr_len hp
   have ho:=h.out
   simp only [outB,Bool.or_eq_false_iff] at ho
   have h3:=List.any_eq_false.1 ho.2.2 f hf
   simp only [flawOut,Bool.or_eq_true,Bool.not_eq_true',Bool.and_eq_false_iff,not_or,Bool.not_eq_false] at h3
   have h4:=h3.1.1
   have h5:=h3.1.2
   simp only [inR,Bool.and_eq_true,decide_eq_true_eq] at h4 h5
   have h7:=List.any_eq_false.1 h.fb f hf
   simp only [fbad,decide_eq_true_eq] at h7
   have h8:=List.any_eq_false.1 h.cv f hf
   simp only [Bool.not_eq_true',Bool.not_eq_false] at h8
   exact ⟨n3,n64,polyErr_in hp,by omega,by omega,by omega,gconv_of n3 (polyErr_in hp) h8⟩
 · simp only [outOf,Bool.or_eq_false_iff,decide_eq_false_iff_not] at h2
   simp only [Box.ok,Bool.and_eq_true,decide_eq_true_eq] at h1
   rw [List.any_eq_false]
   intro n hn
   simp only [Box.six,List.mem_cons,List.not_mem_nil,or_false] at hn
   rw [Bool.not_eq_true]
   apply far6_in<;>omega
theorem e_flaws' (s:Survey)(hF:s.Fit)(b:Box):L.call 16 [s.enc,b.enc] []=some (.tup [.fz true 1 ((flawsR s b).map .str),int (sbErr s b)],[]):=
 e_flaws s hF b fun h0=>by
   unfold sbErr at h0
   cases h1:decide (surveyErr s=0) with
   | false=>rw [h1] at h0; exact absurd h0 (of_decide_eq_false h1)
   | true=>rw [h1] at h0; exact flawsOk_of (survey_ok (of_decide_eq_true h1)) h0
theorem sb_ok {s:Survey}{b:Box}(h:sbErr s b=0):SurveyOk s∧boxedErr s b=0:=by
 unfold sbErr at h
 cases h1:decide (surveyErr s=0) with
 | false=>rw [h1] at h; exact absurd h (of_decide_eq_false h1)
 | true=>rw [h1] at h; exact ⟨survey_ok (of_decide_eq_true h1),h⟩
end Tz
set_option maxRecDepth 100000
open Gs Go
namespace Tz
def sizeOver (s:Survey):Bool:=decide (70 < (s.beds.length:Int)) || decide (140 < (s.joints.length:Int)) || decide (70 < (s.flaws.length:Int))
theorem e_small_over (s:Survey)(h:sizeOver s=true):L.call 7 [s.enc] []=some (.bool false,[]):=
 call_eq rfl rfl (by
   have h':=h
   simp only [sizeOver] at h'
   simp only [↓eA,eB,seval,c7,h']
   skip)
theorem small_fit {s:Survey}(h0:sizeOver s=false)(h:smallB s=true):s.Fit:=by
 simp only [sizeOver,Bool.or_eq_false_iff,decide_eq_false_iff_not] at h0
 unfold smallB at h
 simp only [Bool.and_eq_true,Bool.not_eq_true'] at h
 obtain ⟨_,h1,h2⟩:=h
 refine ⟨⟨by omega,by omega,by omega⟩,fun f hf=>?_,fun n hn=>?_⟩
 · have:=List.any_eq_false.1 h1 f hf
   simp only [smallF,decide_eq_true_eq] at this
   omega
 · have:=List.any_eq_false.1 h2 n hn
   simp only [decide_eq_true_eq] at this
   omega
end Tz
set_option maxHeartbeats 2000000
set_option maxRecDepth 100000
set_option maxRecDepth 100000
open Gs Go
namespace Tz
def hasB (l:List ByteArray)(x:ByteArray):Bool:=l.any fun y=>seq y x
theorem hasB_iff {l:List ByteArray}{x:ByteArray} : hasB l x=true↔x∈l:=by
 unfold hasB
 rw [List.any_eq_true]
 constructor
 · rintro ⟨y,hy,h⟩
   exact (seq_iff.1 h) ▸ hy
 · intro h; exact ⟨x,h,seq_refl x⟩
theorem lp_has (nz:Bool)(l:List ByteArray)(hl:l.length < 4000000000)(x:ByteArray)(e:Env)(H:Heap)(h0:Gs.get e 0 = .fz nz 1 (strL l))(h1:Gs.get e 1 = .str x)(h5:Gs.get e 5=int 0) :
   Ends T 22002 e H (fun X e' H'=>match hasB l x with | true=>X = .ret∧Gs.get e' 4 = .bool true | false=>X = .ex 0):=by
 refine (loop_anyH (T:=T) (key:=22002) (li:=l22002.1) rfl l (fun y=>seq y x) (fun i e H=>Gs.get e 0 = .fz nz 1 (strL l)∧Gs.get e 1 = .str x∧Gs.get e 5=int i) (fun X e' H'=>X = .ret∧Gs.get e' 4 = .bool true) (fun X e' H'=>X = .ex 0) ?_ ?_ e H ⟨h0,h1,h5⟩).mono fun X e' H' h=>h
 · rintro i y e H hx hi ⟨h0,h1,h5⟩
   have hx':(strL l)[i]?=some (.str y):=by simp [strL,hx]
   cases hp:seq y x<;>simp only [↓eA,eB,seval,l22002,h0,h1,h5,hi,hx',hp,List.length_map,wrap_succ (show i < 4611686018427387904 by omega)]<;>and_intros<;>first | trivial | rfl
 · rintro e H ⟨h0,h1,h5⟩
   simp only [↓eA,eB,seval,l22002,h0,h1,h5,List.length_map,Nat.lt_irrefl]
   and_intros<;>first | trivial | rfl
theorem e_has (nz:Bool)(l:List ByteArray)(hl:l.length < 4000000000)(x:ByteArray):L.call 22 [.fz nz 1 (strL l),.str x] []=some (.bool (hasB l x),[]):=
 call_eq rfl rfl (by
   simp only [↓eA,eB,seval,c22]
   generalize hE:(lim T).loop 22002 _ _=R
   obtain ⟨X,e1,H1,rfl,hp⟩:=Ends.at hE (lp_has nz l hl x _ _ rfl rfl rfl)
   cases hk:hasB l x with
   | true=>rw [hk] at hp; obtain ⟨rfl,g2⟩:=hp; simp only [↓eA,eB,seval,g2]
   | false=>rw [hk] at hp; subst hp; simp only [↓eA,eB,seval])
abbrev F1 (l:List ByteArray):D:=.fz true 1 (strL l)
abbrev rw1 (l:List ByteArray)(f:Nat):Blk:=.row false 1 (strL l) f true
theorem lp_pa (s:Survey)(th fl u v al:List ByteArray)(ax at_:Int)(hl:al.length < 4000000000)(ht:th.length < 4000000000)(hal:∀ x∈al,hasB th x=true)(e:Env)(H:Heap)(h2:Gs.get e 2=int ax)(h3:Gs.get e 3=int at_)(h4:Gs.get e 4 = .ptr 4 0)(h9:Gs.get e 9=F1 th)(h11:Gs.get e 11=F1 fl)(h19:Gs.get e 19=F1 u)(h21:Gs.get e 21=F1 v)(h23:Gs.get e 23 = .ow 1145)(h24:Gs.get e 24=int 0)(hS:hget H 4=some (.box s.cells false))(hA:hget H 1145=some (rw1 al 0))(n1:hget H 1023=none)(n2:hget H 1147=none) :
   Ends T 5036 e H (fun X e' H'=>X = .ex 1∧Gs.get e' 2=int ax∧Gs.get e' 3=int at_∧Gs.get e' 4 = .ptr 4 0∧Gs.get e' 11=F1 fl∧Gs.get e' 19=F1 u∧Gs.get e' 21=F1 v∧Gs.get e' 23 = .ow 1145∧H'=[(4,.box s.cells false),(1145,rw1 al 0)]):=by
 have hf:al.any (fun x=>!hasB th x)=false:=by rw [List.any_eq_false]; intro x hx; simp [hal x hx]
 refine (loop_anyH (T:=T) (key:=5036) (li:=l5036.1) rfl al (fun x=>!hasB th x) (fun i e H=>Gs.get e 2=int ax∧Gs.get e 3=int at_∧Gs.get e 4 = .ptr 4 0∧Gs.get e 9=F1 th∧Gs.get e 11=F1 fl∧Gs.get e 19=F1 u∧Gs.get e 21=F1 v∧Gs.get e 23 = .ow 1145∧Gs.get e 24=int i∧hget H 4=some (.box s.cells false)∧hget H 1145=some (rw1 al 0)∧hget H 1023=none∧hget H 1147=none) (fun X e' H'=>True)
   (fun X e' H'=>X = .ex 1∧Gs.get e' 2=int ax∧Gs.get e' 3=int at_∧Gs.get e' 4 = .ptr 4 0∧Gs.get e' 11=F1 fl∧Gs.get e' 19=F1 u∧Gs.get e' 21=F1 v∧Gs.get e' 23 = .ow 1145∧H'=[(4,.box s.cells false),(1145,rw1 al 0)]) ?_ ?_ e H ⟨h2,h3,h4,h9,h11,h19,h21,h23,h24,hS,hA,n1,n2⟩).mono fun X e' H' h=>by rw [hf] at h; exact h
 · rintro i x e H hx hi ⟨h2,h3,h4,h9,h11,h19,h21,h23,h24,hS,hA,n1,n2⟩
   have hx':(strL al)[i]?=some (.str x):=by simp [strL,hx]
   have hh:=e_has true th ht x
   rw [hal x (List.mem_of_getElem? hx)] at hh ⊢
   simp only [↓eA,eB,seval,l5036,h2,h3,h4,h9,h11,h19,h21,h23,h24,hS,hA,n1,n2,hi,hx',hh,List.length_map,wrap_succ (show i < 4611686018427387904 by omega)]
   and_intros<;>first | trivial | rfl
 · rintro e H ⟨h2,h3,h4,h9,h11,h19,h21,h23,h24,hS,hA,n1,n2⟩
   simp only [↓eA,eB,seval,l5036,h2,h3,h4,h9,h11,h19,h21,h23,h24,hS,hA,n1,n2,List.length_map,Nat.lt_irrefl]
   and_intros<;>first | trivial | rfl
end Tz
set_option maxHeartbeats 2000000
set_option maxRecDepth 100000
set_option maxRecDepth 100000
open Gs Go
namespace Tz
structure NoRow (H:Heap):Prop where
 a:hget H 1023=none
 b:hget H 1025=none
 c:hget H 1147=none
 d:hget H 1165=none
abbrev HB (s:Survey)(al bo:List ByteArray)(f:Nat):Heap:=[(4,.box s.cells false),(1145,rw1 al 0),(1163,rw1 bo f)]
theorem lp_pbo (s:Survey)(fl al bo:List ByteArray)(ax at_:Int)(hl:bo.length < 4000000000)(ht:fl.length < 4000000000)(hbo:∀ x∈bo,hasB fl x=true)(e:Env)(H:Heap)(h2:Gs.get e 2=int ax)(h3:Gs.get e 3=int at_)(h4:Gs.get e 4 = .ptr 4 0)(h11:Gs.get e 11=F1 fl)(h23:Gs.get e 23 = .ow 1145)(h25:Gs.get e 25 = .ow 1163)(h26:Gs.get e 26=int 0)(hS:hget H 4=some (.box s.cells false))(hA:hget H 1145=some (rw1 al 0))(hB:hget H 1163=some (rw1 bo 0))(n1:hget H 1023=none)(n2:hget H 1025=none)(n3:hget H 1147=none)(n4:hget H 1165=none) :
   Ends T 5042 e H (fun X e' H'=>X = .ex 3∧Gs.get e' 2=int ax∧Gs.get e' 3=int at_∧Gs.get e' 4 = .ptr 4 0∧Gs.get e' 11=F1 fl∧Gs.get e' 23 = .ow 1145∧Gs.get e' 25 = .ow 1163∧H'=HB s al bo 0):=by
 have hf:bo.any (fun x=>!hasB fl x)=false:=by rw [List.any_eq_false]; intro x hx; simp [hbo x hx]
 refine (loop_anyH (T:=T) (key:=5042) (li:=l5042.1) rfl bo (fun x=>!hasB fl x) (fun i e H=>Gs.get e 2=int ax∧Gs.get e 3=int at_∧Gs.get e 4 = .ptr 4 0∧Gs.get e 11=F1 fl∧Gs.get e 23 = .ow 1145∧Gs.get e 25 = .ow 1163∧Gs.get e 26=int i∧hget H 4=some (.box s.cells false)∧hget H 1145=some (rw1 al 0)∧hget H 1163=some (rw1 bo 0)∧hget H 1023=none∧hget H 1025=none∧hget H 1147=none∧hget H 1165=none) (fun X e' H'=>True)
   (fun X e' H'=>X = .ex 3∧Gs.get e' 2=int ax∧Gs.get e' 3=int at_∧Gs.get e' 4 = .ptr 4 0∧Gs.get e' 11=F1 fl∧Gs.get e' 23 = .ow 1145∧Gs.get e' 25 = .ow 1163∧H'=HB s al bo 0) ?_ ?_ e H ⟨h2,h3,h4,h11,h23,h25,h26,hS,hA,hB,n1,n2,n3,n4⟩).mono fun X e' H' h=>by rw [hf] at h; exact h
 · rintro i x e H hx hi ⟨h2,h3,h4,h11,h23,h25,h26,hS,hA,hB,n1,n2,n3,n4⟩
   have hx':(strL bo)[i]?=some (.str x):=by simp [strL,hx]
   have hh:=e_has true fl ht x
   rw [hbo x (List.mem_of_getElem? hx)] at hh ⊢
   simp only [↓eA,eB,seval,l5042,h2,h3,h4,h11,h23,h25,h26,hS,hA,hB,n1,n2,n3,n4,hi,hx',hh,List.length_map,wrap_succ (show i < 4611686018427387904 by omega)]
   and_intros<;>first | trivial | rfl
 · rintro e H ⟨h2,h3,h4,h11,h23,h25,h26,hS,hA,hB,n1,n2,n3,n4⟩
   simp only [↓eA,eB,seval,l5042,h2,h3,h4,h11,h23,h25,h26,hS,hA,hB,n1,n2,n3,n4,List.length_map,Nat.lt_irrefl]
   and_intros<;>first | trivial | rfl
theorem lp_pfl (s:Survey)(fl al bo:List ByteArray)(ax at_:Int)(hl:fl.length < 4000000000)(ht:bo.length < 4000000000)(hbo:∀ x∈fl,hasB bo x=true)(e:Env)(H:Heap)(h2:Gs.get e 2=int ax)(h3:Gs.get e 3=int at_)(h4:Gs.get e 4 = .ptr 4 0)(h11:Gs.get e 11=F1 fl)(h23:Gs.get e 23 = .ow 1145)(h25:Gs.get e 25 = .ow 1163)(h26:Gs.get e 27=int 0)(hS:hget H 4=some (.box s.cells false))(hA:hget H 1145=some (rw1 al 0))(hB:hget H 1163=some (rw1 bo 0))(n1:hget H 1023=none)(n2:hget H 1025=none)(n3:hget H 1147=none)(n4:hget H 1165=none) :
   Ends T 5047 e H (fun X e' H'=>X = .ex 5∧Gs.get e' 2=int ax∧Gs.get e' 3=int at_∧Gs.get e' 4 = .ptr 4 0∧Gs.get e' 23 = .ow 1145∧∃ f,H'=HB s al bo f):=by
 have hf:fl.any (fun x=>!hasB bo x)=false:=by rw [List.any_eq_false]; intro x hx; simp [hbo x hx]
 refine (loop_anyH (T:=T) (key:=5047) (li:=l5047.1) rfl fl (fun x=>!hasB bo x) (fun i e H=>Gs.get e 2=int ax∧Gs.get e 3=int at_∧Gs.get e 4 = .ptr 4 0∧Gs.get e 11=F1 fl∧Gs.get e 23 = .ow 1145∧Gs.get e 25 = .ow 1163∧Gs.get e 27=int i∧hget H 4=some (.box s.cells false)∧hget H 1145=some (rw1 al 0)∧(∃ f,hget H 1163=some (rw1 bo f))∧hget H 1023=none∧hget H 1025=none∧hget H 1147=none∧hget H 1165=none) (fun X e' H'=>True)
   (fun X e' H'=>X = .ex 5∧Gs.get e' 2=int ax∧Gs.get e' 3=int at_∧Gs.get e' 4 = .ptr 4 0∧Gs.get e' 23 = .ow 1145∧∃ f,H'=HB s al bo f) ?_ ?_ e H ⟨h2,h3,h4,h11,h23,h25,h26,hS,hA,⟨0,hB⟩,n1,n2,n3,n4⟩).mono fun X e' H' h=>by rw [hf] at h; exact h
 · rintro i x e H hx hi ⟨h2,h3,h4,h11,h23,h25,h26,hS,hA,⟨f,hB⟩,n1,n2,n3,n4⟩
   have hx':(strL fl)[i]?=some (.str x):=by simp [strL,hx]
   have hh:=e_has false bo ht x
   rw [hbo x (List.mem_of_getElem? hx)] at hh ⊢
   simp only [↓eA,eB,seval,l5047,h2,h3,h4,h11,h23,h25,h26,hS,hA,hB,n1,n2,n3,n4,hi,hx',hh,List.length_map,wrap_succ (show i < 4611686018427387904 by omega)]
   and_intros<;>first | trivial | rfl | exact ⟨_,rfl⟩
 · rintro e H ⟨h2,h3,h4,h11,h23,h25,h26,hS,hA,⟨f,hB⟩,n1,n2,n3,n4⟩
   simp only [↓eA,eB,seval,l5047,h2,h3,h4,h11,h23,h25,h26,hS,hA,hB,n1,n2,n3,n4,List.length_map,Nat.lt_irrefl]
   and_intros<;>first | trivial | rfl | exact ⟨_,rfl⟩
def jPl (ax at_:Int)(al:List ByteArray)(j:Joint):Bool:=(decide (j.axis=ax) && decide (j.at_=at_)) && hasB al j.name
def bPl (ax at_:Int)(al:List ByteArray)(d:Bed):Bool:=((!decide (ax=0) && !decide (ax=1)) && decide (d.z=at_)) && hasB al d.name
theorem lp_pj2 (s:Survey)(hF:s.Fit0)(al:List ByteArray)(ax at_:Int)(hl:al.length < 4000000000)(hno:s.joints.any (jPl ax at_ al)=false)(e:Env)(H:Heap)(h2:Gs.get e 2=int ax)(h3:Gs.get e 3=int at_)(h4:Gs.get e 4 = .ptr 4 0)(h23:Gs.get e 23 = .ow 1145)(h26:Gs.get e 28=int 0)(hS:hget H 4=some (.box s.cells false))(hA:hget H 1145=some (rw1 al 0))(n1:hget H 1023=none)(n3:hget H 1147=none) :
   Ends T 5052 e H (fun X e' H'=>X = .ex 7∧Gs.get e' 2=int ax∧Gs.get e' 3=int at_∧Gs.get e' 4 = .ptr 4 0∧(Gs.get e' 23 = .ow 1145∨Gs.get e' 23 = .fz false 1 (strL al))∧∃ f,H'=[(4,.box s.cells false),(1145,rw1 al f)]):=by
 have hb:=hF.jl
 refine (loop_anyH (T:=T) (key:=5052) (li:=l5052.1) rfl s.joints (jPl ax at_ al) (fun i e H=>Gs.get e 2=int ax∧Gs.get e 3=int at_∧Gs.get e 4 = .ptr 4 0∧(Gs.get e 23 = .ow 1145∨Gs.get e 23 = .fz false 1 (strL al))∧Gs.get e 28=int i∧hget H 4=some (.box s.cells false)∧(∃ f,hget H 1145=some (rw1 al f))∧hget H 1023=none∧hget H 1147=none) (fun X e' H'=>True)
   (fun X e' H'=>X = .ex 7∧Gs.get e' 2=int ax∧Gs.get e' 3=int at_∧Gs.get e' 4 = .ptr 4 0∧(Gs.get e' 23 = .ow 1145∨Gs.get e' 23 = .fz false 1 (strL al))∧∃ f,H'=[(4,.box s.cells false),(1145,rw1 al f)]) ?_ ?_ e H ⟨h2,h3,h4,.inl h23,h26,hS,⟨0,hA⟩,n1,n3⟩).mono fun X e' H' h=>by rw [hno] at h; exact h
 · rintro i j e H hx hi ⟨h2,h3,h4,h23,h26,hS,⟨f,hA⟩,n1,n3⟩
   have hx':(s.joints.map Joint.enc)[i]?=some j.enc:=by simp [hx]
   have hh:=e_has false al hl j.name
   have hj:jPl ax at_ al j=false:=by simpa using List.any_eq_false.1 hno j (List.mem_of_getElem? hx)
   rw [hj]
   simp only [jPl] at hj
   rcases h23 with h23 | h23<;>cases d1:decide (j.axis=ax)<;>cases d2:decide (j.at_=at_)<;>rw [d1,d2] at hj<;>simp only [Bool.true_and,Bool.false_and] at hj <;>
   simp only [↓eA,eB,seval,l5052,h2,h3,h4,h23,h26,hS,hA,n1,n3,hi,hx',d1,d2,hj,hh,wrap_succ (show i < 4611686018427387904 by omega)] <;>
   and_intros<;>first | trivial | rfl | exact ⟨_,rfl⟩ | exact .inl rfl | exact .inr rfl
 · rintro e H ⟨h2,h3,h4,h23,h26,hS,⟨f,hA⟩,n1,n3⟩
   rcases h23 with h23 | h23 <;>
   simp only [↓eA,eB,seval,l5052,h2,h3,h4,h23,h26,hS,hA,n1,n3,Nat.lt_irrefl] <;>
   and_intros<;>first | trivial | rfl | exact ⟨_,rfl⟩ | exact .inl rfl | exact .inr rfl
theorem lp_pb2 (s:Survey)(hF:s.Fit0)(al:List ByteArray)(ax at_:Int)(hl:al.length < 4000000000)(hno:s.beds.any (bPl ax at_ al)=false)(e:Env)(H:Heap)(h2:Gs.get e 2=int ax)(h3:Gs.get e 3=int at_)(h4:Gs.get e 4 = .ptr 4 0)(h23:Gs.get e 23 = .ow 1145∨Gs.get e 23 = .fz false 1 (strL al))(h26:Gs.get e 29=int 0)(hS:hget H 4=some (.box s.cells false))(hA:∃ f,hget H 1145=some (rw1 al f))(n1:hget H 1023=none)(n3:hget H 1147=none) :
   Ends T 5057 e H (fun X e' H'=>X = .ex 9):=by
 have hb:=hF.bl
 refine (loop_anyH (T:=T) (key:=5057) (li:=l5057.1) rfl s.beds (bPl ax at_ al) (fun i e H=>Gs.get e 2=int ax∧Gs.get e 3=int at_∧Gs.get e 4 = .ptr 4 0∧(Gs.get e 23 = .ow 1145∨Gs.get e 23 = .fz false 1 (strL al))∧Gs.get e 29=int i∧hget H 4=some (.box s.cells false)∧(∃ f,hget H 1145=some (rw1 al f))∧hget H 1023=none∧hget H 1147=none) (fun X e' H'=>True)
   (fun X e' H'=>X = .ex 9) ?_ ?_ e H ⟨h2,h3,h4,h23,h26,hS,hA,n1,n3⟩).mono fun X e' H' h=>by rw [hno] at h; exact h
 · rintro i j e H hx hi ⟨h2,h3,h4,h23,h26,hS,⟨f,hA⟩,n1,n3⟩
   have hx':(s.beds.map Bed.enc)[i]?=some j.enc:=by simp [hx]
   have hh:=e_has false al hl j.name
   have hj:bPl ax at_ al j=false:=by simpa using List.any_eq_false.1 hno j (List.mem_of_getElem? hx)
   rw [hj]
   simp only [bPl] at hj
   rcases h23 with h23 | h23<;>cases d0:decide (ax=0)<;>cases d1:decide (ax=1)<;>cases d2:decide (j.z=at_)<;>rw [d0,d1,d2] at hj<;>simp only [Bool.true_and,Bool.false_and,Bool.not_true,Bool.not_false,Bool.and_true,Bool.and_false] at hj <;>
   simp only [↓eA,eB,seval,l5057,h2,h3,h4,h23,h26,hS,hA,n1,n3,hi,hx',d0,d1,d2,hj,hh,wrap_succ (show i < 4611686018427387904 by omega)] <;>
   and_intros<;>first | trivial | rfl | exact ⟨_,rfl⟩ | exact .inl rfl | exact .inr rfl
 · rintro e H ⟨h2,h3,h4,h23,h26,hS,⟨f,hA⟩,n1,n3⟩
   rcases h23 with h23 | h23 <;>
   simp only [↓eA,eB,seval,l5057,h2,h3,h4,h23,h26,hS,hA,n1,n3,Nat.lt_irrefl] <;>
   and_intros<;>first | trivial | rfl
end Tz
