/- Names and size, reference; Shapes, order and place, reference; Check, Boxed and Open, reference; Interval ends, reference; Interval ends, second part; Set and Same, reference; no conditions. -/
import Derived.Test.YtbdcbppmgbekoaaGreatS12toS16
set_option linter.all false
set_option maxRecDepth 100000
open Gs Go
namespace Tz
abbrev Hq (s:Survey)(acc:List D):Heap:=[(1,.box s.cells false),(1003,.row false 1 acc 0 true)]
theorem lp_rn1 (s:Survey)(hF:s.Fit0)(acc:List D)(hacc:acc.length≤4000000000)(e:Env)(H:Heap)(h1:Gs.get e 1 = .ptr 1 0)(h3:Gs.get e 3 = .ow 1003)(hi:Gs.get e 4=int 0)(hH1:hget H 1=some (.box s.cells false))(hH3:hget H 1003=some (.row false 1 acc 0 true)) :
   Ends T 25003 e H (fun X e' H'=>X = .ex 0∧Gs.get e' 1 = .ptr 1 0∧Gs.get e' 3 = .ow 1003∧H'=Hq s (acc ++ s.beds.map fun b=>.str b.name)):=by
 have hb:=hF.bl
 refine (loop_fold (T:=T) (key:=25003) (li:=l25003.1) rfl s.beds (fun (a:List D) (b:Bed)=>a ++ [.str b.name]) (fun i a e H=>Gs.get e 1 = .ptr 1 0∧Gs.get e 3 = .ow 1003∧Gs.get e 4=int i∧hget H 1=some (.box s.cells false)∧hget H 1003=some (.row false 1 a 0 true)∧a.length=acc.length + i) (fun a X e' H'=>X = .ex 0∧Gs.get e' 1 = .ptr 1 0∧Gs.get e' 3 = .ow 1003∧H'=Hq s a) ?_ ?_ acc e H ⟨h1,h3,hi,hH1,hH3,rfl⟩).mono ?_
 · rintro i b a e H hx hi ⟨h1,h3,h13,hH1,hH3,hl⟩
   have hx':(s.beds.map Bed.enc)[i]?=some b.enc:=by simp [hx]
   have hfit:fits (a.length + (0 + 1)) 16=true:=fits_of (by omega)
   simp only [↓eA,eB,seval,l25003,h1,h3,h13,hH1,hH3,hi,hx',hfit,wrap_succ (show i < 4611686018427387904 by omega)]
   refine ⟨trivial,trivial,trivial,trivial,trivial,trivial,?_⟩
   simp; omega
 · rintro a e H ⟨h1,h3,h13,hH1,hH3,hl⟩
   simp only [↓eA,eB,seval,l25003,h1,h3,h13,hH1,hH3,Nat.lt_irrefl]
   and_intros<;>first | trivial | rfl
 · rintro X e' H' ⟨rfl,g1,g3,rfl⟩
   refine ⟨rfl,g1,g3,?_⟩
   have:∀ (l:List Bed) (a:List D),l.foldl (fun a b=>a ++ [.str b.name]) a=a ++ l.map fun b=>.str b.name:=by
     intro l
     induction l with
     | nil=>intro a; simp
     | cons b r ih=>intro a; simp [ih]
   rw [this]
theorem lp_rn2 (s:Survey)(hF:s.Fit0)(acc:List D)(hacc:acc.length≤4000000000)(e:Env)(H:Heap)(h1:Gs.get e 1 = .ptr 1 0)(h3:Gs.get e 3 = .ow 1003)(hi:Gs.get e 5=int 0)(hH1:hget H 1=some (.box s.cells false))(hH3:hget H 1003=some (.row false 1 acc 0 true)) :
   Ends T 25007 e H (fun X e' H'=>X = .ex 2∧Gs.get e' 1 = .ptr 1 0∧Gs.get e' 3 = .ow 1003∧H'=Hq s (acc ++ s.joints.map fun b=>.str b.name)):=by
 have hb:=hF.jl
 refine (loop_fold (T:=T) (key:=25007) (li:=l25007.1) rfl s.joints (fun (a:List D) (b:Joint)=>a ++ [.str b.name]) (fun i a e H=>Gs.get e 1 = .ptr 1 0∧Gs.get e 3 = .ow 1003∧Gs.get e 5=int i∧hget H 1=some (.box s.cells false)∧hget H 1003=some (.row false 1 a 0 true)∧a.length=acc.length + i) (fun a X e' H'=>X = .ex 2∧Gs.get e' 1 = .ptr 1 0∧Gs.get e' 3 = .ow 1003∧H'=Hq s a) ?_ ?_ acc e H ⟨h1,h3,hi,hH1,hH3,rfl⟩).mono ?_
 · rintro i b a e H hx hi ⟨h1,h3,h13,hH1,hH3,hl⟩
   have hx':(s.joints.map Joint.enc)[i]?=some b.enc:=by simp [hx]
   have hfit:fits (a.length + (0 + 1)) 16=true:=fits_of (by omega)
   simp only [↓eA,eB,seval,l25007,h1,h3,h13,hH1,hH3,hi,hx',hfit,wrap_succ (show i < 4611686018427387904 by omega)]
   refine ⟨trivial,trivial,trivial,trivial,trivial,trivial,?_⟩
   simp; omega
 · rintro a e H ⟨h1,h3,h13,hH1,hH3,hl⟩
   simp only [↓eA,eB,seval,l25007,h1,h3,h13,hH1,hH3,Nat.lt_irrefl]
   and_intros<;>first | trivial | rfl
 · rintro X e' H' ⟨rfl,g1,g3,rfl⟩
   refine ⟨rfl,g1,g3,?_⟩
   have:∀ (l:List Joint) (a:List D),l.foldl (fun a b=>a ++ [.str b.name]) a=a ++ l.map fun b=>.str b.name:=by
     intro l
     induction l with
     | nil=>intro a; simp
     | cons b r ih=>intro a; simp [ih]
   rw [this]
theorem lp_rn3 (s:Survey)(hF:s.Fit0)(acc:List D)(hacc:acc.length≤4000000000)(e:Env)(H:Heap)(h1:Gs.get e 1 = .ptr 1 0)(h3:Gs.get e 3 = .ow 1003)(hi:Gs.get e 6=int 0)(hH1:hget H 1=some (.box s.cells false))(hH3:hget H 1003=some (.row false 1 acc 0 true)) :
   Ends T 25011 e H (fun X e' H'=>X = .ex 4∧Gs.get e' 1 = .ptr 1 0∧Gs.get e' 3 = .ow 1003∧H'=Hq s (acc ++ s.flaws.map fun b=>.str b.name)):=by
 have hb:=hF.fl
 refine (loop_fold (T:=T) (key:=25011) (li:=l25011.1) rfl s.flaws (fun (a:List D) (b:Flaw)=>a ++ [.str b.name]) (fun i a e H=>Gs.get e 1 = .ptr 1 0∧Gs.get e 3 = .ow 1003∧Gs.get e 6=int i∧hget H 1=some (.box s.cells false)∧hget H 1003=some (.row false 1 a 0 true)∧a.length=acc.length + i) (fun a X e' H'=>X = .ex 4∧Gs.get e' 1 = .ptr 1 0∧Gs.get e' 3 = .ow 1003∧H'=Hq s a) ?_ ?_ acc e H ⟨h1,h3,hi,hH1,hH3,rfl⟩).mono ?_
 · rintro i b a e H hx hi ⟨h1,h3,h13,hH1,hH3,hl⟩
   have hx':(s.flaws.map Flaw.enc)[i]?=some b.enc:=by simp [hx]
   have hfit:fits (a.length + (0 + 1)) 16=true:=fits_of (by omega)
   simp only [↓eA,eB,seval,l25011,h1,h3,h13,hH1,hH3,hi,hx',hfit,wrap_succ (show i < 4611686018427387904 by omega)]
   refine ⟨trivial,trivial,trivial,trivial,trivial,trivial,?_⟩
   simp; omega
 · rintro a e H ⟨h1,h3,h13,hH1,hH3,hl⟩
   simp only [↓eA,eB,seval,l25011,h1,h3,h13,hH1,hH3,Nat.lt_irrefl]
   and_intros<;>first | trivial | rfl
 · rintro X e' H' ⟨rfl,g1,g3,rfl⟩
   refine ⟨rfl,g1,g3,?_⟩
   have:∀ (l:List Flaw) (a:List D),l.foldl (fun a b=>a ++ [.str b.name]) a=a ++ l.map fun b=>.str b.name:=by
     intro l
     induction l with
     | nil=>intro a; simp
     | cons b r ih=>intro a; simp [ih]
   rw [this]
theorem e_rNames (s:Survey)(hF:s.Fit0):L.call 25 [s.enc] []=some (.fz false 1 (s.names.map .str),[]):=
 call_eq rfl rfl (by
   have hb:=hF.bl; have hj:=hF.jl
   simp only [↓eA,eB,seval,c25]
   generalize hE:(lim T).loop 25003 _ _=R
   obtain ⟨X,e',H',rfl,rfl,g1,g3,rfl⟩:=Ends.at hE (lp_rn1 s hF [] (by simp) _ _ rfl rfl rfl rfl rfl)
   simp only [↓eA,eB,seval,g1,g3]
   generalize hE:(lim T).loop 25007 _ _=R
   obtain ⟨X,e',H',rfl,rfl,g1,g3,rfl⟩:=Ends.at hE (lp_rn2 s hF _ (by simp; omega) _ _ (by simp only [↓eA,eB,seval,g1]) (by simp only [↓eA,eB,seval,g3]) (by simp only [↓eA,eB,seval]) (by simp only [↓eA,eB,seval]) rfl)
   simp only [↓eA,eB,seval,g1,g3]
   generalize hE:(lim T).loop 25011 _ _=R
   obtain ⟨X,e',H',rfl,rfl,g1,g3,rfl⟩:=Ends.at hE (lp_rn3 s hF _ (by simp; omega) _ _ (by simp only [↓eA,eB,seval,g1]) (by simp only [↓eA,eB,seval,g3]) (by simp only [↓eA,eB,seval]) (by simp only [↓eA,eB,seval]) rfl)
   simp only [↓eA,eB,seval,g3]
   rw [←names_map]
   simp only [List.nil_append])
def smallF (f:Flaw):Bool:=decide (10 < (f.base.length:Int))
def smallB (s:Survey):Bool:=!((decide (70 < (s.beds.length:Int)) || decide (140 < (s.joints.length:Int)) || decide (70 < (s.flaws.length:Int))) || decide (150 < (s.beds.length:Int) + (s.joints.length:Int) + (s.flaws.length:Int))) && (!s.flaws.any smallF && !s.names.any (fun n=>decide (100 < (n.size:Int))))
theorem lp_s1 (s:Survey)(hF:s.Fit0)(e:Env)(h1:Gs.get e 1 = .ptr 1 0)(h3:Gs.get e 3=int 0) :
   Ends T 7004 e (Hs s) (fun X e' H'=>H'=Hs s∧match s.flaws.any smallF with | true=>X = .ret∧Gs.get e' 2 = .bool false | false=>X = .ex 0∧Gs.get e' 1 = .ptr 1 0):=by
 have hb:=hF.fl
 refine loop_any (T:=T) (key:=7004) (li:=l7004.1) rfl s.flaws smallF (Hs s) (fun i e=>Gs.get e 1 = .ptr 1 0∧Gs.get e 3=int i) (fun X e'=>X = .ret∧Gs.get e' 2 = .bool false) (fun X e'=>X = .ex 0∧Gs.get e' 1 = .ptr 1 0) ?_ ?_ e ⟨h1,h3⟩
 · rintro i f e hx hi ⟨h1,h3⟩
   have hx':(s.flaws.map Flaw.enc)[i]?=some f.enc:=by simp [hx]
   simp only [↓eA,eB,seval,l7004,h1,h3,hi,hx',wrap_succ (show i < 4611686018427387904 by omega)]
   cases hc:smallF f<;>simp only [smallF] at hc<;>simp only [↓eA,eB,seval,hc]<;>and_intros<;>first | trivial | rfl
 · rintro e ⟨h1,h3⟩
   simp only [↓eA,eB,seval,l7004,h1,h3,Nat.lt_irrefl]
   and_intros<;>first | trivial | rfl
theorem lp_s2 (nz:Bool)(l:List ByteArray)(hb:l.length < 4000000000)(e:Env)(H:Heap)(h4:Gs.get e 4 = .fz nz 1 (l.map .str))(h5:Gs.get e 5=int 0) :
   Ends T 7010 e H (fun X e' H'=>match l.any (fun n=>decide (100 < (n.size:Int))) with | true=>X = .ret∧Gs.get e' 2 = .bool false | false=>X = .ex 2):=by
 refine loop_anyH (T:=T) (key:=7010) (li:=l7010.1) rfl l (fun n=>decide (100 < (n.size:Int))) (fun i e H=>Gs.get e 4 = .fz nz 1 (l.map .str)∧Gs.get e 5=int i) (fun X e' H'=>X = .ret∧Gs.get e' 2 = .bool false) (fun X e' H'=>X = .ex 2) ?_ ?_ e H ⟨h4,h5⟩
 · rintro i n e H hx hi ⟨h4,h5⟩
   have hx':(l.map D.str)[i]?=some (.str n):=by simp [hx]
   simp only [↓eA,eB,seval,l7010,h4,h5,hi,hx',wrap_succ (show i < 4611686018427387904 by omega)]
   cases hc:decide (100 < (n.size:Int))<;>simp only [↓eA,eB,seval,hc]<;>and_intros<;>first | trivial | rfl
 · rintro e H ⟨h4,h5⟩
   simp only [↓eA,eB,seval,l7010,h4,h5,Nat.lt_irrefl]
   and_intros<;>first | trivial | rfl
theorem e_small (s:Survey)(hF:s.Fit0):L.call 7 [s.enc] []=some (.bool (smallB s),[]):=
 call_eq rfl rfl (by
   have hb:=hF.bl; have hj:=hF.jl; have hf:=hF.fl
   have hnl:=s.names_length
   have hw1:IntKind.i64.wrap ((s.beds.length:Int) + (s.joints.length:Int))=(s.beds.length:Int) + (s.joints.length:Int):=wrap_in (by omega) (by omega)
   have hw2:IntKind.i64.wrap ((s.beds.length:Int) + (s.joints.length:Int) + (s.flaws.length:Int))=(s.beds.length:Int) + (s.joints.length:Int) + (s.flaws.length:Int):=wrap_in (by omega) (by omega)
   unfold smallB
   cases hc:((decide (70 < (s.beds.length:Int)) || decide (140 < (s.joints.length:Int)) || decide (70 < (s.flaws.length:Int))) || decide (150 < (s.beds.length:Int) + (s.joints.length:Int) + (s.flaws.length:Int))) with
   | true=>simp only [↓eA,eB,seval,c7,hw1,hw2,hc]
   | false=>
   simp only [↓eA,eB,seval,c7,hw1,hw2,hc]
   generalize hE:(lim T).loop 7004 _ _=R
   obtain ⟨X,e',H',rfl,rfl,hP⟩:=Ends.at hE (lp_s1 s hF _ rfl rfl)
   cases hs:s.flaws.any smallF with
   | true=>rw [hs] at hP; obtain ⟨rfl,g⟩:=hP; simp only [↓eA,eB,seval,g]
   | false=>
   rw [hs] at hP; obtain ⟨rfl,g1⟩:=hP
   simp only [↓eA,eB,seval,g1,e_rNames s hF]
   generalize hE:(lim T).loop 7010 _ _=R
   obtain ⟨X,e',H',rfl,hP⟩:=Ends.at hE (lp_s2 false s.names (by omega) _ _ (by simp only [↓eA,eB,seval]) (by simp only [↓eA,eB,seval]))
   cases hn:s.names.any (fun n=>decide (100 < (n.size:Int))) with
   | true=>rw [hn] at hP; obtain ⟨rfl,g⟩:=hP; simp only [↓eA,eB,seval,g]
   | false=>rw [hn] at hP; subst hP; simp only [↓eA,eB,seval])
end Tz
set_option maxRecDepth 100000
open Gs Go
namespace Tz
def rShapes (s:Survey):Int:=bif s.joints.any jbad then 1 else bif s.flaws.any fbad then 1 else
 match s.flaws.find? (fun f=>!decide (polyErr f.base=0)) with
 | some f=>polyErr f.base
 | none=>bif s.flaws.any (fun f=>!convex f.base) then 10 else 0
abbrev box1 (s:Survey)(H:Heap):Prop:=hget H 1=some (.box s.cells false)
theorem lp_h1 (s:Survey)(hF:s.Fit)(e:Env)(H:Heap)(h1:Gs.get e 1 = .ptr 1 0)(h3:Gs.get e 3=int 0)(hH:box1 s H) :
   Ends T 33002 e H (fun X e' H'=>match s.joints.any jbad with | true=>X = .ret∧Gs.get e' 2=int 1 | false=>X = .ex 0∧Gs.get e' 1 = .ptr 1 0∧H'=Hs s):=by
 have hb:=hF.jl
 refine loop_anyH (T:=T) (key:=33002) (li:=l33002.1) rfl s.joints jbad (fun i e H=>Gs.get e 1 = .ptr 1 0∧Gs.get e 3=int i∧box1 s H) (fun X e' H'=>X = .ret∧Gs.get e' 2=int 1) (fun X e' H'=>X = .ex 0∧Gs.get e' 1 = .ptr 1 0∧H'=Hs s) ?_ ?_ e H ⟨h1,h3,hH⟩
 · rintro i j e H hx hi ⟨h1,h3,hH⟩
   have hx':(s.joints.map Joint.enc)[i]?=some j.enc:=by simp [hx]
   simp only [↓eA,eB,seval,l33002,h1,h3,hH,hi,hx',wrap_succ (show i < 4611686018427387904 by omega)]
   cases hc:jbad j<;>simp only [jbad] at hc<;>simp only [↓eA,eB,seval,hc]<;>and_intros<;>first | trivial | rfl
 · rintro e H ⟨h1,h3,hH⟩
   simp only [↓eA,eB,seval,l33002,h1,h3,hH,Nat.lt_irrefl]
   and_intros<;>first | trivial | rfl
theorem lp_h2 (s:Survey)(hF:s.Fit)(e:Env)(H:Heap)(h1:Gs.get e 1 = .ptr 1 0)(h3:Gs.get e 5=int 0)(hH:box1 s H) :
   Ends T 33008 e H (fun X e' H'=>match s.flaws.any fbad with | true=>X = .ret∧Gs.get e' 2=int 1 | false=>X = .ex 2∧Gs.get e' 1 = .ptr 1 0∧H'=Hs s):=by
 have hb:=hF.fl
 refine loop_anyH (T:=T) (key:=33008) (li:=l33008.1) rfl s.flaws fbad (fun i e H=>Gs.get e 1 = .ptr 1 0∧Gs.get e 5=int i∧box1 s H) (fun X e' H'=>X = .ret∧Gs.get e' 2=int 1) (fun X e' H'=>X = .ex 2∧Gs.get e' 1 = .ptr 1 0∧H'=Hs s) ?_ ?_ e H ⟨h1,h3,hH⟩
 · rintro i f e H hx hi ⟨h1,h3,hH⟩
   have hx':(s.flaws.map Flaw.enc)[i]?=some f.enc:=by simp [hx]
   simp only [↓eA,eB,seval,l33008,h1,h3,hH,hi,hx',wrap_succ (show i < 4611686018427387904 by omega)]
   cases hc:fbad f<;>simp only [fbad] at hc<;>simp only [↓eA,eB,seval,hc]<;>and_intros<;>first | trivial | rfl
 · rintro e H ⟨h1,h3,hH⟩
   simp only [↓eA,eB,seval,l33008,h1,h3,hH,Nat.lt_irrefl]
   and_intros<;>first | trivial | rfl
theorem lp_h3 (s:Survey)(hF:s.Fit)(e:Env)(H:Heap)(h1:Gs.get e 1 = .ptr 1 0)(h3:Gs.get e 6=int 0)(hH:box1 s H) :
   Ends T 33013 e H (fun X e' H'=>match s.flaws.find? (fun f=>!decide (polyErr f.base=0)) with | some f=>X = .ret∧Gs.get e' 2=int (polyErr f.base) | none=>X = .ex 4∧Gs.get e' 1 = .ptr 1 0∧H'=Hs s):=by
 have hb:=hF.fl
 refine (loop_thru (T:=T) (key:=33013) (li:=l33013.1) rfl (S:=Unit) (R:=Flaw) (fun s f=>bif !decide (polyErr f.base=0) then .inl f else .inr s) s.flaws (fun i _ e H=>Gs.get e 1 = .ptr 1 0∧Gs.get e 6=int i∧box1 s H) (fun f X e' H'=>X = .ret∧Gs.get e' 2=int (polyErr f.base)) (fun _ X e' H'=>X = .ex 4∧Gs.get e' 1 = .ptr 1 0∧H'=Hs s) ?_ ?_ ?_ s.flaws [] () e H rfl ⟨h1,h3,hH⟩).mono ?_
 · rintro i f u u' e H hx ⟨h1,h3,hH⟩ hf
   have hi:i < s.flaws.length:=(List.getElem?_eq_some_iff.1 hx).1
   have hx':(s.flaws.map Flaw.enc)[i]?=some f.enc:=by simp [hx]
   have hfb:=hF.base f (List.mem_of_getElem? hx)
   cases hp:decide (polyErr f.base=0) with
   | false=>rw [hp] at hf; cases hf
   | true=>
     simp only [↓eA,eB,seval,l33013,h1,h3,hH,hi,hx',e_rPolyCheck f.base hfb,hp,wrap_succ (show i < 4611686018427387904 by omega)]
     and_intros<;>first | trivial | rfl
 · rintro i f u r e H hx ⟨h1,h3,hH⟩ hf
   have hi:i < s.flaws.length:=(List.getElem?_eq_some_iff.1 hx).1
   have hx':(s.flaws.map Flaw.enc)[i]?=some f.enc:=by simp [hx]
   have hfb:=hF.base f (List.mem_of_getElem? hx)
   cases hp:decide (polyErr f.base=0) with
   | true=>rw [hp] at hf; cases hf
   | false=>
     rw [hp] at hf; injection hf with hf; subst hf
     simp only [↓eA,eB,seval,l33013,h1,h3,hH,hi,hx',e_rPolyCheck f.base hfb,hp]
     and_intros<;>first | trivial | rfl
 · rintro u e H ⟨h1,h3,hH⟩
   simp only [↓eA,eB,seval,l33013,h1,h3,hH,Nat.lt_irrefl]
   and_intros<;>first | trivial | rfl
 · intro X e' H' h
   rw [thru_find] at h
   cases hf:s.flaws.find? (fun f=>!decide (polyErr f.base=0)) with
   | none=>rw [hf] at h; exact h
   | some f=>rw [hf] at h; exact h
theorem lp_h4 (s:Survey)(hF:s.Fit)(hall:∀ f∈s.flaws,polyErr f.base=0)(e:Env)(H:Heap)(h1:Gs.get e 1 = .ptr 1 0)(h3:Gs.get e 8=int 0)(hH:box1 s H) :
   Ends T 33019 e H (fun X e' H'=>match s.flaws.any (fun f=>!convex f.base) with | true=>X = .ret∧Gs.get e' 2=int 10 | false=>X = .ex 6):=by
 have hb:=hF.fl
 refine loop_anyH (T:=T) (key:=33019) (li:=l33019.1) rfl s.flaws (fun f=>!convex f.base) (fun i e H=>Gs.get e 1 = .ptr 1 0∧Gs.get e 8=int i∧box1 s H) (fun X e' H'=>X = .ret∧Gs.get e' 2=int 10) (fun X e' H'=>X = .ex 6) ?_ ?_ e H ⟨h1,h3,hH⟩
 · rintro i f e H hx hi ⟨h1,h3,hH⟩
   have hx':(s.flaws.map Flaw.enc)[i]?=some f.enc:=by simp [hx]
   have hm:=List.mem_of_getElem? hx
   have hfb:=hF.base f hm
   have hcx:=e_rConvex f.base hfb (polyErr_in (hall f hm))
   simp only [↓eA,eB,seval,l33019,h1,h3,hH,hi,hx',hcx,wrap_succ (show i < 4611686018427387904 by omega)]
   cases hc:convex f.base<;>simp only [↓eA,eB,seval,hc]<;>and_intros<;>first | trivial | rfl
 · rintro e H ⟨h1,h3,hH⟩
   simp only [↓eA,eB,seval,l33019,h1,h3,hH,Nat.lt_irrefl]
   and_intros<;>first | trivial | rfl
theorem e_shapes (s:Survey)(hF:s.Fit):L.call 33 [s.enc] []=some (int (rShapes s),[]):=
 call_eq rfl rfl (by
   have hb:=hF.bl; have hj:=hF.jl; have hf:=hF.fl
   unfold rShapes
   simp only [↓eA,eB,seval,c33]
   generalize hE:(lim T).loop 33002 _ _=R
   obtain ⟨X,e',H',rfl,h⟩:=Ends.at hE (lp_h1 s hF _ _ rfl rfl rfl)
   cases hk:s.joints.any jbad with
   | true=>rw [hk] at h; obtain ⟨rfl,g2⟩:=h; simp only [↓eA,eB,seval,g2]
   | false=>
   rw [hk] at h; obtain ⟨rfl,g1,rfl⟩:=h
   simp only [↓eA,eB,seval,g1]
   generalize hE:(lim T).loop 33008 _ _=R
   obtain ⟨X,e',H',rfl,h⟩:=Ends.at hE (lp_h2 s hF _ _ (by simp only [↓eA,eB,seval,g1]) (by simp only [↓eA,eB,seval]) rfl)
   cases hk:s.flaws.any fbad with
   | true=>rw [hk] at h; obtain ⟨rfl,g2⟩:=h; simp only [↓eA,eB,seval,g2]
   | false=>
   rw [hk] at h; obtain ⟨rfl,g1,rfl⟩:=h
   simp only [↓eA,eB,seval,g1]
   generalize hE:(lim T).loop 33013 _ _=R
   obtain ⟨X,e',H',rfl,h⟩:=Ends.at hE (lp_h3 s hF _ _ (by simp only [↓eA,eB,seval,g1]) (by simp only [↓eA,eB,seval]) rfl)
   cases hk:s.flaws.find? (fun f=>!decide (polyErr f.base=0)) with
   | some f=>rw [hk] at h; obtain ⟨rfl,g2⟩:=h; simp only [↓eA,eB,seval,g2]
   | none=>
   rw [hk] at h; obtain ⟨rfl,g1,rfl⟩:=h
   simp only [↓eA,eB,seval,g1]
   generalize hE:(lim T).loop 33019 _ _=R
   obtain ⟨X,e',H',rfl,h⟩:=Ends.at hE (lp_h4 s hF (polyErr_find hk) _ _ (by simp only [↓eA,eB,seval,g1]) (by simp only [↓eA,eB,seval]) rfl)
   cases hk:s.flaws.any (fun f=>!convex f.base) with
   | true=>rw [hk] at h; obtain ⟨rfl,g2⟩:=h; simp only [↓eA,eB,seval,g2]
   | false=>rw [hk] at h; subst h; simp only [↓eA,eB,seval])
theorem lp_u1 (s:Survey)(hF:s.Fit)(e:Env)(h1:Gs.get e 1 = .ptr 1 0)(hi:Gs.get e 3=int (1:Nat)) :
   Ends T 35002 e (Hs s) (fun X e' H'=>H'=Hs s∧match steps s.beds geBed with | true=>X = .ret∧Gs.get e' 2 = .bool true | false=>X = .ex 0∧Gs.get e' 1 = .ptr 1 0):=by
 have hb:=hF.bl
 refine loop_fr (T:=T) (key:=35002) (li:=l35002.1) rfl 1 s.beds.length (badIx s.beds geBed) (Hs s) (fun k e=>Gs.get e 1 = .ptr 1 0∧Gs.get e 3=int k) (fun X e'=>X = .ret∧Gs.get e' 2 = .bool true) (fun X e'=>X = .ex 0∧Gs.get e' 1 = .ptr 1 0) ?_ ?_ e ⟨h1,hi⟩
 · rintro k e hk hlt ⟨h1,h3⟩
   obtain ⟨y,hy⟩:∃ y,s.beds[k]?=some y:=⟨_,List.getElem?_eq_getElem (by omega)⟩
   obtain ⟨p,hp⟩:∃ p,s.beds[k - 1]?=some p:=⟨_,List.getElem?_eq_getElem (by omega)⟩
   have hil:k - 1 < s.beds.length:=by omega
   have hy':(s.beds.map Bed.enc)[k]?=some y.enc:=by simp [hy]
   have hp':(s.beds.map Bed.enc)[k - 1]?=some p.enc:=by simp [hp]
   have hbd:badIx s.beds geBed k=geBed p y:=by simp only [badIx,hy,hp]
   rw [hbd]
   simp only [↓eA,eB,seval,l35002,h1,h3,hlt,hil,hy',hp',wrap_pred (show 0 < k by omega) (show k < 4611686018427387904 by omega),wrap_succ (show k < 4611686018427387904 by omega)]
   cases hc:geBed p y<;>(try simp only [Bool.not_eq_true',Bool.not_eq_false'] at hc)<;>simp only [↓eA,eB,seval,hc]<;>and_intros<;>first | trivial | rfl
 · rintro k e hk _ ⟨h1,h3⟩
   have hlt:¬ k < s.beds.length:=by omega
   simp only [↓eA,eB,seval,l35002,h1,h3,hlt]
   and_intros<;>first | trivial | rfl
theorem lp_u2 (s:Survey)(hF:s.Fit)(e:Env)(h1:Gs.get e 1 = .ptr 1 0)(hi:Gs.get e 4=int (1:Nat)) :
   Ends T 35007 e (Hs s) (fun X e' H'=>H'=Hs s∧match steps s.joints geJoint with | true=>X = .ret∧Gs.get e' 2 = .bool true | false=>X = .ex 2∧Gs.get e' 1 = .ptr 1 0):=by
 have hb:=hF.jl
 refine loop_fr (T:=T) (key:=35007) (li:=l35007.1) rfl 1 s.joints.length (badIx s.joints geJoint) (Hs s) (fun k e=>Gs.get e 1 = .ptr 1 0∧Gs.get e 4=int k) (fun X e'=>X = .ret∧Gs.get e' 2 = .bool true) (fun X e'=>X = .ex 2∧Gs.get e' 1 = .ptr 1 0) ?_ ?_ e ⟨h1,hi⟩
 · rintro k e hk hlt ⟨h1,h3⟩
   obtain ⟨y,hy⟩:∃ y,s.joints[k]?=some y:=⟨_,List.getElem?_eq_getElem (by omega)⟩
   obtain ⟨p,hp⟩:∃ p,s.joints[k - 1]?=some p:=⟨_,List.getElem?_eq_getElem (by omega)⟩
   have hil:k - 1 < s.joints.length:=by omega
   have hy':(s.joints.map Joint.enc)[k]?=some y.enc:=by simp [hy]
   have hp':(s.joints.map Joint.enc)[k - 1]?=some p.enc:=by simp [hp]
   have hbd:badIx s.joints geJoint k=geJoint p y:=by simp only [badIx,hy,hp]
   rw [hbd]
   simp only [↓eA,eB,seval,l35007,h1,h3,hlt,hil,hy',hp',wrap_pred (show 0 < k by omega) (show k < 4611686018427387904 by omega),wrap_succ (show k < 4611686018427387904 by omega)]
   cases hc:geJoint p y<;>(try simp only [Bool.not_eq_true',Bool.not_eq_false'] at hc)<;>simp only [↓eA,eB,seval,hc]<;>and_intros<;>first | trivial | rfl
 · rintro k e hk _ ⟨h1,h3⟩
   have hlt:¬ k < s.joints.length:=by omega
   simp only [↓eA,eB,seval,l35007,h1,h3,hlt]
   and_intros<;>first | trivial | rfl
theorem lp_u3 (s:Survey)(hF:s.Fit)(e:Env)(h1:Gs.get e 1 = .ptr 1 0)(hi:Gs.get e 5=int (1:Nat)) :
   Ends T 35012 e (Hs s) (fun X e' H'=>H'=Hs s∧match steps s.flaws geFlaw with | true=>X = .ret∧Gs.get e' 2 = .bool true | false=>X = .ex 4∧Gs.get e' 1 = .ptr 1 0):=by
 have hb:=hF.fl
 refine loop_fr (T:=T) (key:=35012) (li:=l35012.1) rfl 1 s.flaws.length (badIx s.flaws geFlaw) (Hs s) (fun k e=>Gs.get e 1 = .ptr 1 0∧Gs.get e 5=int k) (fun X e'=>X = .ret∧Gs.get e' 2 = .bool true) (fun X e'=>X = .ex 4∧Gs.get e' 1 = .ptr 1 0) ?_ ?_ e ⟨h1,hi⟩
 · rintro k e hk hlt ⟨h1,h3⟩
   obtain ⟨y,hy⟩:∃ y,s.flaws[k]?=some y:=⟨_,List.getElem?_eq_getElem (by omega)⟩
   obtain ⟨p,hp⟩:∃ p,s.flaws[k - 1]?=some p:=⟨_,List.getElem?_eq_getElem (by omega)⟩
   have hil:k - 1 < s.flaws.length:=by omega
   have hy':(s.flaws.map Flaw.enc)[k]?=some y.enc:=by simp [hy]
   have hp':(s.flaws.map Flaw.enc)[k - 1]?=some p.enc:=by simp [hp]
   have hbd:badIx s.flaws geFlaw k=geFlaw p y:=by simp only [badIx,hy,hp]
   rw [hbd]
   simp only [↓eA,eB,seval,l35012,h1,h3,hlt,hil,hy',hp',wrap_pred (show 0 < k by omega) (show k < 4611686018427387904 by omega),wrap_succ (show k < 4611686018427387904 by omega)]
   cases hc:geFlaw p y<;>(try simp only [Bool.not_eq_true',Bool.not_eq_false'] at hc)<;>simp only [↓eA,eB,seval,hc]<;>and_intros<;>first | trivial | rfl
 · rintro k e hk _ ⟨h1,h3⟩
   have hlt:¬ k < s.flaws.length:=by omega
   simp only [↓eA,eB,seval,l35012,h1,h3,hlt]
   and_intros<;>first | trivial | rfl
def nm (l:List ByteArray)(i:Nat):ByteArray:=l[i]?.getD ⟨#[]⟩
def pairs (l:List ByteArray):Bool:=(List.range l.length).any fun i=>(List.range i).any fun j=>seq (nm l i) (nm l j)
theorem nm_get {l:List ByteArray}{i:Nat}(h:i < l.length):(l.map D.str)[i]?=some (.str (nm l i)):=by
 have:l[i]?=some l[i]:=List.getElem?_eq_getElem h
 simp [nm,this]
theorem lp_ui (l:List ByteArray)(hb:l.length < 4000000000)(i:Nat)(hi:i < l.length)(e:Env)(H:Heap)(h6:Gs.get e 6 = .fz false 1 (l.map .str))(h7:Gs.get e 7=int i)(h8:Gs.get e 8=int 0) :
   Ends T 35021 e [] (fun X e' H'=>H'=[]∧match (List.range i).any (fun j=>seq (nm l i) (nm l j)) with | true=>X = .ret∧Gs.get e' 2 = .bool true | false=>X = .ex 8∧Gs.get e' 6 = .fz false 1 (l.map .str)∧Gs.get e' 7=int i):=by
 refine loop_rng (T:=T) (key:=35021) (li:=l35021.1) rfl i (fun j=>seq (nm l i) (nm l j)) [] (fun j e=>Gs.get e 6 = .fz false 1 (l.map .str)∧Gs.get e 7=int i∧Gs.get e 8=int j) (fun X e'=>X = .ret∧Gs.get e' 2 = .bool true) (fun X e'=>X = .ex 8∧Gs.get e' 6 = .fz false 1 (l.map .str)∧Gs.get e' 7=int i) ?_ ?_ e ⟨h6,h7,h8⟩
 · rintro j e hj ⟨h6,h7,h8⟩
   have hjl:j < l.length:=by omega
   simp only [↓eA,eB,seval,l35021,h6,h7,h8,hi,hjl,hj,nm_get hi,nm_get hjl,wrap_succ (show j < 4611686018427387904 by omega)]
   cases hc:seq (nm l i) (nm l j)<;>simp only [↓eA,eB,seval,hc]<;>and_intros<;>first | trivial | rfl
 · rintro e ⟨h6,h7,h8⟩
   simp only [↓eA,eB,seval,l35021,h6,h7,h8,Nat.lt_irrefl]
   and_intros<;>first | trivial | rfl
theorem lp_uo (l:List ByteArray)(hb:l.length < 4000000000)(e:Env)(H:Heap)(h6:Gs.get e 6 = .fz false 1 (l.map .str))(h7:Gs.get e 7=int 0) :
   Ends T 35018 e H (fun X e' H'=>match pairs l with | true=>X = .ret∧Gs.get e' 2 = .bool true | false=>X = .ex 6):=by
 refine loop_anyH (T:=T) (key:=35018) (li:=l35018.1) rfl (List.range l.length) (fun i=>(List.range i).any fun j=>seq (nm l i) (nm l j)) (fun i e H=>Gs.get e 6 = .fz false 1 (l.map .str)∧Gs.get e 7=int i) (fun X e' H'=>X = .ret∧Gs.get e' 2 = .bool true) (fun X e' H'=>X = .ex 6) ?_ ?_ e H ⟨h6,h7⟩
 · rintro i k e H hx hi' ⟨h6,h7⟩
   have hi:i < l.length:=by simpa using hi'
   rw [List.getElem?_range hi] at hx; injection hx with hx; subst hx
   simp only [↓eA,eB,seval,l35018,h6,h7,hi]
   generalize hE:(lim T).loop 35021 _ _=R
   obtain ⟨X,e',H',rfl,rfl,hP⟩:=Ends.at hE (lp_ui l hb i hi _ [] (by simp only [↓eA,eB,seval,h6]) (by simp only [↓eA,eB,seval,h7]) (by simp only [↓eA,eB,seval]))
   cases hc:(List.range i).any (fun j=>seq (nm l i) (nm l j)) with
   | true=>rw [hc] at hP; obtain ⟨rfl,g2⟩:=hP; simp only [↓eA,eB,seval,g2]; and_intros<;>first | trivial | rfl
   | false=>
     rw [hc] at hP; obtain ⟨rfl,g6,g7⟩:=hP
     simp only [↓eA,eB,seval,g6,g7,wrap_succ (show i < 4611686018427387904 by omega)]
     and_intros<;>first | trivial | rfl
 · rintro e H ⟨h6,h7⟩
   rw [List.length_range] at h7
   simp only [↓eA,eB,seval,l35018,h6,h7,Nat.lt_irrefl]
   and_intros<;>first | trivial | rfl
def unordered (s:Survey):Bool:=steps s.beds geBed || (steps s.joints geJoint || (steps s.flaws geFlaw || pairs s.names))
theorem e_unordered (s:Survey)(hF:s.Fit):L.call 35 [s.enc] []=some (.bool (unordered s),[]):=
 call_eq rfl rfl (by
   have hb:=hF.bl; have hj:=hF.jl; have hf:=hF.fl
   have hnl:=s.names_length
   simp only [↓eA,eB,seval,c35]
   generalize hE:(lim T).loop 35002 _ _=R
   obtain ⟨X,e',H',rfl,rfl,h⟩:=Ends.at hE (lp_u1 s hF _ rfl rfl)
   unfold unordered
   cases h1:steps s.beds geBed with
   | true=>rw [h1] at h; obtain ⟨rfl,g2⟩:=h; simp only [↓eA,eB,seval,g2]
   | false=>
   rw [h1] at h; obtain ⟨rfl,g1⟩:=h
   simp only [↓eA,eB,seval,g1]
   generalize hE:(lim T).loop 35007 _ _=R
   obtain ⟨X,e',H',rfl,rfl,h⟩:=Ends.at hE (lp_u2 s hF _ (by simp only [↓eA,eB,seval,g1]) (by simp only [↓eA,eB,seval]))
   cases h2:steps s.joints geJoint with
   | true=>rw [h2] at h; obtain ⟨rfl,g2⟩:=h; simp only [↓eA,eB,seval,g2]
   | false=>
   rw [h2] at h; obtain ⟨rfl,g1⟩:=h
   simp only [↓eA,eB,seval,g1]
   generalize hE:(lim T).loop 35012 _ _=R
   obtain ⟨X,e',H',rfl,rfl,h⟩:=Ends.at hE (lp_u3 s hF _ (by simp only [↓eA,eB,seval,g1]) (by simp only [↓eA,eB,seval]))
   cases h3:steps s.flaws geFlaw with
   | true=>rw [h3] at h; obtain ⟨rfl,g2⟩:=h; simp only [↓eA,eB,seval,g2]
   | false=>
   rw [h3] at h; obtain ⟨rfl,g1⟩:=h
   simp only [↓eA,eB,seval,g1,e_rNames s hF.toFit0]
   generalize hE:(lim T).loop 35018 _ _=R
   obtain ⟨X,e',H',rfl,h⟩:=Ends.at hE (lp_uo s.names (by omega) _ _ (by simp only [↓eA,eB,seval]) (by simp only [↓eA,eB,seval]))
   cases h4:pairs s.names with
   | true=>rw [h4] at h; obtain ⟨rfl,g2⟩:=h; simp only [↓eA,eB,seval,g2]
   | false=>rw [h4] at h; subst h; simp only [↓eA,eB,seval])
def rJointOut (s:Survey)(j:Joint):Bool:=(!inR (if j.axis=0 then s.pit.x0 else if j.axis=1 then s.pit.y0 else s.pit.z0) j.at_ (if j.axis=0 then s.pit.x1 else if j.axis=1 then s.pit.y1 else s.pit.z1) || decide (j.lo < s.pit.z0)) || decide (s.pit.z1 < j.hi)
def rFlawOut (s:Survey)(f:Flaw):Bool:=(decide (f.lo < s.pit.z0) || decide (s.pit.z1 < f.hi)) || f.base.any (cornerOut s)
def rOut (s:Survey):Bool:=s.beds.any (bedOut s) || (s.joints.any (rJointOut s) || s.flaws.any (rFlawOut s))
abbrev Hp3 (s:Survey):Heap:=[(1,.box s.cells false),(3,.box [int s.pit.x0,int s.pit.y0,int s.pit.z0] false),(4,.box [int s.pit.x1,int s.pit.y1,int s.pit.z1] false)]
abbrev box3 (s:Survey)(H:Heap):Prop:=hget H 1=some (.box s.cells false)∧hget H 3=some (.box [int s.pit.x0,int s.pit.y0,int s.pit.z0] false)∧hget H 4=some (.box [int s.pit.x1,int s.pit.y1,int s.pit.z1] false)
abbrev pt3 (e:Env):Prop:=Gs.get e 1 = .ptr 1 0∧Gs.get e 3 = .ptr 3 0∧Gs.get e 4 = .ptr 4 0
theorem lp_x1 (s:Survey)(hF:s.Fit)(e:Env)(H:Heap)(hp:pt3 e)(h5:Gs.get e 5=int 0)(hH:box3 s H) :
   Ends T 34004 e H (fun X e' H'=>match s.beds.any (bedOut s) with | true=>X = .ret∧Gs.get e' 2 = .bool true | false=>X = .ex 0∧pt3 e'∧H'=Hp3 s):=by
 have hb:=hF.bl
 refine loop_anyH (T:=T) (key:=34004) (li:=l34004.1) rfl s.beds (bedOut s) (fun i e H=>pt3 e∧Gs.get e 5=int i∧box3 s H) (fun X e' H'=>X = .ret∧Gs.get e' 2 = .bool true) (fun X e' H'=>X = .ex 0∧pt3 e'∧H'=Hp3 s) ?_ ?_ e H ⟨hp,h5,hH⟩
 · rintro i b e H hx hi ⟨⟨h1,h3,h4⟩,h5,⟨hH1,hH3,hH4⟩⟩
   have hx':(s.beds.map Bed.enc)[i]?=some b.enc:=by simp [hx]
   simp only [↓eA,eB,seval,l34004,h1,h3,h4,h5,hH1,hH3,hH4,hi,hx',e_inR,wrap_succ (show i < 4611686018427387904 by omega)]
   cases hc:bedOut s b<;>(simp only [bedOut,Bool.not_eq_true',Bool.not_eq_false'] at hc)<;>simp only [↓eA,eB,seval,hc]<;>and_intros<;>first | trivial | rfl
 · rintro e H ⟨⟨h1,h3,h4⟩,h5,⟨hH1,hH3,hH4⟩⟩
   simp only [↓eA,eB,seval,l34004,h1,h3,h4,h5,hH1,hH3,hH4,Nat.lt_irrefl]
   and_intros<;>first | trivial | rfl
theorem lp_x2 (s:Survey)(hF:s.Fit)(e:Env)(H:Heap)(hp:pt3 e)(h5:Gs.get e 6=int 0)(hH:box3 s H) :
   Ends T 34009 e H (fun X e' H'=>match s.joints.any (rJointOut s) with | true=>X = .ret∧Gs.get e' 2 = .bool true | false=>X = .ex 2∧pt3 e'∧H'=Hp3 s):=by
 have hb:=hF.jl
 refine loop_anyH (T:=T) (key:=34009) (li:=l34009.1) rfl s.joints (rJointOut s) (fun i e H=>pt3 e∧Gs.get e 6=int i∧box3 s H) (fun X e' H'=>X = .ret∧Gs.get e' 2 = .bool true) (fun X e' H'=>X = .ex 2∧pt3 e'∧H'=Hp3 s) ?_ ?_ e H ⟨hp,h5,hH⟩
 · rintro i j e H hx hi ⟨⟨h1,h3,h4⟩,h5,⟨hH1,hH3,hH4⟩⟩
   have hx':(s.joints.map Joint.enc)[i]?=some j.enc:=by simp [hx]
   simp only [↓eA,eB,seval,l34009,h1,h3,h4,h5,hH1,hH3,hH4,hi,hx',e_inR,e_coord,wrap_succ (show i < 4611686018427387904 by omega)]
   cases hc:rJointOut s j<;>simp only [rJointOut] at hc<;>simp only [↓eA,eB,seval,hc]<;>and_intros<;>first | trivial | rfl
 · rintro e H ⟨⟨h1,h3,h4⟩,h5,⟨hH1,hH3,hH4⟩⟩
   simp only [↓eA,eB,seval,l34009,h1,h3,h4,h5,hH1,hH3,hH4,Nat.lt_irrefl]
   and_intros<;>first | trivial | rfl
theorem lp_x4 (s:Survey)(f:Flaw)(hb:f.base.length < 1000000000)(i:Nat)(e:Env)(H:Heap)(hp:pt3 e)(h8:Gs.get e 8=int i)(h9:Gs.get e 9 = .ptr 9 0)(h10:Gs.get e 10=int 0)(hH:box3 s H)(hH9:hget H 9=some (.box [poly f.base,int f.lo,int f.hi] false)) :
   Ends T 34021 e H (fun X e' H'=>match f.base.any (cornerOut s) with | true=>X = .ret∧Gs.get e' 2 = .bool true | false=>X = .ex 6∧pt3 e'∧Gs.get e' 8=int i∧box3 s H'):=by
 refine loop_anyH (T:=T) (key:=34021) (li:=l34021.1) rfl f.base (cornerOut s) (fun k e H=>pt3 e∧Gs.get e 8=int i∧Gs.get e 9 = .ptr 9 0∧Gs.get e 10=int k∧box3 s H∧hget H 9=some (.box [poly f.base,int f.lo,int f.hi] false)) (fun X e' H'=>X = .ret∧Gs.get e' 2 = .bool true) (fun X e' H'=>X = .ex 6∧pt3 e'∧Gs.get e' 8=int i∧box3 s H') ?_ ?_ e H ⟨hp,h8,h9,h10,hH,hH9⟩
 · rintro k c e H hx hi ⟨⟨h1,h3,h4⟩,h8,h9,h10,⟨hH1,hH3,hH4⟩,hH9⟩
   have hx':(f.base.map Pt.enc)[k]?=some c.enc:=by simp [hx]
   simp only [↓eA,eB,seval,l34021,h1,h3,h4,h8,h9,h10,hH1,hH3,hH4,hH9,hi,hx',e_inR,wrap_succ (show k < 4611686018427387904 by omega)]
   cases hc:cornerOut s c<;>simp only [cornerOut] at hc<;>simp only [↓eA,eB,seval,hc]<;>and_intros<;>first | trivial | rfl
 · rintro e H ⟨⟨h1,h3,h4⟩,h8,h9,h10,⟨hH1,hH3,hH4⟩,hH9⟩
   simp only [↓eA,eB,seval,l34021,h1,h3,h4,h8,h9,h10,hH1,hH3,hH4,hH9,Nat.lt_irrefl]
   and_intros<;>first | trivial | rfl
theorem lp_x3 (s:Survey)(hF:s.Fit)(e:Env)(H:Heap)(hp:pt3 e)(h5:Gs.get e 8=int 0)(hH:box3 s H) :
   Ends T 34015 e H (fun X e' H'=>match s.flaws.any (rFlawOut s) with | true=>X = .ret∧Gs.get e' 2 = .bool true | false=>X = .ex 4):=by
 have hb:=hF.fl
 refine loop_anyH (T:=T) (key:=34015) (li:=l34015.1) rfl s.flaws (rFlawOut s) (fun i e H=>pt3 e∧Gs.get e 8=int i∧box3 s H) (fun X e' H'=>X = .ret∧Gs.get e' 2 = .bool true) (fun X e' H'=>X = .ex 4) ?_ ?_ e H ⟨hp,h5,hH⟩
 · rintro i f e H hx hi ⟨⟨h1,h3,h4⟩,h5,⟨hH1,hH3,hH4⟩⟩
   have hx':(s.flaws.map Flaw.enc)[i]?=some f.enc:=by simp [hx]
   have hfb:=hF.base f (List.mem_of_getElem? hx)
   unfold rFlawOut
   cases hr:(decide (f.lo < s.pit.z0) || decide (s.pit.z1 < f.hi)) with
   | true=>
     simp only [↓eA,eB,seval,l34015,h1,h3,h4,h5,hH1,hH3,hH4,hi,hx',hr]
     and_intros<;>first | trivial | rfl
   | false=>
     simp only [↓eA,eB,seval,l34015,h1,h3,h4,h5,hH1,hH3,hH4,hi,hx',hr]
     generalize hE:(lim T).loop 34021 _ _=R
     obtain ⟨X,e',H',rfl,hP⟩:=Ends.at hE (lp_x4 s f hfb i _ _ ⟨rfl,rfl,rfl⟩ rfl rfl rfl ⟨rfl,rfl,rfl⟩ rfl)
     cases hc:f.base.any (cornerOut s) with
     | true=>rw [hc] at hP; obtain ⟨rfl,g⟩:=hP; simp only [↓eA,eB,seval,g]; and_intros<;>first | trivial | rfl
     | false=>
       rw [hc] at hP; obtain ⟨rfl,⟨g1,g3,g4⟩,g8,⟨gH1,gH3,gH4⟩⟩:=hP
       simp only [↓eA,eB,seval,pt3,box3,g1,g3,g4,g8,gH1,gH3,gH4,wrap_succ (show i < 4611686018427387904 by omega)]
       and_intros<;>first | trivial | rfl
 · rintro e H ⟨⟨h1,h3,h4⟩,h5,⟨hH1,hH3,hH4⟩⟩
   simp only [↓eA,eB,seval,l34015,h1,h3,h4,h5,hH1,hH3,hH4,Nat.lt_irrefl]
   and_intros<;>first | trivial | rfl
theorem e_rOutside (s:Survey)(hF:s.Fit):L.call 34 [s.enc] []=some (.bool (rOut s),[]):=
 call_eq rfl rfl (by
   unfold rOut
   simp only [↓eA,eB,seval,c34]
   generalize hE:(lim T).loop 34004 _ _=R
   obtain ⟨X,e',H',rfl,hP⟩:=Ends.at hE (lp_x1 s hF _ _ ⟨rfl,rfl,rfl⟩ rfl ⟨rfl,rfl,rfl⟩)
   cases hc:s.beds.any (bedOut s) with
   | true=>rw [hc] at hP; obtain ⟨rfl,g⟩:=hP; simp only [↓eA,eB,seval,g]
   | false=>
   rw [hc] at hP; obtain ⟨rfl,⟨g1,g3,g4⟩,rfl⟩:=hP
   simp only [↓eA,eB,seval,g1,g3,g4]
   generalize hE:(lim T).loop 34009 _ _=R
   obtain ⟨X,e',H',rfl,hP⟩:=Ends.at hE (lp_x2 s hF _ _ ⟨by simp only [↓eA,eB,seval,g1],by simp only [↓eA,eB,seval,g3],by simp only [↓eA,eB,seval,g4]⟩ (by simp only [↓eA,eB,seval]) ⟨rfl,rfl,rfl⟩)
   cases hc:s.joints.any (rJointOut s) with
   | true=>rw [hc] at hP; obtain ⟨rfl,g⟩:=hP; simp only [↓eA,eB,seval,g]
   | false=>
   rw [hc] at hP; obtain ⟨rfl,⟨g1,g3,g4⟩,rfl⟩:=hP
   simp only [↓eA,eB,seval,g1,g3,g4]
   generalize hE:(lim T).loop 34015 _ _=R
   obtain ⟨X,e',H',rfl,hP⟩:=Ends.at hE (lp_x3 s hF _ _ ⟨by simp only [↓eA,eB,seval,g1],by simp only [↓eA,eB,seval,g3],by simp only [↓eA,eB,seval,g4]⟩ (by simp only [↓eA,eB,seval]) ⟨rfl,rfl,rfl⟩)
   cases hc:s.flaws.any (rFlawOut s) with
   | true=>rw [hc] at hP; obtain ⟨rfl,g⟩:=hP; simp only [↓eA,eB,seval,g]
   | false=>rw [hc] at hP; subst hP; simp only [↓eA,eB,seval])
end Tz
set_option maxRecDepth 100000
open Gs Go
namespace Tz
def rf (n:Int):Bool:=!(decide (-1000000≤n) && decide (n≤1000000))
def rFar (b:Box):Bool:=(rf b.x0 || rf b.x1) || ((rf b.y0 || rf b.y1) || (rf b.z0 || rf b.z1))
theorem e_rf (n:Int):L.call 29 [int n] []=some (.bool (rf n),[]):=e_far n
theorem e_c0 (x y z:Int):L.call 30 [.agg [int x,int y,int z],int 0] []=some (int x,[]):=e_coord x y z 0
theorem e_c1 (x y z:Int):L.call 30 [.agg [int x,int y,int z],int 1] []=some (int y,[]):=e_coord x y z 1
theorem e_c2 (x y z:Int):L.call 30 [.agg [int x,int y,int z],int 2] []=some (int z,[]):=e_coord x y z 2
theorem lp_rc2 (s:Survey)(nz:Bool)(l:List ByteArray)(hb:l.length < 4000000000)(hs:∀ n∈l,n.size < 1000000000)(e:Env)(h1:Gs.get e 1 = .ptr 1 0)(h4:Gs.get e 4 = .fz nz 1 (l.map .str))(h5:Gs.get e 5=int 0) :
   Ends T 10012 e (Hs s) (fun X e' H'=>H'=Hs s∧match l.any (fun n=>!rName n) with | true=>X = .ret∧Gs.get e' 2=int 4 | false=>X = .ex 2∧Gs.get e' 1 = .ptr 1 0):=by
 refine loop_any (T:=T) (key:=10012) (li:=l10012.1) rfl l (fun n=>!rName n) (Hs s) (fun i e=>Gs.get e 1 = .ptr 1 0∧Gs.get e 4 = .fz nz 1 (l.map .str)∧Gs.get e 5=int i) (fun X e'=>X = .ret∧Gs.get e' 2=int 4) (fun X e'=>X = .ex 2∧Gs.get e' 1 = .ptr 1 0) ?_ ?_ e ⟨h1,h4,h5⟩
 · rintro i n e hx hi ⟨h1,h4,h5⟩
   have hx':(l.map D.str)[i]?=some (.str n):=by simp [hx]
   have hns:=hs n (List.mem_of_getElem? hx)
   simp only [↓eA,eB,seval,l10012,h1,h4,h5,hi,hx',e_rName n hns,wrap_succ (show i < 4611686018427387904 by omega)]
   cases hc:rName n<;>simp only [↓eA,eB,seval,hc]<;>and_intros<;>first | trivial | rfl
 · rintro e ⟨h1,h4,h5⟩
   simp only [↓eA,eB,seval,l10012,h1,h4,h5,Nat.lt_irrefl]
   and_intros<;>first | trivial | rfl
def rCheck (s:Survey):Int:=bif sizeBad s then 7 else bif rFar s.pit then 6 else bif !s.pit.ok then 1 else bif s.names.any (fun n=>!rName n) then 4 else bif !decide (rShapes s=0) then rShapes s else bif rOut s then 12 else bif unordered s then 5 else 0
theorem lp_rc1 (s:Survey)(e:Env)(h1:Gs.get e 1 = .ptr 1 0)(h3:Gs.get e 3=int 0) :
   Ends T 10004 e (Hs s) (fun X e' H'=>H'=Hs s∧match rFar s.pit with | true=>X = .ret∧Gs.get e' 2=int 6 | false=>X = .ex 0∧Gs.get e' 1 = .ptr 1 0):=by
 have hg:∀ i:Nat,i < 3→(i=0∨i=1∨i=2):=fun i hi=>by omega
 have:=loop_rng (T:=T) (key:=10004) (li:=l10004.1) rfl 3 (fun i=>if i=0 then rf s.pit.x0 || rf s.pit.x1 else if i=1 then rf s.pit.y0 || rf s.pit.y1 else rf s.pit.z0 || rf s.pit.z1) (Hs s) (fun i e=>Gs.get e 1 = .ptr 1 0∧Gs.get e 3=int i) (fun X e'=>X = .ret∧Gs.get e' 2=int 6) (fun X e'=>X = .ex 0∧Gs.get e' 1 = .ptr 1 0) ?_ ?_ e ⟨h1,h3⟩
 · refine this.mono fun X e' H' h=>?_
   have he:(List.range 3).any (fun i=>if i=0 then rf s.pit.x0 || rf s.pit.x1 else if i=1 then rf s.pit.y0 || rf s.pit.y1 else rf s.pit.z0 || rf s.pit.z1)=rFar s.pit:=by
     simp [rFar,List.range,List.range.loop]
   rw [he] at h; exact h
 · rintro i e hi ⟨h1,h3⟩
   rcases hg i hi with rfl | rfl | rfl
   · have hz:Gs.get e 3=int 0:=h3
     simp only [↓eA,eB,seval,l10004,h1,hz,e_c0,e_rf]
     cases hc:(rf s.pit.x0 || rf s.pit.x1)<;>(try simp only [↓eA,eB,seval,hc])<;>and_intros<;>first | trivial | rfl
   · have hz:Gs.get e 3=int 1:=h3
     simp only [↓eA,eB,seval,l10004,h1,hz,e_c1,e_rf]
     cases hc:(rf s.pit.y0 || rf s.pit.y1)<;>(try simp only [↓eA,eB,seval,hc])<;>and_intros<;>first | trivial | rfl
   · have hz:Gs.get e 3=int 2:=h3
     simp only [↓eA,eB,seval,l10004,h1,hz,e_c2,e_rf]
     cases hc:(rf s.pit.z0 || rf s.pit.z1)<;>(try simp only [↓eA,eB,seval,hc])<;>and_intros<;>first | trivial | rfl
 · rintro e ⟨h1,h3⟩
   have hz:Gs.get e 3=int 3:=h3
   simp only [↓eA,eB,seval,l10004,h1,hz]
   and_intros<;>first | trivial | rfl
theorem e_rCheck (s:Survey)(hF:s.Fit):L.call 10 [s.enc] []=some (int (rCheck s),[]):=
 call_eq rfl rfl (by
   have hb:=hF.bl; have hj:=hF.jl; have hf:=hF.fl
   have hnl:=s.names_length
   unfold rCheck
   cases hz:sizeBad s with
   | true=>have hz':=hz; simp only [sizeBad] at hz'; simp only [↓eA,eB,seval,c10,hz']
   | false=>
   have hz':=hz; simp only [sizeBad] at hz'
   simp only [↓eA,eB,seval,c10,hz']
   generalize hE:(lim T).loop 10004 _ _=R
   obtain ⟨X,e',H',rfl,rfl,h⟩:=Ends.at hE (lp_rc1 s _ rfl rfl)
   cases hk:rFar s.pit with
   | true=>rw [hk] at h; obtain ⟨rfl,g2⟩:=h; simp only [↓eA,eB,seval,g2]
   | false=>
   rw [hk] at h; obtain ⟨rfl,g1⟩:=h
   cases hp:s.pit.ok with
   | false=>simp only [↓eA,eB,seval,g1,e_rProper,hp]
   | true=>
   simp only [↓eA,eB,seval,g1,e_rProper,hp,e_rNames s hF.toFit0]
   generalize hE:(lim T).loop 10012 _ _=R
   obtain ⟨X,e',H',rfl,rfl,h⟩:=Ends.at hE (lp_rc2 s false s.names (by omega) hF.nm _ (by simp only [↓eA,eB,seval,g1]) (by simp only [↓eA,eB,seval]) (by simp only [↓eA,eB,seval]))
   cases hk:s.names.any (fun n=>!rName n) with
   | true=>rw [hk] at h; obtain ⟨rfl,g2⟩:=h; simp only [↓eA,eB,seval,g2]
   | false=>
   rw [hk] at h; obtain ⟨rfl,g1⟩:=h
   cases hs:decide (rShapes s=0) with
   | false=>simp only [↓eA,eB,seval,g1,e_shapes s hF,hs]
   | true=>
   cases ho:rOut s with
   | true=>simp only [↓eA,eB,seval,g1,e_shapes s hF,hs,e_rOutside s hF,ho]
   | false=>
   cases hu:unordered s with
   | true=>simp only [↓eA,eB,seval,g1,e_shapes s hF,hs,e_rOutside s hF,ho,e_unordered s hF,hu]
   | false=>simp only [↓eA,eB,seval,g1,e_shapes s hF,hs,e_rOutside s hF,ho,e_unordered s hF,hu])
def rBoxed (s:Survey)(b:Box):Int:=bif !decide (rCheck s=0) then rCheck s else bif !b.ok then 1 else bif !b.inside s.pit then 12 else 0
theorem e_rBoxed (s:Survey)(hF:s.Fit)(b:Box):L.call 11 [s.enc,b.enc] []=some (int (rBoxed s b),[]):=
 call_eq rfl rfl (by
   unfold rBoxed
   cases hs:decide (rCheck s=0) with
   | false=>simp only [↓eA,eB,seval,c11,e_rCheck s hF,hs]
   | true=>
   cases h1:b.ok with
   | false=>simp only [↓eA,eB,seval,c11,e_rCheck s hF,hs,e_rProper,h1]
   | true=>
   cases h2:b.inside s.pit with
   | false=>simp only [↓eA,eB,seval,c11,e_rCheck s hF,hs,e_rProper,h1,e_rInside,h2]
   | true=>simp only [↓eA,eB,seval,c11,e_rCheck s hF,hs,e_rProper,h1,e_rInside,h2])
end Tz
set_option maxRecDepth 100000
open Gs Go
namespace Tz
end Tz
set_option maxRecDepth 100000
open Gs Go
namespace Tz
end Tz
set_option maxHeartbeats 2000000
set_option maxRecDepth 100000
open Gs Go
namespace Tz
end Tz
