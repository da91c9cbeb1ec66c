/- Names and size, reference; Shapes, order and place, reference; Check, Boxed and Open, reference; Interval ends, reference; Interval ends, second part; Set and Same, reference; no conditions. -/
import Derived.Test.YtogfagkjndoefaaGreatS14toS70
set_option linter.all false
set_option maxRecDepth 100000
open Gs Go
namespace Tz
abbrev Hq (s:Survey)(acc:List D):Heap:=[(1,.box s.cells false),(1003,.row false 1 acc 0 true)]
theorem lp_rn1 (s:Survey)(hF:s.Fit0)(acc:List D)(hacc:acc.length≤4000000000)(e:Env)(H:Heap)(h1:Gs.get e 1 = .ptr 1 0)(h3:Gs.get e 3 = .ow 1003)(hi:Gs.get e 4=int 0)(hH1:hget H 1=some (.box s.cells false))(hH3:hget H 1003=some (.row false 1 acc 0 true)) :
   Ends T 72003 e H (fun X e' H'=>X = .ex 0∧Gs.get e' 1 = .ptr 1 0∧Gs.get e' 3 = .ow 1003∧H'=Hq s (acc ++ s.beds.map fun b=>.str b.name)):=by
 have hb:=hF.bl
 refine (loop_fold (T:=T) (key:=72003) (li:=l72003.1) rfl s.beds (fun (a:List D) (b:Bed)=>a ++ [.str b.name]) (fun i a e H=>Gs.get e 1 = .ptr 1 0∧Gs.get e 3 = .ow 1003∧Gs.get e 4=int i∧hget H 1=some (.box s.cells false)∧hget H 1003=some (.row false 1 a 0 true)∧a.length=acc.length + i) (fun a X e' H'=>X = .ex 0∧Gs.get e' 1 = .ptr 1 0∧Gs.get e' 3 = .ow 1003∧H'=Hq s a) ?_ ?_ acc e H ⟨h1,h3,hi,hH1,hH3,rfl⟩).mono ?_
 · rintro i b a e H hx hi ⟨h1,h3,h13,hH1,hH3,hl⟩
   have hx':(s.beds.map Bed.enc)[i]?=some b.enc:=by simp [hx]
   have hfit:fits (a.length + (0 + 1)) 16=true:=fits_of (by omega)
   simp only [↓eA,eB,seval,l72003,h1,h3,h13,hH1,hH3,hi,hx',hfit,wrap_succ (show i < 4611686018427387904 by omega)]
   refine ⟨trivial,trivial,trivial,trivial,trivial,trivial,?_⟩
   simp; omega
 · rintro a e H ⟨h1,h3,h13,hH1,hH3,hl⟩
   simp only [↓eA,eB,seval,l72003,h1,h3,h13,hH1,hH3,Nat.lt_irrefl]
   and_intros<;>first | trivial | rfl
 · rintro X e' H' ⟨rfl,g1,g3,rfl⟩
   refine ⟨rfl,g1,g3,?_⟩
   have:∀ (l:List Bed) (a:List D),l.foldl (fun a b=>a ++ [.str b.name]) a=a ++ l.map fun b=>.str b.name:=by
     intro l
     induction l with
     | nil=>intro a; simp
     | cons b r ih=>intro a; simp [ih]
   rw [this]
theorem lp_rn2 (s:Survey)(hF:s.Fit0)(acc:List D)(hacc:acc.length≤4000000000)(e:Env)(H:Heap)(h1:Gs.get e 1 = .ptr 1 0)(h3:Gs.get e 3 = .ow 1003)(hi:Gs.get e 5=int 0)(hH1:hget H 1=some (.box s.cells false))(hH3:hget H 1003=some (.row false 1 acc 0 true)) :
   Ends T 72007 e H (fun X e' H'=>X = .ex 2∧Gs.get e' 1 = .ptr 1 0∧Gs.get e' 3 = .ow 1003∧H'=Hq s (acc ++ s.joints.map fun b=>.str b.name)):=by
 have hb:=hF.jl
 refine (loop_fold (T:=T) (key:=72007) (li:=l72007.1) rfl s.joints (fun (a:List D) (b:Joint)=>a ++ [.str b.name]) (fun i a e H=>Gs.get e 1 = .ptr 1 0∧Gs.get e 3 = .ow 1003∧Gs.get e 5=int i∧hget H 1=some (.box s.cells false)∧hget H 1003=some (.row false 1 a 0 true)∧a.length=acc.length + i) (fun a X e' H'=>X = .ex 2∧Gs.get e' 1 = .ptr 1 0∧Gs.get e' 3 = .ow 1003∧H'=Hq s a) ?_ ?_ acc e H ⟨h1,h3,hi,hH1,hH3,rfl⟩).mono ?_
 · rintro i b a e H hx hi ⟨h1,h3,h13,hH1,hH3,hl⟩
   have hx':(s.joints.map Joint.enc)[i]?=some b.enc:=by simp [hx]
   have hfit:fits (a.length + (0 + 1)) 16=true:=fits_of (by omega)
   simp only [↓eA,eB,seval,l72007,h1,h3,h13,hH1,hH3,hi,hx',hfit,wrap_succ (show i < 4611686018427387904 by omega)]
   refine ⟨trivial,trivial,trivial,trivial,trivial,trivial,?_⟩
   simp; omega
 · rintro a e H ⟨h1,h3,h13,hH1,hH3,hl⟩
   simp only [↓eA,eB,seval,l72007,h1,h3,h13,hH1,hH3,Nat.lt_irrefl]
   and_intros<;>first | trivial | rfl
 · rintro X e' H' ⟨rfl,g1,g3,rfl⟩
   refine ⟨rfl,g1,g3,?_⟩
   have:∀ (l:List Joint) (a:List D),l.foldl (fun a b=>a ++ [.str b.name]) a=a ++ l.map fun b=>.str b.name:=by
     intro l
     induction l with
     | nil=>intro a; simp
     | cons b r ih=>intro a; simp [ih]
   rw [this]
theorem lp_rn3 (s:Survey)(hF:s.Fit0)(acc:List D)(hacc:acc.length≤4000000000)(e:Env)(H:Heap)(h1:Gs.get e 1 = .ptr 1 0)(h3:Gs.get e 3 = .ow 1003)(hi:Gs.get e 6=int 0)(hH1:hget H 1=some (.box s.cells false))(hH3:hget H 1003=some (.row false 1 acc 0 true)) :
   Ends T 72011 e H (fun X e' H'=>X = .ex 4∧Gs.get e' 1 = .ptr 1 0∧Gs.get e' 3 = .ow 1003∧H'=Hq s (acc ++ s.flaws.map fun b=>.str b.name)):=by
 have hb:=hF.fl
 refine (loop_fold (T:=T) (key:=72011) (li:=l72011.1) rfl s.flaws (fun (a:List D) (b:Flaw)=>a ++ [.str b.name]) (fun i a e H=>Gs.get e 1 = .ptr 1 0∧Gs.get e 3 = .ow 1003∧Gs.get e 6=int i∧hget H 1=some (.box s.cells false)∧hget H 1003=some (.row false 1 a 0 true)∧a.length=acc.length + i) (fun a X e' H'=>X = .ex 4∧Gs.get e' 1 = .ptr 1 0∧Gs.get e' 3 = .ow 1003∧H'=Hq s a) ?_ ?_ acc e H ⟨h1,h3,hi,hH1,hH3,rfl⟩).mono ?_
 · rintro i b a e H hx hi ⟨h1,h3,h13,hH1,hH3,hl⟩
   have hx':(s.flaws.map Flaw.enc)[i]?=some b.enc:=by simp [hx]
   have hfit:fits (a.length + (0 + 1)) 16=true:=fits_of (by omega)
   simp only [↓eA,eB,seval,l72011,h1,h3,h13,hH1,hH3,hi,hx',hfit,wrap_succ (show i < 4611686018427387904 by omega)]
   refine ⟨trivial,trivial,trivial,trivial,trivial,trivial,?_⟩
   simp; omega
 · rintro a e H ⟨h1,h3,h13,hH1,hH3,hl⟩
   simp only [↓eA,eB,seval,l72011,h1,h3,h13,hH1,hH3,Nat.lt_irrefl]
   and_intros<;>first | trivial | rfl
 · rintro X e' H' ⟨rfl,g1,g3,rfl⟩
   refine ⟨rfl,g1,g3,?_⟩
   have:∀ (l:List Flaw) (a:List D),l.foldl (fun a b=>a ++ [.str b.name]) a=a ++ l.map fun b=>.str b.name:=by
     intro l
     induction l with
     | nil=>intro a; simp
     | cons b r ih=>intro a; simp [ih]
   rw [this]
theorem e_rNames (s:Survey)(hF:s.Fit0):L.call 72 [s.enc] []=some (.fz false 1 (s.names.map .str),[]):=
 call_eq rfl rfl (by
   have hb:=hF.bl; have hj:=hF.jl
   simp only [↓eA,eB,seval,c72]
   generalize hE:(lim T).loop 72003 _ _=R
   obtain ⟨X,e',H',rfl,rfl,g1,g3,rfl⟩:=Ends.at hE (lp_rn1 s hF [] (by simp) _ _ rfl rfl rfl rfl rfl)
   simp only [↓eA,eB,seval,g1,g3]
   generalize hE:(lim T).loop 72007 _ _=R
   obtain ⟨X,e',H',rfl,rfl,g1,g3,rfl⟩:=Ends.at hE (lp_rn2 s hF _ (by simp; omega) _ _ (by simp only [↓eA,eB,seval,g1]) (by simp only [↓eA,eB,seval,g3]) (by simp only [↓eA,eB,seval]) (by simp only [↓eA,eB,seval]) rfl)
   simp only [↓eA,eB,seval,g1,g3]
   generalize hE:(lim T).loop 72011 _ _=R
   obtain ⟨X,e',H',rfl,rfl,g1,g3,rfl⟩:=Ends.at hE (lp_rn3 s hF _ (by simp; omega) _ _ (by simp only [↓eA,eB,seval,g1]) (by simp only [↓eA,eB,seval,g3]) (by simp only [↓eA,eB,seval]) (by simp only [↓eA,eB,seval]) rfl)
   simp only [↓eA,eB,seval,g3]
   rw [←names_map]
   simp only [List.nil_append])
def smallF (f:Flaw):Bool:=decide (10 < (f.base.length:Int))
def smallB (s:Survey):Bool:=!((decide (70 < (s.beds.length:Int)) || decide (140 < (s.joints.length:Int)) || decide (70 < (s.flaws.length:Int))) || decide (150 < (s.beds.length:Int) + (s.joints.length:Int) + (s.flaws.length:Int))) && (!s.flaws.any smallF && !s.names.any (fun n=>decide (100 < (n.size:Int))))
theorem lp_s1 (s:Survey)(hF:s.Fit0)(e:Env)(h1:Gs.get e 1 = .ptr 1 0)(h3:Gs.get e 3=int 0) :
   Ends T 33004 e (Hs s) (fun X e' H'=>H'=Hs s∧match s.flaws.any smallF with | true=>X = .ret∧Gs.get e' 2 = .bool false | false=>X = .ex 0∧Gs.get e' 1 = .ptr 1 0):=by
 have hb:=hF.fl
 refine loop_any (T:=T) (key:=33004) (li:=l33004.1) rfl s.flaws smallF (Hs s) (fun i e=>Gs.get e 1 = .ptr 1 0∧Gs.get e 3=int i) (fun X e'=>X = .ret∧Gs.get e' 2 = .bool false) (fun X e'=>X = .ex 0∧Gs.get e' 1 = .ptr 1 0) ?_ ?_ e ⟨h1,h3⟩
 · rintro i f e hx hi ⟨h1,h3⟩
   have hx':(s.flaws.map Flaw.enc)[i]?=some f.enc:=by simp [hx]
   simp only [↓eA,eB,seval,l33004,h1,h3,hi,hx',wrap_succ (show i < 4611686018427387904 by omega)]
   cases hc:smallF f<;>simp only [smallF] at hc<;>simp only [↓eA,eB,seval,hc]<;>and_intros<;>first | trivial | rfl
 · rintro e ⟨h1,h3⟩
   simp only [↓eA,eB,seval,l33004,h1,h3,Nat.lt_irrefl]
   and_intros<;>first | trivial | rfl
theorem lp_s2 (nz:Bool)(l:List ByteArray)(hb:l.length < 4000000000)(e:Env)(H:Heap)(h4:Gs.get e 4 = .fz nz 1 (l.map .str))(h5:Gs.get e 5=int 0) :
   Ends T 33010 e H (fun X e' H'=>match l.any (fun n=>decide (100 < (n.size:Int))) with | true=>X = .ret∧Gs.get e' 2 = .bool false | false=>X = .ex 2):=by
 refine loop_anyH (T:=T) (key:=33010) (li:=l33010.1) rfl l (fun n=>decide (100 < (n.size:Int))) (fun i e H=>Gs.get e 4 = .fz nz 1 (l.map .str)∧Gs.get e 5=int i) (fun X e' H'=>X = .ret∧Gs.get e' 2 = .bool false) (fun X e' H'=>X = .ex 2) ?_ ?_ e H ⟨h4,h5⟩
 · rintro i n e H hx hi ⟨h4,h5⟩
   have hx':(l.map D.str)[i]?=some (.str n):=by simp [hx]
   simp only [↓eA,eB,seval,l33010,h4,h5,hi,hx',wrap_succ (show i < 4611686018427387904 by omega)]
   cases hc:decide (100 < (n.size:Int))<;>simp only [↓eA,eB,seval,hc]<;>and_intros<;>first | trivial | rfl
 · rintro e H ⟨h4,h5⟩
   simp only [↓eA,eB,seval,l33010,h4,h5,Nat.lt_irrefl]
   and_intros<;>first | trivial | rfl
theorem e_small (s:Survey)(hF:s.Fit0):L.call 33 [s.enc] []=some (.bool (smallB s),[]):=
 call_eq rfl rfl (by
   have hb:=hF.bl; have hj:=hF.jl; have hf:=hF.fl
   have hnl:=s.names_length
   have hw1:IntKind.i64.wrap ((s.beds.length:Int) + (s.joints.length:Int))=(s.beds.length:Int) + (s.joints.length:Int):=wrap_in (by omega) (by omega)
   have hw2:IntKind.i64.wrap ((s.beds.length:Int) + (s.joints.length:Int) + (s.flaws.length:Int))=(s.beds.length:Int) + (s.joints.length:Int) + (s.flaws.length:Int):=wrap_in (by omega) (by omega)
   unfold smallB
   cases hc:((decide (70 < (s.beds.length:Int)) || decide (140 < (s.joints.length:Int)) || decide (70 < (s.flaws.length:Int))) || decide (150 < (s.beds.length:Int) + (s.joints.length:Int) + (s.flaws.length:Int))) with
   | true=>simp only [↓eA,eB,seval,c33,hw1,hw2,hc]
   | false=>
   simp only [↓eA,eB,seval,c33,hw1,hw2,hc]
   generalize hE:(lim T).loop 33004 _ _=R
   obtain ⟨X,e',H',rfl,rfl,hP⟩:=Ends.at hE (lp_s1 s hF _ rfl rfl)
   cases hs:s.flaws.any smallF with
   | true=>rw [hs] at hP; obtain ⟨rfl,g⟩:=hP; simp only [↓eA,eB,seval,g]
   | false=>
   rw [hs] at hP; obtain ⟨rfl,g1⟩:=hP
   simp only [↓eA,eB,seval,g1,e_rNames s hF]
   generalize hE:(lim T).loop 33010 _ _=R
   obtain ⟨X,e',H',rfl,hP⟩:=Ends.at hE (lp_s2 false s.names (by omega) _ _ (by simp only [↓eA,eB,seval]) (by simp only [↓eA,eB,seval]))
   cases hn:s.names.any (fun n=>decide (100 < (n.size:Int))) with
   | true=>rw [hn] at hP; obtain ⟨rfl,g⟩:=hP; simp only [↓eA,eB,seval,g]
   | false=>rw [hn] at hP; subst hP; simp only [↓eA,eB,seval])
end Tz
set_option maxRecDepth 100000
open Gs Go
namespace Tz
def nm (l:List ByteArray)(i:Nat):ByteArray:=l[i]?.getD ⟨#[]⟩
abbrev box3 (s:Survey)(H:Heap):Prop:=hget H 1=some (.box s.cells false)∧hget H 3=some (.box [int s.pit.x0,int s.pit.y0,int s.pit.z0] false)∧hget H 4=some (.box [int s.pit.x1,int s.pit.y1,int s.pit.z1] false)
end Tz
set_option maxRecDepth 100000
open Gs Go
namespace Tz
def rf (n:Int):Bool:=!(decide (-1000000≤n) && decide (n≤1000000))
end Tz
set_option maxRecDepth 100000
open Gs Go
namespace Tz
abbrev ints (l:List Int):List D:=l.map int
end Tz
set_option maxRecDepth 100000
open Gs Go
namespace Tz
end Tz
set_option maxHeartbeats 2000000
set_option maxRecDepth 100000
open Gs Go
namespace Tz
end Tz
