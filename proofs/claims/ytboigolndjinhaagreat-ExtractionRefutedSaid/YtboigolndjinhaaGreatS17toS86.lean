/- Names and size, reference; Small sites; Valid sites; part S82; part S86; no conditions. -/
import Derived.Test.YtboigolndjinhaaGreatS13toS64
import Derived.Test.YtboigolndjinhaaGreatS72toS77
set_option linter.all false
set_option maxRecDepth 100000
open Gs Go
namespace Tz
abbrev Hq (s:Survey)(acc:List D):Heap:=[(1,.box s.cells false),(1003,.row false 1 acc 0 true)]
theorem lp_rn1 (s:Survey)(hF:s.Fit0)(acc:List D)(hacc:acc.length≤4000000000)(e:Env)(H:Heap)(h1:Gs.get e 1 = .ptr 1 0)(h3:Gs.get e 3 = .ow 1003)(hi:Gs.get e 4=int 0)(hH1:hget H 1=some (.box s.cells false))(hH3:hget H 1003=some (.row false 1 acc 0 true)) :
   Ends T 88003 e H (fun X e' H'=>X = .ex 0∧Gs.get e' 1 = .ptr 1 0∧Gs.get e' 3 = .ow 1003∧H'=Hq s (acc ++ s.beds.map fun b=>.str b.name)):=by
 have hb:=hF.bl
 refine (loop_fold (T:=T) (key:=88003) (li:=l88003.1) rfl s.beds (fun (a:List D) (b:Bed)=>a ++ [.str b.name]) (fun i a e H=>Gs.get e 1 = .ptr 1 0∧Gs.get e 3 = .ow 1003∧Gs.get e 4=int i∧hget H 1=some (.box s.cells false)∧hget H 1003=some (.row false 1 a 0 true)∧a.length=acc.length + i) (fun a X e' H'=>X = .ex 0∧Gs.get e' 1 = .ptr 1 0∧Gs.get e' 3 = .ow 1003∧H'=Hq s a) ?_ ?_ acc e H ⟨h1,h3,hi,hH1,hH3,rfl⟩).mono ?_
 · rintro i b a e H hx hi ⟨h1,h3,h13,hH1,hH3,hl⟩
   have hx':(s.beds.map Bed.enc)[i]?=some b.enc:=by simp [hx]
   have hfit:fits (a.length + (0 + 1)) 16=true:=fits_of (by omega)
   simp only [↓eA,eB,seval,l88003,h1,h3,h13,hH1,hH3,hi,hx',hfit,wrap_succ (show i < 4611686018427387904 by omega)]
   refine ⟨trivial,trivial,trivial,trivial,trivial,trivial,?_⟩
   simp; omega
 · rintro a e H ⟨h1,h3,h13,hH1,hH3,hl⟩
   simp only [↓eA,eB,seval,l88003,h1,h3,h13,hH1,hH3,Nat.lt_irrefl]
   and_intros<;>first | trivial | rfl
 · rintro X e' H' ⟨rfl,g1,g3,rfl⟩
   refine ⟨rfl,g1,g3,?_⟩
   have:∀ (l:List Bed) (a:List D),l.foldl (fun a b=>a ++ [.str b.name]) a=a ++ l.map fun b=>.str b.name:=by
     intro l
     induction l with
     | nil=>intro a; simp
     | cons b r ih=>intro a; simp [ih]
   rw [this]
theorem lp_rn2 (s:Survey)(hF:s.Fit0)(acc:List D)(hacc:acc.length≤4000000000)(e:Env)(H:Heap)(h1:Gs.get e 1 = .ptr 1 0)(h3:Gs.get e 3 = .ow 1003)(hi:Gs.get e 5=int 0)(hH1:hget H 1=some (.box s.cells false))(hH3:hget H 1003=some (.row false 1 acc 0 true)) :
   Ends T 88007 e H (fun X e' H'=>X = .ex 2∧Gs.get e' 1 = .ptr 1 0∧Gs.get e' 3 = .ow 1003∧H'=Hq s (acc ++ s.joints.map fun b=>.str b.name)):=by
 have hb:=hF.jl
 refine (loop_fold (T:=T) (key:=88007) (li:=l88007.1) rfl s.joints (fun (a:List D) (b:Joint)=>a ++ [.str b.name]) (fun i a e H=>Gs.get e 1 = .ptr 1 0∧Gs.get e 3 = .ow 1003∧Gs.get e 5=int i∧hget H 1=some (.box s.cells false)∧hget H 1003=some (.row false 1 a 0 true)∧a.length=acc.length + i) (fun a X e' H'=>X = .ex 2∧Gs.get e' 1 = .ptr 1 0∧Gs.get e' 3 = .ow 1003∧H'=Hq s a) ?_ ?_ acc e H ⟨h1,h3,hi,hH1,hH3,rfl⟩).mono ?_
 · rintro i b a e H hx hi ⟨h1,h3,h13,hH1,hH3,hl⟩
   have hx':(s.joints.map Joint.enc)[i]?=some b.enc:=by simp [hx]
   have hfit:fits (a.length + (0 + 1)) 16=true:=fits_of (by omega)
   simp only [↓eA,eB,seval,l88007,h1,h3,h13,hH1,hH3,hi,hx',hfit,wrap_succ (show i < 4611686018427387904 by omega)]
   refine ⟨trivial,trivial,trivial,trivial,trivial,trivial,?_⟩
   simp; omega
 · rintro a e H ⟨h1,h3,h13,hH1,hH3,hl⟩
   simp only [↓eA,eB,seval,l88007,h1,h3,h13,hH1,hH3,Nat.lt_irrefl]
   and_intros<;>first | trivial | rfl
 · rintro X e' H' ⟨rfl,g1,g3,rfl⟩
   refine ⟨rfl,g1,g3,?_⟩
   have:∀ (l:List Joint) (a:List D),l.foldl (fun a b=>a ++ [.str b.name]) a=a ++ l.map fun b=>.str b.name:=by
     intro l
     induction l with
     | nil=>intro a; simp
     | cons b r ih=>intro a; simp [ih]
   rw [this]
theorem lp_rn3 (s:Survey)(hF:s.Fit0)(acc:List D)(hacc:acc.length≤4000000000)(e:Env)(H:Heap)(h1:Gs.get e 1 = .ptr 1 0)(h3:Gs.get e 3 = .ow 1003)(hi:Gs.get e 6=int 0)(hH1:hget H 1=some (.box s.cells false))(hH3:hget H 1003=some (.row false 1 acc 0 true)) :
   Ends T 88011 e H (fun X e' H'=>X = .ex 4∧Gs.get e' 1 = .ptr 1 0∧Gs.get e' 3 = .ow 1003∧H'=Hq s (acc ++ s.flaws.map fun b=>.str b.name)):=by
 have hb:=hF.fl
 refine (loop_fold (T:=T) (key:=88011) (li:=l88011.1) rfl s.flaws (fun (a:List D) (b:Flaw)=>a ++ [.str b.name]) (fun i a e H=>Gs.get e 1 = .ptr 1 0∧Gs.get e 3 = .ow 1003∧Gs.get e 6=int i∧hget H 1=some (.box s.cells false)∧hget H 1003=some (.row false 1 a 0 true)∧a.length=acc.length + i) (fun a X e' H'=>X = .ex 4∧Gs.get e' 1 = .ptr 1 0∧Gs.get e' 3 = .ow 1003∧H'=Hq s a) ?_ ?_ acc e H ⟨h1,h3,hi,hH1,hH3,rfl⟩).mono ?_
 · rintro i b a e H hx hi ⟨h1,h3,h13,hH1,hH3,hl⟩
   have hx':(s.flaws.map Flaw.enc)[i]?=some b.enc:=by simp [hx]
   have hfit:fits (a.length + (0 + 1)) 16=true:=fits_of (by omega)
   simp only [↓eA,eB,seval,l88011,h1,h3,h13,hH1,hH3,hi,hx',hfit,wrap_succ (show i < 4611686018427387904 by omega)]
   refine ⟨trivial,trivial,trivial,trivial,trivial,trivial,?_⟩
   simp; omega
 · rintro a e H ⟨h1,h3,h13,hH1,hH3,hl⟩
   simp only [↓eA,eB,seval,l88011,h1,h3,h13,hH1,hH3,Nat.lt_irrefl]
   and_intros<;>first | trivial | rfl
 · rintro X e' H' ⟨rfl,g1,g3,rfl⟩
   refine ⟨rfl,g1,g3,?_⟩
   have:∀ (l:List Flaw) (a:List D),l.foldl (fun a b=>a ++ [.str b.name]) a=a ++ l.map fun b=>.str b.name:=by
     intro l
     induction l with
     | nil=>intro a; simp
     | cons b r ih=>intro a; simp [ih]
   rw [this]
theorem e_rNames (s:Survey)(hF:s.Fit0):L.call 88 [s.enc] []=some (.fz false 1 (s.names.map .str),[]):=
 call_eq rfl rfl (by
   have hb:=hF.bl; have hj:=hF.jl
   simp only [↓eA,eB,seval,c88]
   generalize hE:(lim T).loop 88003 _ _=R
   obtain ⟨X,e',H',rfl,rfl,g1,g3,rfl⟩:=Ends.at hE (lp_rn1 s hF [] (by simp) _ _ rfl rfl rfl rfl rfl)
   simp only [↓eA,eB,seval,g1,g3]
   generalize hE:(lim T).loop 88007 _ _=R
   obtain ⟨X,e',H',rfl,rfl,g1,g3,rfl⟩:=Ends.at hE (lp_rn2 s hF _ (by simp; omega) _ _ (by simp only [↓eA,eB,seval,g1]) (by simp only [↓eA,eB,seval,g3]) (by simp only [↓eA,eB,seval]) (by simp only [↓eA,eB,seval]) rfl)
   simp only [↓eA,eB,seval,g1,g3]
   generalize hE:(lim T).loop 88011 _ _=R
   obtain ⟨X,e',H',rfl,rfl,g1,g3,rfl⟩:=Ends.at hE (lp_rn3 s hF _ (by simp; omega) _ _ (by simp only [↓eA,eB,seval,g1]) (by simp only [↓eA,eB,seval,g3]) (by simp only [↓eA,eB,seval]) (by simp only [↓eA,eB,seval]) rfl)
   simp only [↓eA,eB,seval,g3]
   rw [←names_map]
   simp only [List.nil_append])
def smallF (f:Flaw):Bool:=decide (10 < (f.base.length:Int))
def smallB (s:Survey):Bool:=!((decide (70 < (s.beds.length:Int)) || decide (140 < (s.joints.length:Int)) || decide (70 < (s.flaws.length:Int))) || decide (150 < (s.beds.length:Int) + (s.joints.length:Int) + (s.flaws.length:Int))) && (!s.flaws.any smallF && !s.names.any (fun n=>decide (100 < (n.size:Int))))
theorem lp_s1 (s:Survey)(hF:s.Fit0)(e:Env)(h1:Gs.get e 1 = .ptr 1 0)(h3:Gs.get e 3=int 0) :
   Ends T 115004 e (Hs s) (fun X e' H'=>H'=Hs s∧match s.flaws.any smallF with | true=>X = .ret∧Gs.get e' 2 = .bool false | false=>X = .ex 0∧Gs.get e' 1 = .ptr 1 0):=by
 have hb:=hF.fl
 refine loop_any (T:=T) (key:=115004) (li:=l115004.1) rfl s.flaws smallF (Hs s) (fun i e=>Gs.get e 1 = .ptr 1 0∧Gs.get e 3=int i) (fun X e'=>X = .ret∧Gs.get e' 2 = .bool false) (fun X e'=>X = .ex 0∧Gs.get e' 1 = .ptr 1 0) ?_ ?_ e ⟨h1,h3⟩
 · rintro i f e hx hi ⟨h1,h3⟩
   have hx':(s.flaws.map Flaw.enc)[i]?=some f.enc:=by simp [hx]
   simp only [↓eA,eB,seval,l115004,h1,h3,hi,hx',wrap_succ (show i < 4611686018427387904 by omega)]
   cases hc:smallF f<;>simp only [smallF] at hc<;>simp only [↓eA,eB,seval,hc]<;>and_intros<;>first | trivial | rfl
 · rintro e ⟨h1,h3⟩
   simp only [↓eA,eB,seval,l115004,h1,h3,Nat.lt_irrefl]
   and_intros<;>first | trivial | rfl
theorem lp_s2 (nz:Bool)(l:List ByteArray)(hb:l.length < 4000000000)(e:Env)(H:Heap)(h4:Gs.get e 4 = .fz nz 1 (l.map .str))(h5:Gs.get e 5=int 0) :
   Ends T 115010 e H (fun X e' H'=>match l.any (fun n=>decide (100 < (n.size:Int))) with | true=>X = .ret∧Gs.get e' 2 = .bool false | false=>X = .ex 2):=by
 refine loop_anyH (T:=T) (key:=115010) (li:=l115010.1) rfl l (fun n=>decide (100 < (n.size:Int))) (fun i e H=>Gs.get e 4 = .fz nz 1 (l.map .str)∧Gs.get e 5=int i) (fun X e' H'=>X = .ret∧Gs.get e' 2 = .bool false) (fun X e' H'=>X = .ex 2) ?_ ?_ e H ⟨h4,h5⟩
 · rintro i n e H hx hi ⟨h4,h5⟩
   have hx':(l.map D.str)[i]?=some (.str n):=by simp [hx]
   simp only [↓eA,eB,seval,l115010,h4,h5,hi,hx',wrap_succ (show i < 4611686018427387904 by omega)]
   cases hc:decide (100 < (n.size:Int))<;>simp only [↓eA,eB,seval,hc]<;>and_intros<;>first | trivial | rfl
 · rintro e H ⟨h4,h5⟩
   simp only [↓eA,eB,seval,l115010,h4,h5,Nat.lt_irrefl]
   and_intros<;>first | trivial | rfl
theorem e_small (s:Survey)(hF:s.Fit0):L.call 115 [s.enc] []=some (.bool (smallB s),[]):=
 call_eq rfl rfl (by
   have hb:=hF.bl; have hj:=hF.jl; have hf:=hF.fl
   have hnl:=s.names_length
   have hw1:IntKind.i64.wrap ((s.beds.length:Int) + (s.joints.length:Int))=(s.beds.length:Int) + (s.joints.length:Int):=wrap_in (by omega) (by omega)
   have hw2:IntKind.i64.wrap ((s.beds.length:Int) + (s.joints.length:Int) + (s.flaws.length:Int))=(s.beds.length:Int) + (s.joints.length:Int) + (s.flaws.length:Int):=wrap_in (by omega) (by omega)
   unfold smallB
   cases hc:((decide (70 < (s.beds.length:Int)) || decide (140 < (s.joints.length:Int)) || decide (70 < (s.flaws.length:Int))) || decide (150 < (s.beds.length:Int) + (s.joints.length:Int) + (s.flaws.length:Int))) with
   | true=>simp only [↓eA,eB,seval,c115,hw1,hw2,hc]
   | false=>
   simp only [↓eA,eB,seval,c115,hw1,hw2,hc]
   generalize hE:(lim T).loop 115004 _ _=R
   obtain ⟨X,e',H',rfl,rfl,hP⟩:=Ends.at hE (lp_s1 s hF _ rfl rfl)
   cases hs:s.flaws.any smallF with
   | true=>rw [hs] at hP; obtain ⟨rfl,g⟩:=hP; simp only [↓eA,eB,seval,g]
   | false=>
   rw [hs] at hP; obtain ⟨rfl,g1⟩:=hP
   simp only [↓eA,eB,seval,g1,e_rNames s hF]
   generalize hE:(lim T).loop 115010 _ _=R
   obtain ⟨X,e',H',rfl,hP⟩:=Ends.at hE (lp_s2 false s.names (by omega) _ _ (by simp only [↓eA,eB,seval]) (by simp only [↓eA,eB,seval]))
   cases hn:s.names.any (fun n=>decide (100 < (n.size:Int))) with
   | true=>rw [hn] at hP; obtain ⟨rfl,g⟩:=hP; simp only [↓eA,eB,seval,g]
   | false=>rw [hn] at hP; subst hP; simp only [↓eA,eB,seval])
end Tz
set_option maxRecDepth 100000
open Gs Go
namespace Tz.C18
def sizeOver (s:Survey):Bool:=decide (70 < (s.beds.length:Int)) || decide (140 < (s.joints.length:Int)) || decide (70 < (s.flaws.length:Int))
theorem e_small_over (s:Survey)(h:sizeOver s=true):L.call 115 [s.enc] []=some (.bool false,[]):=
 call_eq rfl rfl (by
   have h':=h
   simp only [sizeOver] at h'
   simp only [↓eA,eB,seval,c115,h']
   skip)
theorem small_fit {s:Survey}(h0:sizeOver s=false)(h:smallB s=true):s.Fit:=by
 simp only [sizeOver,Bool.or_eq_false_iff,decide_eq_false_iff_not] at h0
 unfold smallB at h
 simp only [Bool.and_eq_true,Bool.not_eq_true'] at h
 obtain ⟨_,h1,h2⟩:=h
 refine ⟨⟨by omega,by omega,by omega⟩,fun f hf=>?_,fun n hn=>?_⟩
 · have:=List.any_eq_false.1 h1 f hf
   simp only [smallF,decide_eq_true_eq] at this
   omega
 · have:=List.any_eq_false.1 h2 n hn
   simp only [decide_eq_true_eq] at this
   omega
theorem small13 (s:Survey):∃ v,L.call 115 [s.enc] []=some (.bool v,[])∧(v=true→s.Fit):=by
 cases h0:sizeOver s with
 | true=>exact ⟨false,e_small_over s h0,fun h=>by cases h⟩
 | false=>
   have h1:=h0
   simp only [sizeOver,Bool.or_eq_false_iff,decide_eq_false_iff_not] at h1
   exact ⟨_,e_small s ⟨by omega,by omega,by omega⟩,fun h=>small_fit h0 h⟩
def longE (b:Bench):Bool:=decide (100 < (b.name.size:Int))
def longK (b:Block):Bool:=decide (100 < (b.name.size:Int))
theorem lp_sm1 (s:Site)(hb:s.benches.length < 1000000)(e:Env)(H:Heap)(h1:Gs.get e 1 = .ptr 1 0)(hi:Gs.get e 3=int 0)(hH:hget H 1=some (.box s.cells false)) :
   Ends T 77004 e H (fun X e' H'=>match s.benches.any longE with | true=>X = .ret∧Gs.get e' 2 = .bool false | false=>X = .ex 0∧Gs.get e' 1 = .ptr 1 0∧H'=Hst s):=by
 refine (loop_anyH (T:=T) (key:=77004) (li:=l77004.1) rfl s.benches longE (fun i e H=>Gs.get e 1 = .ptr 1 0∧Gs.get e 3=int i∧hget H 1=some (.box s.cells false))
   (fun X e' H'=>X = .ret∧Gs.get e' 2 = .bool false) (fun X e' H'=>X = .ex 0∧Gs.get e' 1 = .ptr 1 0∧H'=Hst s) ?_ ?_ e H ⟨h1,hi,hH⟩).mono fun X e' H' h=>by cases hf:s.benches.any longE<;>rw [hf] at h<;>exact h
 · rintro i b e H hx hi ⟨h1,h3,hH⟩
   have hx':(s.benches.map Bench.enc)[i]?=some b.enc:=by simp [hx]
   cases hp:longE b<;>unfold longE at hp<;>simp only [↓eA,eB,seval,l77004,h1,h3,hH,hi,hx',hp,wrap_succ (show i < 4611686018427387904 by omega)]<;>and_intros<;>first | trivial | rfl
 · rintro e H ⟨h1,h3,hH⟩
   simp only [↓eA,eB,seval,l77004,h1,h3,hH,Nat.lt_irrefl]
   and_intros<;>first | trivial | rfl
theorem lp_sm2 (s:Site)(hb:s.blocks.length < 1000000)(e:Env)(H:Heap)(h1:Gs.get e 1 = .ptr 1 0)(hi:Gs.get e 4=int 0)(hH:hget H 1=some (.box s.cells false)) :
   Ends T 77009 e H (fun X e' H'=>match s.blocks.any longK with | true=>X = .ret∧Gs.get e' 2 = .bool false | false=>X = .ex 2∧Gs.get e' 1 = .ptr 1 0∧H'=Hst s):=by
 refine (loop_anyH (T:=T) (key:=77009) (li:=l77009.1) rfl s.blocks longK (fun i e H=>Gs.get e 1 = .ptr 1 0∧Gs.get e 4=int i∧hget H 1=some (.box s.cells false))
   (fun X e' H'=>X = .ret∧Gs.get e' 2 = .bool false) (fun X e' H'=>X = .ex 2∧Gs.get e' 1 = .ptr 1 0∧H'=Hst s) ?_ ?_ e H ⟨h1,hi,hH⟩).mono fun X e' H' h=>by cases hf:s.blocks.any longK<;>rw [hf] at h<;>exact h
 · rintro i b e H hx hi ⟨h1,h3,hH⟩
   have hx':(s.blocks.map Block.enc)[i]?=some b.enc:=by simp [hx]
   cases hp:longK b<;>unfold longK at hp<;>simp only [↓eA,eB,seval,l77009,h1,h3,hH,hi,hx',hp,wrap_succ (show i < 4611686018427387904 by omega)]<;>and_intros<;>first | trivial | rfl
 · rintro e H ⟨h1,h3,hH⟩
   simp only [↓eA,eB,seval,l77009,h1,h3,hH,Nat.lt_irrefl]
   and_intros<;>first | trivial | rfl
theorem small17 (s:Site):∃ v,L.call 77 [s.enc] []=some (.bool v,[])∧(v=true→s.Fit):=by
 obtain ⟨w,e1,hw⟩:=small13 s.survey
 cases hg:(((!w || decide (40 < (s.benches.length:Int))) || (decide (16 < (s.blocks.length:Int)) && decide ((s.blocks.length:Int)≤256))) || decide (260 < (s.blocks.length:Int))) with
 | true=>exact ⟨false,call_eq rfl rfl (by simp only [↓eA,eB,seval,c77,e1,hg,List.length_map]),fun h=>by cases h⟩
 | false=>
 have hg':=hg
 simp only [Bool.or_eq_false_iff,decide_eq_false_iff_not,Bool.not_eq_false'] at hg'
 obtain ⟨⟨⟨g1,g2⟩,_⟩,g3⟩:=hg'
 refine ⟨!s.benches.any longE && !s.blocks.any longK,call_eq rfl rfl ?_,fun h=>?_⟩
 · simp only [↓eA,eB,seval,c77,e1,hg,List.length_map]
   generalize hE:(lim T).loop 77004 _ _=R
   obtain ⟨X,e',H',rfl,hp⟩:=Ends.at hE (lp_sm1 s (by omega) _ _ (by simp only [↓eA,eB,seval]) (by simp only [↓eA,eB,seval]) rfl)
   cases ha:s.benches.any longE with
   | true=>rw [ha] at hp; obtain ⟨rfl,g2⟩:=hp; simp only [↓eA,eB,seval,g2]
   | false=>
   rw [ha] at hp
   obtain ⟨rfl,q1,rfl⟩:=hp
   simp only [↓eA,eB,seval,q1]
   generalize hE:(lim T).loop 77009 _ _=R
   obtain ⟨X,e',H',rfl,hp⟩:=Ends.at hE (lp_sm2 s (by omega) _ _ (by simp only [↓eA,eB,seval,q1]) (by simp only [↓eA,eB,seval]) rfl)
   cases hk:s.blocks.any longK with
   | true=>rw [hk] at hp; obtain ⟨rfl,g2⟩:=hp; simp only [↓eA,eB,seval,g2]
   | false=>rw [hk] at hp; obtain ⟨rfl,q1,rfl⟩:=hp; simp only [↓eA,eB,seval,q1]
 · simp only [Bool.and_eq_true,Bool.not_eq_true'] at h
   refine ⟨hw g1,by omega,by omega,fun b hb=>?_,fun b hb=>?_⟩
   · have:=List.any_eq_false.1 h.2 b hb
     simp only [longK,decide_eq_true_eq] at this
     omega
   · have:=List.any_eq_false.1 h.1 b hb
     simp only [longE,decide_eq_true_eq] at this
     omega
end Tz.C18
set_option maxRecDepth 100000
open Gs Go
namespace Tz.C18
structure SiteOk (s:Site):Prop where
 sv:surveyErr s.survey=0
 many:cMany s=false
 out:s.blocks.any (blockOut s)=false
 emp:s.blocks.any (fun b=>emptyB b.box)=false
 srt:steps s.blocks geBlock=false
 lap:lapF [] s.blocks=false
 cfl:s.blocks.any (conflict s)=false
 saf:cRange s=false
theorem site_ok {s:Site}(h:siteErr s=0):SiteOk s:=by
 unfold siteErr at h
 cases h0:decide (surveyErr s.survey=0) with
 | false=>rw [h0] at h; simp only [Bool.not_false,cond_true] at h; rw [h] at h0; simp at h0
 | true=>
 rw [h0] at h
 simp only [Bool.not_true,cond_false] at h
 have hn:(condL s).find? (·.val)=none:=by
   cases hf:(condL s).find? (·.val) with
   | none=>rfl
   | some c=>
     rw [hf] at h
     have hm:=List.mem_of_find?_eq_some hf
     simp only [condL,List.mem_cons,List.not_mem_nil,or_false] at hm
     simp only at h
     rcases hm with rfl | rfl | rfl | rfl | rfl | rfl | rfl | rfl | rfl<;>simp at h
 have hall:∀ c∈condL s,c.val=false:=fun c hc=>by
   have:=List.find?_eq_none.1 hn c hc
   simpa using this
 simp only [condL,List.mem_cons,List.not_mem_nil,or_false,forall_eq_or_imp,forall_eq] at hall
 obtain ⟨c1,c2,c3,c4,c5,c6,c7,c8,c9⟩:=hall
 simp only [Bool.or_eq_false_iff] at c3 c4 c5 c7
 exact ⟨of_decide_eq_true h0,c1,c5.2,c4.2,c7.2,c9,c8,c2⟩
theorem adj_pairwise {α:Type}(lt:α→α→Prop)(tr:∀ a b c,lt a b→lt b c→lt a c):∀ l:List α,(∀ i a b,l[i]?=some a→l[i + 1]?=some b→lt a b)→l.Pairwise lt
 | [],_=>List.Pairwise.nil
 | a :: r,h=>by
   have hr:=adj_pairwise lt tr r (fun i x y hx hy=>h (i + 1) x y (by simpa using hx) (by simpa using hy))
   refine List.pairwise_cons.2 ⟨fun z hz=>?_,hr⟩
   cases r with
   | nil=>cases hz
   | cons b r=>
     have hab:=h 0 a b rfl rfl
     rcases List.mem_cons.1 hz with rfl | hz
     · exact hab
     · exact tr a b z hab ((List.pairwise_cons.1 hr).1 z hz)
abbrev Sorted (bs:List Block):Prop:=bs.Pairwise fun a b=>slt a.name b.name=true
theorem sorted_of {bs:List Block}(h:steps bs geBlock=false):Sorted bs:=by
 refine adj_pairwise (fun a b:Block=>slt a.name b.name=true) (fun a b c h1 h2=>slt_trans h1 h2) bs fun i a b ha hb=>?_
 unfold steps at h
 have hi:=(List.getElem?_eq_some_iff.1 hb).1
 have:=List.any_eq_false.1 h (i + 1) (by rw [List.mem_range'_1]; omega)
 simp only [badIx,Nat.add_sub_cancel,ha,hb,geBlock,Bool.not_eq_true',Bool.not_eq_false] at this
 exact this
theorem sorted_find {bs:List Block}(h:Sorted bs){b:Block}(hb:b∈bs):bs.find? (called b.name)=some b:=by
 induction bs with
 | nil=>cases hb
 | cons a r ih=>
   have ha:=List.pairwise_cons.1 h
   rw [List.find?_cons]
   rcases List.mem_cons.1 hb with rfl | hb
   · have:called b.name b=true:=seq_refl _
     rw [this]
   · have hlt:=ha.1 b hb
     have:called b.name a=false:=slt_ne hlt
     rw [this]
     exact ih ha.2 hb
theorem sorted_inj {bs:List Block}(h:Sorted bs){a b:Block}(ha:a∈bs)(hb:b∈bs)(he:a.name=b.name):a=b:=by
 have h1:=sorted_find h ha
 have h2:=sorted_find h hb
 rw [he,h2] at h1
 injection h1 with h1
 exact h1.symm
theorem surveyOk_of {s:Site}(h:SiteOk s):SurveyOk s.survey:=survey_ok h.sv
theorem pit_in {s:Site}(h:SiteOk s):(-1000000≤s.survey.pit.x0∧s.survey.pit.x1≤1000000)∧(-1000000≤s.survey.pit.y0∧s.survey.pit.y1≤1000000)∧(-1000000≤s.survey.pit.z0∧s.survey.pit.z1≤1000000):=by
 have h1:=(surveyOk_of h).far
 simp only [Box.six,far6,List.any_cons,List.any_nil,Bool.or_false,Bool.or_eq_false_iff,decide_eq_false_iff_not] at h1
 omega
structure BoxIn (b:Box):Prop where
 x:b.x0 < b.x1
 y:b.y0 < b.y1
 z:b.z0 < b.z1
 x0 : -1000000≤b.x0
 y0 : -1000000≤b.y0
 z0 : -1000000≤b.z0
 x1:b.x1≤1000000
 y1:b.y1≤1000000
 z1:b.z1≤1000000
theorem box_in {s:Site}(h:SiteOk s){b:Block}(hb:b∈s.blocks):BoxIn b.box:=by
 have h1:=List.any_eq_false.1 h.out b hb
 have h2:=List.any_eq_false.1 h.emp b hb
 have h3:=pit_in h
 simp only [blockOut,insideB,Bool.not_not,Bool.or_eq_true,decide_eq_true_eq,not_or] at h1
 simp only [emptyB,Bool.or_eq_true,decide_eq_true_eq,not_or] at h2
 constructor<;>omega
theorem dupS_iff:∀ (l s:List ByteArray),dupS s l=false↔(∀ x∈l,x∉s)∧l.Nodup
 | [],s=>by simp [dupS]
 | n :: r,s=>by
   simp only [dupS,Bool.or_eq_false_iff,dupS_iff r (s ++ [n]),List.nodup_cons,List.forall_mem_cons]
   have hs:s.any (seq n)=false↔n∉s:=by
     rw [List.any_eq_false]
     constructor
     · intro h hm; exact h n hm (seq_refl _)
     · intro h x hx he; rw [seq_iff.1 he] at h; exact h hx
   rw [hs]
   constructor
   · rintro ⟨h1,h2,h3⟩
     refine ⟨⟨h1,fun x hx hxs=>h2 x hx (by simp [hxs])⟩,fun hn=>h2 n hn (by simp),h3⟩
   · rintro ⟨⟨h1,h2⟩,h3,h4⟩
     refine ⟨h1,fun x hx hxs=>?_,h4⟩
     rcases List.mem_append.1 hxs with g | g
     · exact h2 x hx g
     · rw [List.mem_singleton.1 g] at hx; exact h3 hx
end Tz.C18
set_option maxRecDepth 100000
open Gs Go
namespace Tz.C18
theorem wrap_lo (x:Int) : -9223372036854775808≤IntKind.i64.wrap x∧IntKind.i64.wrap x < 9223372036854775808:=by
 rw [IntKind.wrap_i64]; omega
theorem wrap_wrap (x:Int):IntKind.i64.wrap (IntKind.i64.wrap x)=IntKind.i64.wrap x:=wrap_in (wrap_lo x).1 (wrap_lo x).2
theorem lap_pairs:∀ (r s:List Block),lapF s r=false→(∀ b∈r,∀ c∈s,apart b.box c.box=true)∧r.Pairwise (fun c b=>apart b.box c.box=true)
 | [],s,_=>⟨fun b hb=>by (cases hb),List.Pairwise.nil⟩
 | b :: r,s,h=>by
   simp only [lapF,Bool.or_eq_false_iff] at h
   obtain ⟨h1,h2⟩:=lap_pairs r (s ++ [b]) h.2
   have h0:∀ c∈s,apart b.box c.box=true:=fun c hc=>by
     have:=List.any_eq_false.1 h.1 c hc
     simpa using this
   refine ⟨fun x hx c hc=>?_,List.pairwise_cons.2 ⟨fun x hx=>h1 x hx b (by simp),h2⟩⟩
   rcases List.mem_cons.1 hx with rfl | hx
   · exact h0 c hc
   · exact h1 x hx c (by simp [hc])
theorem apart_symm (a b:Box):apart a b=apart b a:=by
 unfold apart
 rw [Int.min_comm a.x1,Int.min_comm a.y1,Int.min_comm a.z1,Int.max_comm a.x0,Int.max_comm a.y0,Int.max_comm a.z0]
theorem pw_all {α:Type}{R:α→α→Prop}(hs:∀ a b,R a b→R b a):∀ {l:List α},l.Pairwise R→∀ {a b},a∈l→b∈l→a≠b→R a b
 | [],_,a,b,ha,_,_=>by cases ha
 | x :: r,h,a,b,ha,hb,hab=>by
   have hx:=List.pairwise_cons.1 h
   rcases List.mem_cons.1 ha with h1 | h1<;>rcases List.mem_cons.1 hb with h2 | h2
   · exact absurd (h1.trans h2.symm) hab
   · rw [h1]; exact hx.1 b h2
   · rw [h2]; exact hs _ _ (hx.1 a h1)
   · exact pw_all hs hx.2 h1 h2 hab
theorem disjoint {s:Site}(h:SiteOk s){a b:Block}(ha:a∈s.blocks)(hb:b∈s.blocks)(hab:a≠b):apart a.box b.box=true:=by
 have hp:=(lap_pairs s.blocks [] h.lap).2
 have:=pw_all (R:=fun c b:Block=>apart b.box c.box=true) (fun x y hxy=>by rw [apart_symm]; exact hxy) hp ha hb hab
 rw [apart_symm]; exact this
theorem taken_snoc (tk:List ByteArray)(n:ByteArray)(x:Block):taken (tk ++ [n]) x=(taken tk x || seq x.name n):=by
 unfold taken; simp
theorem possible_facts {s:Site}{tk:List ByteArray}{b:Block}(h:possible s tk b=true):taken tk b=false∧firstR s tk b.name (fun x=>decide (b.box.z1≤x.z0) && over2 x b.box)=none∧beddedB s.survey b.box.z0=true∧
   decide (cntB (freeB s tk b.box 0) (freeB s tk b.box 1) (freeB s tk b.box 2) (freeB s tk b.box 3) < 2)=false∧firstR s tk b.name (fun x=>!clearB s.safety b.box x)=none:=by
 have h:=of_decide_eq_true h
 unfold whyB at h
 cases h1:taken tk b with
 | true=>rw [h1] at h; simp at h
 | false=>
 rw [h1] at h
 simp only [cond_false] at h
 cases h2:firstR s tk b.name (fun x=>decide (b.box.z1≤x.z0) && over2 x b.box) with
 | some c=>rw [h2] at h; simp at h
 | none=>
 rw [h2] at h
 simp only at h
 cases h3:beddedB s.survey b.box.z0 with
 | false=>rw [h3] at h; simp at h
 | true=>
 rw [h3] at h
 simp only [Bool.not_true,cond_false] at h
 cases h4:decide (cntB (freeB s tk b.box 0) (freeB s tk b.box 1) (freeB s tk b.box 2) (freeB s tk b.box 3) < 2) with
 | true=>rw [h4] at h; simp at h
 | false=>
 rw [h4] at h
 simp only [cond_false] at h
 cases h5:firstR s tk b.name (fun x=>!clearB s.safety b.box x) with
 | some c=>rw [h5] at h; simp at h
 | none=>exact ⟨rfl,rfl,rfl,rfl,rfl⟩
theorem first_none {s:Site}{tk:List ByteArray}{n:ByteArray}{p:Box→Bool}(h:firstR s tk n p=none){x:Block}(hx:x∈s.blocks)(h1:seq x.name n=false)(h2:taken tk x=false):p x.box=false:=by
 have:=List.find?_eq_none.1 h x hx
 unfold firstP at this
 rw [h1,h2] at this
 simpa using this
theorem size_pos {c:Box}(h:sizeB c≠0):0 < wsub c.x1 c.x0∧0 < wsub c.y1 c.y0∧0 < wsub c.z1 c.z0:=by
 unfold sizeB at h
 cases h1:((decide (wsub c.x1 c.x0≤0) || decide (wsub c.y1 c.y0≤0)) || decide (wsub c.z1 c.z0≤0)) with
 | true=>rw [h1] at h; exact absurd rfl h
 | false=>
   simp only [Bool.or_eq_false_iff,decide_eq_false_iff_not] at h1
   omega
theorem size_wrap (c:Box):IntKind.i64.wrap (sizeB c)=sizeB c:=by
 unfold sizeB
 cases ((decide (wsub c.x1 c.x0≤0) || decide (wsub c.y1 c.y0≤0)) || decide (wsub c.z1 c.z0≤0)) with
 | true=>rfl
 | false=>exact wrap_wrap _
theorem fold_same (tk:List ByteArray)(b:Block)(c:Box)(hz:sizeB (inter c b.box)=0):∀ (l:List Block) (left:Int),(∀ x∈l,seq x.name b.name=true→x=b)→taken tk b=false→IntKind.i64.wrap left=left→l.foldl (openStep (tk ++ [b.name]) c) left=l.foldl (openStep tk c) left
 | [],_,_,_,_=>rfl
 | x :: r,left,hinj,hb,hw=>by
   simp only [List.foldl_cons]
   have hstep:openStep (tk ++ [b.name]) c left x=openStep tk c left x:=by
     unfold openStep
     rw [taken_snoc]
     cases hs:seq x.name b.name with
     | false=>rw [Bool.or_false]
     | true=>
       have:=hinj x List.mem_cons_self hs
       subst this
       rw [hb,hz]
       simp only [Bool.or_true,cond_true,cond_false,wsub,Int.sub_zero]
       exact hw
   rw [hstep]
   refine fold_same tk b c hz r _ (fun y hy=>hinj y (List.mem_cons_of_mem _ hy)) hb ?_
   unfold openStep
   cases taken tk x with
   | true=>exact wrap_wrap _
   | false=>exact hw
structure Inv (s:Site) (tk:List ByteArray):Prop where
 st:startErr s tk=0
 hang:∀ x∈s.blocks,taken tk x=false→openSt s tk (under x.box)=false
 clr:∀ k∈s.blocks,∀ m∈s.blocks,taken tk k=true→taken tk m=false→clearB s.safety k.box m.box=true
theorem fold_nil (c:Box):∀ (l:List Block) (left:Int),l.foldl (openStep [] c) left=left
 | [],_=>rfl
 | x :: r,left=>by
   simp only [List.foldl_cons]
   have:openStep [] c left x=left:=rfl
   rw [this]; exact fold_nil c r left
theorem wsub_in {p q:Int}(h1 : -2000000≤p)(h2:p≤2000000)(h3 : -2000000≤q)(h4:q≤2000000):wsub p q=p - q:=wrap_in (by omega) (by omega)
theorem under_size {b:Box}(h:BoxIn b):sizeB (under b)≠0:=by
 obtain ⟨h1,h2,h3,h4,h5,h6,h7,h8,h9⟩:=h
 unfold sizeB under
 simp only
 have ez:wsub b.z0 1=b.z0 - 1:=wsub_in (by omega) (by omega) (by omega) (by omega)
 have e1:wsub b.x1 b.x0=b.x1 - b.x0:=wsub_in (by omega) (by omega) (by omega) (by omega)
 have e2:wsub b.y1 b.y0=b.y1 - b.y0:=wsub_in (by omega) (by omega) (by omega) (by omega)
 have e3:wsub b.z0 (b.z0 - 1)=1:=by rw [wsub_in (by omega) (by omega) (by omega) (by omega)]; omega
 rw [ez,e1,e2,e3,decide_eq_false (by omega),decide_eq_false (by omega)]
 simp only [Bool.or_self,Bool.false_or,cond_false,wmul,Int.mul_one]
 have hp:0 < (b.x1 - b.x0) * (b.y1 - b.y0):=Int.mul_pos (by omega) (by omega)
 have hq:(b.x1 - b.x0) * (b.y1 - b.y0)≤2000000 * 2000000:=Int.mul_le_mul (by omega) (by omega) (by omega) (by omega)
 have hw:IntKind.i64.wrap ((b.x1 - b.x0) * (b.y1 - b.y0))=(b.x1 - b.x0) * (b.y1 - b.y0):=wrap_in (by omega) (by omega)
 rw [hw,hw]
 simp only [Int.reduceLE,decide_false,cond_false]
 omega
theorem inv_nil {s:Site}(h:startErr s []=0):Inv s []:=by
 have hok:=site_ok (start_ok h).1
 refine ⟨h,fun x hx _=>?_,fun k _ m _ hk=>by (cases hk)⟩
 unfold openSt
 rw [fold_nil]
 exact decide_eq_false (under_size (box_in hok hx))
theorem inv_step {s:Site}{tk:List ByteArray}(hI:Inv s tk){b:Block}(hb:b∈s.blocks)(hp:possible s tk b=true):Inv s (tk ++ [b.name]):=by
 have hok:=site_ok (start_ok hI.st).1
 have hs:=sorted_of hok.srt
 obtain ⟨f1,f2,_,_,f5⟩:=possible_facts hp
 refine ⟨?_,fun x hx ht=>?_,fun k hk m hm hkt hmt=>?_⟩
 · obtain ⟨g1,g2,g3⟩:=start_ok hI.st
   have hu:unknown s b.name=false:=by
     unfold unknown
     rw [List.any_eq_true.2 ⟨b,hb,seq_refl _⟩]; rfl
   have hd:dupS [] (tk ++ [b.name])=false:=by
     rw [dupS_iff] at g3 ⊢
     refine ⟨by simp,List.nodup_append.2 ⟨g3.2,by simp,fun x hx y hy=>?_⟩⟩
     rw [List.mem_singleton.1 hy]
     rintro rfl
     unfold taken at f1
     exact List.any_eq_false.1 f1 _ hx (seq_refl _)
   unfold startErr
   rw [decide_eq_true g1,List.any_append,g2,hd]
   simp [hu]
 · rw [taken_snoc,Bool.or_eq_false_iff] at ht
   have h0:=hI.hang x hx ht.1
   by_cases hz:sizeB (inter (under x.box) b.box)=0
   · unfold openSt at h0 ⊢
     rw [fold_same tk b _ hz s.blocks _ (fun y hy he=>sorted_inj hs hy hb (seq_iff.1 he)) f1 (size_wrap _)]
     exact h0
   · exfalso
     have hxb:x≠b:=by rintro rfl; rw [seq_refl] at ht; cases ht.2
     have hap:=disjoint hok hx hb hxb
     have hc:=first_none f2 hx ht.2 ht.1
     obtain ⟨p1,p2,p3⟩:=size_pos hz
     obtain ⟨a1,a2,a3,a4,a5,a6,a7,a8,a9⟩:=box_in hok hx
     obtain ⟨c1,c2,c3,c4,c5,c6,c7,c8,c9⟩:=box_in hok hb
     have ez:wsub x.box.z0 1=x.box.z0 - 1:=wsub_in (by omega) (by omega) (by omega) (by omega)
     simp only [inter,under,ez] at p1 p2 p3
     rw [wsub_in (by omega) (by omega) (by omega) (by omega)] at p1 p2 p3
     unfold apart at hap
     unfold over2 at hc
     simp only [Bool.or_eq_true,decide_eq_true_eq,Bool.and_eq_false_iff,decide_eq_false_iff_not] at hap hc
     omega
 · rw [taken_snoc,Bool.or_eq_false_iff] at hmt
   rw [taken_snoc,Bool.or_eq_true] at hkt
   rcases hkt with hkt | hkt
   · exact hI.clr k hk m hm hkt hmt.1
   · have:=sorted_inj hs hk hb (seq_iff.1 hkt)
     subst this
     have:=first_none f5 hm hmt.2 hmt.1
     simpa using this
end Tz.C18
set_option maxRecDepth 100000
open Gs Go
namespace Tz.C18
def sumR (lo:Int):Nat→(Int→Int)→Int
 | 0,_=>0
 | n + 1,f=>sumR lo n f + f (lo + n)
theorem sumR_add (lo:Int)(f g:Int→Int):∀ n,sumR lo n (fun i=>f i + g i)=sumR lo n f + sumR lo n g
 | 0=>rfl
 | n + 1=>by simp only [sumR]; rw [sumR_add lo f g n]; omega
theorem sumR_zero (lo:Int):∀ n,sumR lo n (fun _=>0)=0
 | 0=>rfl
 | n + 1=>by simp only [sumR]; rw [sumR_zero lo n]; rfl
theorem sumR_mulL (lo c:Int)(f:Int→Int):∀ n,sumR lo n (fun i=>c * f i)=c * sumR lo n f
 | 0=>by simp [sumR]
 | n + 1=>by simp only [sumR]; rw [sumR_mulL lo c f n,Int.mul_add]
theorem sumR_mulR (lo c:Int)(f:Int→Int):∀ n,sumR lo n (fun i=>f i * c)=sumR lo n f * c
 | 0=>by simp [sumR]
 | n + 1=>by simp only [sumR]; rw [sumR_mulR lo c f n,Int.add_mul]
theorem sumR_le (lo:Int){f g:Int→Int} : ∀ n:Nat,(∀ i,lo≤i→i < lo + n→f i≤g i)→sumR lo n f≤sumR lo n g
 | 0,_=>Int.le_refl _
 | n + 1,h=>by
   simp only [sumR]
   have:=sumR_le lo n fun i h1 h2=>h i h1 (by omega)
   have:=h (lo + n) (by omega) (by omega)
   omega
theorem sumR_eq (lo:Int){f g:Int→Int} : ∀ n:Nat,(∀ i,lo≤i→i < lo + n→f i≤g i)→sumR lo n f=sumR lo n g→∀ i,lo≤i→i < lo + n→f i=g i
 | 0,_,_,i,h1,h2=>by omega
 | n + 1,h,he,i,h1,h2=>by
   simp only [sumR] at he
   have a:=sumR_le lo n fun i h1 h2=>h i h1 (by omega)
   have b:=h (lo + n) (by omega) (by omega)
   by_cases hi:i=lo + n
   · subst hi; omega
   · exact sumR_eq lo n (fun i h1 h2=>h i h1 (by omega)) (by omega) i h1 (by omega)
theorem sumR_congr (lo:Int){f g:Int→Int} : ∀ n:Nat,(∀ i,lo≤i→i < lo + n→f i=g i)→sumR lo n f=sumR lo n g
 | 0,_=>rfl
 | n + 1,h=>by
   simp only [sumR]
   rw [sumR_congr lo n fun i h1 h2=>h i h1 (by omega),h (lo + n) (by omega) (by omega)]
def ind (a b i:Int):Int:=if a≤i∧i < b then 1 else 0
theorem sumR_ind (lo a b:Int):∀ n:Nat,sumR lo n (ind a b)=max 0 (min b (lo + n) - max a lo)
 | 0=>by simp only [sumR]; omega
 | n + 1=>by
   simp only [sumR]
   rw [sumR_ind lo a b n]
   unfold ind
   split<;>omega
theorem sumR_one (lo:Int):∀ n:Nat,sumR lo n (fun _=>1)=n
 | 0=>rfl
 | n + 1=>by simp only [sumR]; rw [sumR_one lo n]; omega
abbrev F3:=Int→Int→Int→Int
def pts (c:Box)(f:F3):Int:=sumR c.x0 (c.x1 - c.x0).toNat fun x=>sumR c.y0 (c.y1 - c.y0).toNat fun y=>sumR c.z0 (c.z1 - c.z0).toNat fun z=>f x y z
structure In3 (c:Box) (x y z:Int):Prop where
 x0:c.x0≤x
 x1:x < c.x1
 y0:c.y0≤y
 y1:y < c.y1
 z0:c.z0≤z
 z1:z < c.z1
theorem pts_add (c:Box)(f g:F3):pts c (fun x y z=>f x y z + g x y z)=pts c f + pts c g:=by
 unfold pts
 simp only [sumR_add]
theorem pts_zero (c:Box):pts c (fun _ _ _=>0)=0:=by
 unfold pts
 simp only [sumR_zero]
theorem pts_le {c:Box}{f g:F3}(h:∀ x y z,In3 c x y z→f x y z≤g x y z):pts c f≤pts c g:=
 sumR_le _ _ fun x a1 a2=>sumR_le _ _ fun y b1 b2=>sumR_le _ _ fun z c1 c2=>h x y z ⟨a1,by omega,b1,by omega,c1,by omega⟩
theorem pts_congr {c:Box}{f g:F3}(h:∀ x y z,In3 c x y z→f x y z=g x y z):pts c f=pts c g:=
 sumR_congr _ _ fun x a1 a2=>sumR_congr _ _ fun y b1 b2=>sumR_congr _ _ fun z c1 c2=>h x y z ⟨a1,by omega,b1,by omega,c1,by omega⟩
theorem pts_eq {c:Box}{f g:F3}(h:∀ x y z,In3 c x y z→f x y z≤g x y z)(he:pts c f=pts c g)(x y z:Int)(hp:In3 c x y z):f x y z=g x y z:=by
 obtain ⟨a1,a2,b1,b2,c1,c2⟩:=hp
 have h1:=sumR_eq _ _ (fun x a1 a2=>sumR_le _ _ fun y b1 b2=>sumR_le _ _ fun z c1 c2=>h x y z ⟨a1,by omega,b1,by omega,c1,by omega⟩) he x a1 (by omega)
 have h2:=sumR_eq _ _ (fun y b1 b2=>sumR_le _ _ fun z c1 c2=>h x y z ⟨a1,by omega,b1,by omega,c1,by omega⟩) h1 y b1 (by omega)
 exact sumR_eq _ _ (fun z c1 c2=>h x y z ⟨a1,by omega,b1,by omega,c1,by omega⟩) h2 z c1 (by omega)
def len (a b:Int):Int:=max 0 (b - a)
def vol (c:Box):Int:=len c.x0 c.x1 * len c.y0 c.y1 * len c.z0 c.z1
def ins (b:Box):F3:=fun x y z=>ind b.x0 b.x1 x * ind b.y0 b.y1 y * ind b.z0 b.z1 z
theorem pts_ins (c b:Box):pts c (ins b)=vol (inter c b):=by
 unfold pts ins
 simp only [sumR_mulL,sumR_mulR,sumR_ind]
 have key:∀ p q r s:Int,max 0 (min q (r + ((s - r).toNat:Nat)) - max p r)=len (max r p) (min s q):=by
   intro p q r s
   unfold len
   omega
 simp only [key]
 rfl
theorem pts_one (c:Box):pts c (fun _ _ _=>1)=vol c:=by
 unfold pts
 simp only [sumR_one]
 have h1:∀ k:Int,(fun _:Int=>k)=fun i=>k * (fun _=>1:Int→Int) i:=fun k=>by funext i; simp
 rw [h1 ((c.z1 - c.z0).toNat:Int),sumR_mulL,sumR_one,h1,sumR_mulL,sumR_one]
 have h2:∀ a b:Int,(((b - a).toNat:Nat):Int)=len a b:=fun a b=>by unfold len; omega
 rw [h2,h2,h2]
 unfold vol
 rw [Int.mul_comm,Int.mul_comm (len c.z0 c.z1),←Int.mul_assoc]
theorem ins_one {b:Box}{x y z:Int}(h:In3 b x y z):ins b x y z=1:=by
 obtain ⟨a1,a2,b1,b2,c1,c2⟩:=h
 unfold ins ind
 rw [if_pos ⟨a1,a2⟩,if_pos ⟨b1,b2⟩,if_pos ⟨c1,c2⟩]; rfl
theorem ins_zero {b:Box}{x y z:Int}(h:¬ In3 b x y z):ins b x y z=0:=by
 unfold ins ind
 by_cases hx:b.x0≤x∧x < b.x1
 · by_cases hy:b.y0≤y∧y < b.y1
   · by_cases hz:b.z0≤z∧z < b.z1
     · exact absurd ⟨hx.1,hx.2,hy.1,hy.2,hz.1,hz.2⟩ h
     · rw [if_neg hz]; simp
   · rw [if_neg hy]; simp
 · rw [if_neg hx]; simp
theorem ins_nn (b:Box)(x y z:Int):0≤ins b x y z:=by
 by_cases h:In3 b x y z
 · rw [ins_one h]; omega
 · rw [ins_zero h]; omega
theorem apart_in {a b:Box}(h:apart a b=true){x y z:Int}(ha:In3 a x y z)(hb:In3 b x y z):False:=by
 obtain ⟨a1,a2,b1,b2,c1,c2⟩:=ha
 obtain ⟨d1,d2,e1,e2,f1,f2⟩:=hb
 unfold apart at h
 simp only [Bool.or_eq_true,decide_eq_true_eq] at h
 omega
def cnt:List Box→F3
 | [],_,_,_=>0
 | b :: l,x,y,z=>ins b x y z + cnt l x y z
def vols (c:Box):List Box→Int
 | []=>0
 | b :: l=>vol (inter c b) + vols c l
theorem pts_cnt (c:Box):∀ l,pts c (cnt l)=vols c l
 | []=>pts_zero c
 | b :: l=>by
   have h:pts c (cnt (b :: l))=pts c (fun x y z=>ins b x y z + cnt l x y z):=rfl
   rw [h,pts_add,pts_ins,pts_cnt c l]; rfl
theorem cnt_nn (x y z:Int):∀ l,0≤cnt l x y z
 | []=>Int.le_refl _
 | b :: l=>by simp only [cnt]; have:=cnt_nn x y z l; have:=ins_nn b x y z; omega
theorem cnt_zero {x y z:Int} : ∀ {l:List Box},(∀ b∈l,¬ In3 b x y z)→cnt l x y z=0
 | [],_=>rfl
 | b :: l,h=>by simp only [cnt]; rw [ins_zero (h b List.mem_cons_self),cnt_zero fun c hc=>h c (List.mem_cons_of_mem _ hc)]; rfl
theorem cnt_one {x y z:Int} : ∀ {l:List Box},l.Pairwise (fun a b=>apart a b=true)→(∃ b∈l,In3 b x y z)→cnt l x y z=1
 | [],_,⟨b,hb,_⟩=>by cases hb
 | a :: l,hp,⟨b,hb,hi⟩=>by
   obtain ⟨h1,h2⟩:=List.pairwise_cons.1 hp
   simp only [cnt]
   by_cases ha:In3 a x y z
   · rw [ins_one ha,cnt_zero fun c hc hi=>apart_in (h1 c hc) ha hi]; rfl
   · rcases List.mem_cons.1 hb with rfl | hb
     · exact absurd hi ha
     · rw [ins_zero ha,cnt_one h2 ⟨b,hb,hi⟩]; rfl
theorem cnt_le {x y z:Int}{l:List Box}(hp:l.Pairwise (fun a b=>apart a b=true)):cnt l x y z≤1:=by
 by_cases h:∃ b∈l,In3 b x y z
 · rw [cnt_one hp h]; omega
 · rw [cnt_zero fun b hb hi=>h ⟨b,hb,hi⟩]; omega
theorem vols_le {l:List Box}(hp:l.Pairwise (fun a b=>apart a b=true))(c:Box):vols c l≤vol c:=by
 rw [←pts_cnt,←pts_one]
 exact pts_le fun x y z _=>cnt_le hp
theorem vols_full {l:List Box}(hp:l.Pairwise (fun a b=>apart a b=true))(c:Box):vols c l=vol c↔∀ x y z,In3 c x y z→∃ b∈l,In3 b x y z:=by
 rw [←pts_cnt,←pts_one]
 constructor
 · intro he x y z hi
   have:=pts_eq (fun x y z _=>cnt_le hp) he x y z hi
   by_cases h:∃ b∈l,In3 b x y z
   · exact h
   · rw [cnt_zero fun b hb hi=>h ⟨b,hb,hi⟩] at this; exact absurd this (by omega)
 · intro h
   exact pts_congr fun x y z hi=>cnt_one hp (h x y z hi)
end Tz.C18
