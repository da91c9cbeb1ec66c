/- Polygons of the reference; no conditions. -/
import Derived.Test.YtbdcbppmgbekoaaGreatS1toS5
set_option linter.all false
set_option maxRecDepth 100000
open Gs Go
namespace Tz
theorem lp_rin (p:List Pt)(hb:p.length < 1000000000)(ha:AllIn p)(i:Nat)(hi:i < p.length)(e:Env)(h0:Gs.get e 0=poly p)(h3:Gs.get e 3=int p.length)(h4:Gs.get e 4=int i)(h5:Gs.get e 5=int (i + 2:Nat)) :
   Ends T 101008 e [] (fun X e' H'=>H'=[]∧match (List.range' (i + 2) (p.length - (i + 2))).any (crossB p i) with | true=>X = .ret∧Gs.get e' 2 = .bool false | false=>X = .ex 2∧Gs.get e' 0=poly p∧Gs.get e' 3=int p.length∧Gs.get e' 4=int i):=by
 have hp:0 < p.length:=by omega
 refine loop_fr (T:=T) (key:=101008) (li:=l101008.1) rfl (i + 2) p.length (crossB p i) [] (fun k e=>Gs.get e 0=poly p∧Gs.get e 3=int p.length∧Gs.get e 4=int i∧Gs.get e 5=int k) (fun X e'=>X = .ret∧Gs.get e' 2 = .bool false) (fun X e'=>X = .ex 2∧Gs.get e' 0=poly p∧Gs.get e' 3=int p.length∧Gs.get e' 4=int i) ?_ ?_ e ⟨h0,h3,h4,h5⟩
 · rintro k e hk hlt ⟨h0,h3,h4,h5⟩
   have e1:=e_next hp (show i < 4611686018427387904 by omega) (p:=p)
   have e2:=e_next hp (show k < 4611686018427387904 by omega) (p:=p)
   have n1:nx p i < p.length:=nx_lt hp
   have n2:nx p k < p.length:=nx_lt hp
   have e3:=e_rMeet (ha.pt hi) (ha.pt (nx_lt (i:=i) hp)) (ha.pt hlt) (ha.pt (nx_lt (i:=k) hp))
   simp only [↓eA,eB,seval,l101008,h0,h3,h4,h5,hlt,hi,n1,n2,wrap_succ (show k < 4611686018427387904 by omega),get_pt hi,get_pt hlt,get_pt n1,get_pt n2,e1,e2,e3]
   cases hb:crossB p i k<;>simp only [crossB] at hb<;>simp only [↓eA,eB,seval,hb]
   · exact ⟨trivial,trivial,trivial,trivial,trivial,trivial⟩
   · exact ⟨trivial,trivial,trivial,trivial⟩
 · rintro k e hk _ ⟨h0,h3,h4,h5⟩
   have hlt:¬ k < p.length:=by omega
   simp only [↓eA,eB,seval,l101008,h0,h3,h4,h5,hlt]
   exact ⟨trivial,trivial,trivial,trivial,trivial,trivial⟩
theorem lp_rout (p:List Pt)(hb:p.length < 1000000000)(ha:AllIn p)(ht:turns p=false)(e:Env)(h0:Gs.get e 0=poly p)(h3:Gs.get e 3=int p.length)(h4:Gs.get e 4=int 0) :
   Ends T 101003 e [] (fun X e' H'=>H'=[]∧match crosses p with | true=>X = .ret∧Gs.get e' 2 = .bool false | false=>X = .ex 0):=by
 refine loop_rng (T:=T) (key:=101003) (li:=l101003.1) rfl p.length (fun i=>(List.range' (i + 2) (p.length - (i + 2))).any (crossB p i)) [] (fun i e=>Gs.get e 0=poly p∧Gs.get e 3=int p.length∧Gs.get e 4=int i) (fun X e'=>X = .ret∧Gs.get e' 2 = .bool false) (fun X e'=>X = .ex 0) ?_ ?_ e ⟨h0,h3,h4⟩
 · rintro i e hi ⟨h0,h3,h4⟩
   have hp:0 < p.length:=by omega
   have hori:ori (pt p i) (pt p (nx p i)) (pt p (nx p (nx p i)))≠0:=by
     have:=List.any_eq_false.1 ht i (by simpa using hi)
     have:ori (pt p i) (pt p (nx p i)) (pt p (nx p (nx p i)))=1:=by simpa using this
     rw [this]; decide
   have n1:nx p i < p.length:=nx_lt hp
   have n2:nx p (nx p i) < p.length:=nx_lt hp
   have e1:=e_next hp (show i < 4611686018427387904 by omega) (p:=p)
   have e2:=e_next hp (show nx p i < 4611686018427387904 by omega) (p:=p)
   have e3:=e_back (ha.pt hi) (ha.pt n1) (ha.pt n2) hori
   simp only [↓eA,eB,seval,l101003,h0,h3,h4,hi,n1,n2,wrap_succ (show i < 4611686018427387904 by omega),wrap_two (show i < 4611686018427387904 by omega),get_pt hi,get_pt n1,get_pt n2,e1,e2,e3]
   generalize hE:(lim T).loop 101008 _ _=R
   obtain ⟨X,e',H',rfl,rfl,hP⟩:=Ends.at hE (lp_rin p hb ha i hi _ rfl rfl rfl rfl)
   cases hc:(List.range' (i + 2) (p.length - (i + 2))).any (crossB p i) with
   | true=>
     rw [hc] at hP
     obtain ⟨rfl,h2⟩:=hP
     simp only [↓eA,eB,seval,h2]
     exact ⟨trivial,trivial,trivial,trivial⟩
   | false=>
     rw [hc] at hP
     obtain ⟨rfl,g0,g3,g4⟩:=hP
     simp only [↓eA,eB,seval,g0,g3,g4,wrap_succ (show i < 4611686018427387904 by omega)]
     exact ⟨trivial,trivial,trivial,trivial,trivial⟩
 · rintro e ⟨h0,h3,h4⟩
   simp only [↓eA,eB,seval,l101003,h0,h3,h4,Nat.lt_irrefl]
   exact ⟨trivial,trivial,trivial⟩
theorem e_rSimple (p:List Pt)(hb:p.length < 1000000000)(ha:AllIn p)(ht:turns p=false):L.call 101 [poly p] []=some (.bool (!crosses p),[]):=
 call_eq rfl rfl (by
   simp only [↓eA,eB,seval,c101]
   generalize hE:(lim T).loop 101003 _ _=R
   obtain ⟨X,e',H',rfl,rfl,hP⟩:=Ends.at hE (lp_rout p hb ha ht _ rfl rfl rfl)
   cases hc:crosses p with
   | true=>rw [hc] at hP; obtain ⟨rfl,h2⟩:=hP; simp only [↓eA,eB,seval,h2]
   | false=>rw [hc] at hP; subst hP; simp only [↓eA,eB,seval])
def convex (p:List Pt):Bool:=!turns p && !crosses p
theorem e_rConvex (p:List Pt)(hb:p.length < 1000000000)(ha:AllIn p):L.call 67 [poly p] []=some (.bool (convex p),[]):=
 call_eq rfl rfl (by
   simp only [↓eA,eB,seval,c67]
   generalize hE:(lim T).loop 67002 _ _=R
   obtain ⟨X,e',H',rfl,rfl,hP⟩:=Ends.at hE (loop_rng (T:=T) (key:=67002) (li:=l67002.1) rfl p.length (fun i=>!decide (ori (pt p i) (pt p (nx p i)) (pt p (nx p (nx p i)))=1)) [] (fun i e=>Gs.get e 0=poly p∧Gs.get e 3=int i) (fun X e'=>X = .ret∧Gs.get e' 2 = .bool false) (fun X e'=>X = .ex 0∧Gs.get e' 0=poly p) (fun i e hi ⟨h0,h3⟩=>by
     have hp:0 < p.length:=by omega
     have n1:nx p i < p.length:=nx_lt hp
     have n2:nx p (nx p i) < p.length:=nx_lt hp
     have e1:=e_next hp (show i < 4611686018427387904 by omega) (p:=p)
     have e2:=e_next hp (show nx p i < 4611686018427387904 by omega) (p:=p)
     have e3:=e_rOrient (tri (ha.pt hi) (ha.pt n1) (ha.pt n2))
     simp only [↓eA,eB,seval,l67002,h0,h3,hi,n1,n2,wrap_succ (show i < 4611686018427387904 by omega),get_pt hi,get_pt n1,get_pt n2,e1,e2,e3]
     cases hb:decide (ori (pt p i) (pt p (nx p i)) (pt p (nx p (nx p i)))=1)<;>simp only [↓eA,eB,seval,hb]
     · exact ⟨trivial,trivial,trivial,trivial⟩
     · exact ⟨trivial,trivial,trivial,trivial⟩) (fun e ⟨h0,h3⟩=>by
     simp only [↓eA,eB,seval,l67002,h0,h3,Nat.lt_irrefl]
     exact ⟨trivial,trivial,trivial,trivial⟩) _ ⟨rfl,rfl⟩)
   unfold convex
   change match turns p with | true=>_ | false=>_ at hP
   cases hc:turns p with
   | true=>rw [hc] at hP; obtain ⟨rfl,h2⟩:=hP; simp only [↓eA,eB,seval,h2]
   | false=>rw [hc] at hP; obtain ⟨rfl,h2⟩:=hP; simp only [↓eA,eB,seval,h2,e_rSimple p hb ha hc])
def eqPt (a b:Pt):Bool:=decide (a.x=b.x) && decide (a.y=b.y)
def dup (p:List Pt):Bool:=(List.range p.length).any fun i=>eqPt (pt p i) (pt p (nx p i))
def anyOut (p:List Pt):Bool:=p.any fun a=>!a.ok
def polyErr (p:List Pt):Int:=if 64 < p.length then 7 else if p.length < 3 then 1 else if anyOut p then 6 else if dup p then 5 else 0
theorem e_allowed (a:Pt):L.call 98 [a.enc] []=some (.bool a.ok,[]):=call_eq rfl rfl (by simp only [↓eA,eB,seval,c98]; rfl)
theorem lp_c1 (p:List Pt)(hb:p.length < 1000000000)(e:Env)(h0:Gs.get e 0=poly p)(h3:Gs.get e 3=int 0) :
   Ends T 66006 e [] (fun X e' H'=>H'=[]∧match anyOut p with | true=>X = .ret∧Gs.get e' 2=int 6 | false=>X = .ex 0∧Gs.get e' 0=poly p):=by
 refine loop_any (T:=T) (key:=66006) (li:=l66006.1) rfl p (fun a=>!a.ok) [] (fun i e=>Gs.get e 0=poly p∧Gs.get e 3=int i) (fun X e'=>X = .ret∧Gs.get e' 2=int 6) (fun X e'=>X = .ex 0∧Gs.get e' 0=poly p) ?_ ?_ e ⟨h0,h3⟩
 · rintro i a e hx hi ⟨h0,h3⟩
   have hx':(p.map Pt.enc)[i]?=some a.enc:=by simp [hx]
   simp only [↓eA,eB,seval,l66006,h0,h3,hi,hx',e_allowed,wrap_succ (show i < 4611686018427387904 by omega)]
   cases ha:a.ok<;>simp only [↓eA,eB,seval]
   · exact ⟨trivial,trivial,trivial,trivial⟩
   · exact ⟨trivial,trivial,trivial,trivial⟩
 · rintro e ⟨h0,h3⟩
   simp only [↓eA,eB,seval,l66006,h0,h3,Nat.lt_irrefl]
   exact ⟨trivial,trivial,trivial,trivial⟩
theorem lp_c2 (p:List Pt)(hb:p.length < 1000000000)(e:Env)(h0:Gs.get e 0=poly p)(h4:Gs.get e 4=int 0) :
   Ends T 66011 e [] (fun X e' H'=>H'=[]∧match dup p with | true=>X = .ret∧Gs.get e' 2=int 5 | false=>X = .ex 2):=by
 refine loop_rng (T:=T) (key:=66011) (li:=l66011.1) rfl p.length (fun i=>eqPt (pt p i) (pt p (nx p i))) [] (fun i e=>Gs.get e 0=poly p∧Gs.get e 4=int i) (fun X e'=>X = .ret∧Gs.get e' 2=int 5) (fun X e'=>X = .ex 2) ?_ ?_ e ⟨h0,h4⟩
 · rintro i e hi ⟨h0,h4⟩
   have hp:0 < p.length:=by omega
   have n1:nx p i < p.length:=nx_lt hp
   have e1:=e_next hp (show i < 4611686018427387904 by omega) (p:=p)
   simp only [↓eA,eB,seval,l66011,h0,h4,hi,n1,get_pt hi,get_pt n1,e1,wrap_succ (show i < 4611686018427387904 by omega)]
   cases hb:eqPt (pt p i) (pt p (nx p i))<;>simp only [eqPt] at hb<;>simp only [↓eA,eB,seval,hb]
   · exact ⟨trivial,trivial,trivial,trivial⟩
   · exact ⟨trivial,trivial,trivial,trivial⟩
 · rintro e ⟨h0,h4⟩
   simp only [↓eA,eB,seval,l66011,h0,h4,Nat.lt_irrefl]
   exact ⟨trivial,trivial,trivial⟩
theorem e_rPolyCheck (p:List Pt)(hb:p.length < 1000000000):L.call 66 [poly p] []=some (int (polyErr p),[]):=
 call_eq rfl rfl (by
   unfold polyErr
   by_cases h1:64 < p.length
   · have h1':(64:Int) < p.length:=by omega
     simp only [↓eA,eB,seval,c66,h1,h1']
   · have h1':¬ (64:Int) < p.length:=by omega
     by_cases h2:p.length < 3
     · have h2':(p.length:Int) < 3:=by omega
       simp only [↓eA,eB,seval,c66,h1,h1',h2,h2']
     · have h2':¬ (p.length:Int) < 3:=by omega
       simp only [↓eA,eB,seval,c66,h1,h1',h2,h2']
       generalize hE:(lim T).loop 66006 _ _=R
       obtain ⟨X,e',H',rfl,rfl,hP⟩:=Ends.at hE (lp_c1 p hb _ rfl rfl)
       cases hc:anyOut p with
       | true=>rw [hc] at hP; obtain ⟨rfl,g⟩:=hP; simp only [↓eA,eB,seval,g]
       | false=>
         rw [hc] at hP; obtain ⟨rfl,g⟩:=hP
         simp only [↓eA,eB,seval,g]
         generalize hE:(lim T).loop 66011 _ _=R
         obtain ⟨X,e',H',rfl,rfl,hP⟩:=Ends.at hE (lp_c2 p hb _ (by rw [get_setl]; exact g) (by rw [get_setl]; rfl))
         cases hc:dup p with
         | true=>rw [hc] at hP; obtain ⟨rfl,g⟩:=hP; simp only [↓eA,eB,seval,g]
         | false=>rw [hc] at hP; subst hP; simp only [↓eA,eB,seval])
theorem anyOut_in {p:List Pt}(h:anyOut p=false):AllIn p:=fun c hc=>Pt.ok_in.1 (by
 have:=List.any_eq_false.1 h c hc
 simpa using this)
end Tz
