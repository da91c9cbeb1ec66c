/- Polygons of the reference; Polygons of the program; What lies outside; All names; no conditions. -/
import Derived.Test.YtboigolndjinhaaGreatS1toS5
set_option linter.all false
set_option maxRecDepth 100000
open Gs Go
namespace Tz
theorem lp_rin (p:List Pt)(hb:p.length < 1000000000)(ha:AllIn p)(i:Nat)(hi:i < p.length)(e:Env)(h0:Gs.get e 0=poly p)(h3:Gs.get e 3=int p.length)(h4:Gs.get e 4=int i)(h5:Gs.get e 5=int (i + 2:Nat)) :
   Ends T 201008 e [] (fun X e' H'=>H'=[]∧match (List.range' (i + 2) (p.length - (i + 2))).any (crossB p i) with | true=>X = .ret∧Gs.get e' 2 = .bool false | false=>X = .ex 2∧Gs.get e' 0=poly p∧Gs.get e' 3=int p.length∧Gs.get e' 4=int i):=by
 have hp:0 < p.length:=by omega
 refine loop_fr (T:=T) (key:=201008) (li:=l201008.1) rfl (i + 2) p.length (crossB p i) [] (fun k e=>Gs.get e 0=poly p∧Gs.get e 3=int p.length∧Gs.get e 4=int i∧Gs.get e 5=int k) (fun X e'=>X = .ret∧Gs.get e' 2 = .bool false) (fun X e'=>X = .ex 2∧Gs.get e' 0=poly p∧Gs.get e' 3=int p.length∧Gs.get e' 4=int i) ?_ ?_ e ⟨h0,h3,h4,h5⟩
 · rintro k e hk hlt ⟨h0,h3,h4,h5⟩
   have e1:=e_next hp (show i < 4611686018427387904 by omega) (p:=p)
   have e2:=e_next hp (show k < 4611686018427387904 by omega) (p:=p)
   have n1:nx p i < p.length:=nx_lt hp
   have n2:nx p k < p.length:=nx_lt hp
   have e3:=e_rMeet (ha.pt hi) (ha.pt (nx_lt (i:=i) hp)) (ha.pt hlt) (ha.pt (nx_lt (i:=k) hp))
   simp only [↓eA,eB,seval,l201008,h0,h3,h4,h5,hlt,hi,n1,n2,wrap_succ (show k < 4611686018427387904 by omega),get_pt hi,get_pt hlt,get_pt n1,get_pt n2,e1,e2,e3]
   cases hb:crossB p i k<;>simp only [crossB] at hb<;>simp only [↓eA,eB,seval,hb]
   · exact ⟨trivial,trivial,trivial,trivial,trivial,trivial⟩
   · exact ⟨trivial,trivial,trivial,trivial⟩
 · rintro k e hk _ ⟨h0,h3,h4,h5⟩
   have hlt:¬ k < p.length:=by omega
   simp only [↓eA,eB,seval,l201008,h0,h3,h4,h5,hlt]
   exact ⟨trivial,trivial,trivial,trivial,trivial,trivial⟩
theorem lp_rout (p:List Pt)(hb:p.length < 1000000000)(ha:AllIn p)(ht:turns p=false)(e:Env)(h0:Gs.get e 0=poly p)(h3:Gs.get e 3=int p.length)(h4:Gs.get e 4=int 0) :
   Ends T 201003 e [] (fun X e' H'=>H'=[]∧match crosses p with | true=>X = .ret∧Gs.get e' 2 = .bool false | false=>X = .ex 0):=by
 refine loop_rng (T:=T) (key:=201003) (li:=l201003.1) rfl p.length (fun i=>(List.range' (i + 2) (p.length - (i + 2))).any (crossB p i)) [] (fun i e=>Gs.get e 0=poly p∧Gs.get e 3=int p.length∧Gs.get e 4=int i) (fun X e'=>X = .ret∧Gs.get e' 2 = .bool false) (fun X e'=>X = .ex 0) ?_ ?_ e ⟨h0,h3,h4⟩
 · rintro i e hi ⟨h0,h3,h4⟩
   have hp:0 < p.length:=by omega
   have hori:ori (pt p i) (pt p (nx p i)) (pt p (nx p (nx p i)))≠0:=by
     have:=List.any_eq_false.1 ht i (by simpa using hi)
     have:ori (pt p i) (pt p (nx p i)) (pt p (nx p (nx p i)))=1:=by simpa using this
     rw [this]; decide
   have n1:nx p i < p.length:=nx_lt hp
   have n2:nx p (nx p i) < p.length:=nx_lt hp
   have e1:=e_next hp (show i < 4611686018427387904 by omega) (p:=p)
   have e2:=e_next hp (show nx p i < 4611686018427387904 by omega) (p:=p)
   have e3:=e_back (ha.pt hi) (ha.pt n1) (ha.pt n2) hori
   simp only [↓eA,eB,seval,l201003,h0,h3,h4,hi,n1,n2,wrap_succ (show i < 4611686018427387904 by omega),wrap_two (show i < 4611686018427387904 by omega),get_pt hi,get_pt n1,get_pt n2,e1,e2,e3]
   generalize hE:(lim T).loop 201008 _ _=R
   obtain ⟨X,e',H',rfl,rfl,hP⟩:=Ends.at hE (lp_rin p hb ha i hi _ rfl rfl rfl rfl)
   cases hc:(List.range' (i + 2) (p.length - (i + 2))).any (crossB p i) with
   | true=>
     rw [hc] at hP
     obtain ⟨rfl,h2⟩:=hP
     simp only [↓eA,eB,seval,h2]
     exact ⟨trivial,trivial,trivial,trivial⟩
   | false=>
     rw [hc] at hP
     obtain ⟨rfl,g0,g3,g4⟩:=hP
     simp only [↓eA,eB,seval,g0,g3,g4,wrap_succ (show i < 4611686018427387904 by omega)]
     exact ⟨trivial,trivial,trivial,trivial,trivial⟩
 · rintro e ⟨h0,h3,h4⟩
   simp only [↓eA,eB,seval,l201003,h0,h3,h4,Nat.lt_irrefl]
   exact ⟨trivial,trivial,trivial⟩
theorem e_rSimple (p:List Pt)(hb:p.length < 1000000000)(ha:AllIn p)(ht:turns p=false):L.call 201 [poly p] []=some (.bool (!crosses p),[]):=
 call_eq rfl rfl (by
   simp only [↓eA,eB,seval,c201]
   generalize hE:(lim T).loop 201003 _ _=R
   obtain ⟨X,e',H',rfl,rfl,hP⟩:=Ends.at hE (lp_rout p hb ha ht _ rfl rfl rfl)
   cases hc:crosses p with
   | true=>rw [hc] at hP; obtain ⟨rfl,h2⟩:=hP; simp only [↓eA,eB,seval,h2]
   | false=>rw [hc] at hP; subst hP; simp only [↓eA,eB,seval])
def convex (p:List Pt):Bool:=!turns p && !crosses p
theorem e_rConvex (p:List Pt)(hb:p.length < 1000000000)(ha:AllIn p):L.call 153 [poly p] []=some (.bool (convex p),[]):=
 call_eq rfl rfl (by
   simp only [↓eA,eB,seval,c153]
   generalize hE:(lim T).loop 153002 _ _=R
   obtain ⟨X,e',H',rfl,rfl,hP⟩:=Ends.at hE (loop_rng (T:=T) (key:=153002) (li:=l153002.1) rfl p.length (fun i=>!decide (ori (pt p i) (pt p (nx p i)) (pt p (nx p (nx p i)))=1)) [] (fun i e=>Gs.get e 0=poly p∧Gs.get e 3=int i) (fun X e'=>X = .ret∧Gs.get e' 2 = .bool false) (fun X e'=>X = .ex 0∧Gs.get e' 0=poly p) (fun i e hi ⟨h0,h3⟩=>by
     have hp:0 < p.length:=by omega
     have n1:nx p i < p.length:=nx_lt hp
     have n2:nx p (nx p i) < p.length:=nx_lt hp
     have e1:=e_next hp (show i < 4611686018427387904 by omega) (p:=p)
     have e2:=e_next hp (show nx p i < 4611686018427387904 by omega) (p:=p)
     have e3:=e_rOrient (tri (ha.pt hi) (ha.pt n1) (ha.pt n2))
     simp only [↓eA,eB,seval,l153002,h0,h3,hi,n1,n2,wrap_succ (show i < 4611686018427387904 by omega),get_pt hi,get_pt n1,get_pt n2,e1,e2,e3]
     cases hb:decide (ori (pt p i) (pt p (nx p i)) (pt p (nx p (nx p i)))=1)<;>simp only [↓eA,eB,seval,hb]
     · exact ⟨trivial,trivial,trivial,trivial⟩
     · exact ⟨trivial,trivial,trivial,trivial⟩) (fun e ⟨h0,h3⟩=>by
     simp only [↓eA,eB,seval,l153002,h0,h3,Nat.lt_irrefl]
     exact ⟨trivial,trivial,trivial,trivial⟩) _ ⟨rfl,rfl⟩)
   unfold convex
   change match turns p with | true=>_ | false=>_ at hP
   cases hc:turns p with
   | true=>rw [hc] at hP; obtain ⟨rfl,h2⟩:=hP; simp only [↓eA,eB,seval,h2]
   | false=>rw [hc] at hP; obtain ⟨rfl,h2⟩:=hP; simp only [↓eA,eB,seval,h2,e_rSimple p hb ha hc])
def eqPt (a b:Pt):Bool:=decide (a.x=b.x) && decide (a.y=b.y)
def dup (p:List Pt):Bool:=(List.range p.length).any fun i=>eqPt (pt p i) (pt p (nx p i))
def anyOut (p:List Pt):Bool:=p.any fun a=>!a.ok
def polyErr (p:List Pt):Int:=if 64 < p.length then 7 else if p.length < 3 then 1 else if anyOut p then 6 else if dup p then 5 else 0
theorem e_allowed (a:Pt):L.call 198 [a.enc] []=some (.bool a.ok,[]):=call_eq rfl rfl (by simp only [↓eA,eB,seval,c198]; rfl)
theorem lp_c1 (p:List Pt)(hb:p.length < 1000000000)(e:Env)(h0:Gs.get e 0=poly p)(h3:Gs.get e 3=int 0) :
   Ends T 152006 e [] (fun X e' H'=>H'=[]∧match anyOut p with | true=>X = .ret∧Gs.get e' 2=int 6 | false=>X = .ex 0∧Gs.get e' 0=poly p):=by
 refine loop_any (T:=T) (key:=152006) (li:=l152006.1) rfl p (fun a=>!a.ok) [] (fun i e=>Gs.get e 0=poly p∧Gs.get e 3=int i) (fun X e'=>X = .ret∧Gs.get e' 2=int 6) (fun X e'=>X = .ex 0∧Gs.get e' 0=poly p) ?_ ?_ e ⟨h0,h3⟩
 · rintro i a e hx hi ⟨h0,h3⟩
   have hx':(p.map Pt.enc)[i]?=some a.enc:=by simp [hx]
   simp only [↓eA,eB,seval,l152006,h0,h3,hi,hx',e_allowed,wrap_succ (show i < 4611686018427387904 by omega)]
   cases ha:a.ok<;>simp only [↓eA,eB,seval]
   · exact ⟨trivial,trivial,trivial,trivial⟩
   · exact ⟨trivial,trivial,trivial,trivial⟩
 · rintro e ⟨h0,h3⟩
   simp only [↓eA,eB,seval,l152006,h0,h3,Nat.lt_irrefl]
   exact ⟨trivial,trivial,trivial,trivial⟩
theorem lp_c2 (p:List Pt)(hb:p.length < 1000000000)(e:Env)(h0:Gs.get e 0=poly p)(h4:Gs.get e 4=int 0) :
   Ends T 152011 e [] (fun X e' H'=>H'=[]∧match dup p with | true=>X = .ret∧Gs.get e' 2=int 5 | false=>X = .ex 2):=by
 refine loop_rng (T:=T) (key:=152011) (li:=l152011.1) rfl p.length (fun i=>eqPt (pt p i) (pt p (nx p i))) [] (fun i e=>Gs.get e 0=poly p∧Gs.get e 4=int i) (fun X e'=>X = .ret∧Gs.get e' 2=int 5) (fun X e'=>X = .ex 2) ?_ ?_ e ⟨h0,h4⟩
 · rintro i e hi ⟨h0,h4⟩
   have hp:0 < p.length:=by omega
   have n1:nx p i < p.length:=nx_lt hp
   have e1:=e_next hp (show i < 4611686018427387904 by omega) (p:=p)
   simp only [↓eA,eB,seval,l152011,h0,h4,hi,n1,get_pt hi,get_pt n1,e1,wrap_succ (show i < 4611686018427387904 by omega)]
   cases hb:eqPt (pt p i) (pt p (nx p i))<;>simp only [eqPt] at hb<;>simp only [↓eA,eB,seval,hb]
   · exact ⟨trivial,trivial,trivial,trivial⟩
   · exact ⟨trivial,trivial,trivial,trivial⟩
 · rintro e ⟨h0,h4⟩
   simp only [↓eA,eB,seval,l152011,h0,h4,Nat.lt_irrefl]
   exact ⟨trivial,trivial,trivial⟩
theorem e_rPolyCheck (p:List Pt)(hb:p.length < 1000000000):L.call 152 [poly p] []=some (int (polyErr p),[]):=
 call_eq rfl rfl (by
   unfold polyErr
   by_cases h1:64 < p.length
   · have h1':(64:Int) < p.length:=by omega
     simp only [↓eA,eB,seval,c152,h1,h1']
   · have h1':¬ (64:Int) < p.length:=by omega
     by_cases h2:p.length < 3
     · have h2':(p.length:Int) < 3:=by omega
       simp only [↓eA,eB,seval,c152,h1,h1',h2,h2']
     · have h2':¬ (p.length:Int) < 3:=by omega
       simp only [↓eA,eB,seval,c152,h1,h1',h2,h2']
       generalize hE:(lim T).loop 152006 _ _=R
       obtain ⟨X,e',H',rfl,rfl,hP⟩:=Ends.at hE (lp_c1 p hb _ rfl rfl)
       cases hc:anyOut p with
       | true=>rw [hc] at hP; obtain ⟨rfl,g⟩:=hP; simp only [↓eA,eB,seval,g]
       | false=>
         rw [hc] at hP; obtain ⟨rfl,g⟩:=hP
         simp only [↓eA,eB,seval,g]
         generalize hE:(lim T).loop 152011 _ _=R
         obtain ⟨X,e',H',rfl,rfl,hP⟩:=Ends.at hE (lp_c2 p hb _ (by rw [get_setl]; exact g) (by rw [get_setl]; rfl))
         cases hc:dup p with
         | true=>rw [hc] at hP; obtain ⟨rfl,g⟩:=hP; simp only [↓eA,eB,seval,g]
         | false=>rw [hc] at hP; subst hP; simp only [↓eA,eB,seval])
theorem anyOut_in {p:List Pt}(h:anyOut p=false):AllIn p:=fun c hc=>Pt.ok_in.1 (by
 have:=List.any_eq_false.1 h c hc
 simpa using this)
end Tz
set_option maxRecDepth 100000
open Gs Go
namespace Tz
def okc (n:Int):Bool:=decide (-1000000≤n) && decide (n≤1000000)
theorem e_near (n:Int):L.call 246 [int n] []=some (.bool (okc n),[]):=call_eq rfl rfl (by simp only [↓eA,eB,seval,c246]; rfl)
theorem ok_okc (a:Pt):(!a.ok)=(!okc a.x || !okc a.y):=by
 simp only [Pt.ok,okc]
 cases decide (-1000000≤a.x)<;>cases decide (a.x≤1000000)<;>cases decide (-1000000≤a.y)<;>cases decide (a.y≤1000000)<;>rfl
theorem lp_allowed (nz:Bool)(p:List Pt)(hb:p.length < 1000000000)(e:Env)(h3:Gs.get e 3 = .fn 246 [])(h6:Gs.get e 6 = .fz nz 2 (p.map Pt.enc))(h7:Gs.get e 7=int p.length)(h8:Gs.get e 8=int 0) :
   Ends T 226003 e [] (fun X e' H'=>match anyOut p with | true=>X = .ret∧Gs.get e' 2 = .bool false | false=>X = .ex 0):=by
 refine loop_anyH (T:=T) (key:=226003) (li:=l226003.1) rfl p (fun a=>!a.ok) (fun i e H=>Gs.get e 3 = .fn 246 []∧Gs.get e 6 = .fz nz 2 (p.map Pt.enc)∧Gs.get e 7=int p.length∧Gs.get e 8=int i) (fun X e' _=>X = .ret∧Gs.get e' 2 = .bool false) (fun X e' _=>X = .ex 0) ?_ ?_ e [] ⟨h3,h6,h7,h8⟩
 · rintro i a e H hx hi ⟨h3,h6,h7,h8⟩
   have hx':(p.map Pt.enc)[i]?=some a.enc:=by simp [hx]
   simp only [↓eA,eB,seval,l226003,h3,h6,h7,h8,hi,hx',e_near,wrap_succ (show i < 4611686018427387904 by omega)]
   cases ha:(!a.ok)<;>rw [ok_okc] at ha<;>simp only [↓eA,eB,seval,ha]
   · exact ⟨trivial,trivial,trivial,trivial,trivial⟩
   · exact ⟨trivial,trivial,trivial⟩
 · rintro e H ⟨h3,h6,h7,h8⟩
   simp only [↓eA,eB,seval,l226003,h3,h6,h7,h8,Nat.lt_irrefl]
   exact ⟨trivial,trivial⟩
theorem e_allowedL (nz:Bool)(p:List Pt)(hb:p.length < 1000000000):L.call 226 [.fz nz 2 (p.map Pt.enc)] []=some (.bool (!anyOut p),[]):=
 call_eq rfl rfl (by
   simp only [↓eA,eB,seval,c226]
   generalize hE:(lim T).loop 226003 _ _=R
   obtain ⟨X,e',H',rfl,hP⟩:=Ends.at hE (lp_allowed nz p hb _ rfl rfl rfl rfl)
   cases hc:anyOut p with
   | true=>rw [hc] at hP; obtain ⟨rfl,g⟩:=hP; simp only [↓eA,eB,seval,g]
   | false=>rw [hc] at hP; subst hP; simp only [↓eA,eB,seval])
def dupFrom (b:Pt):List Pt→Bool
 | []=>false
 | q :: r=>eqPt q b || dupFrom q r
theorem eqPt_iff {a b:Pt} : eqPt a b=true↔a=b:=by
 cases a; cases b
 simp [eqPt]
theorem dupFrom_iff:∀ (l:List Pt) (b:Pt),dupFrom b l=true↔∃ i,i < l.length∧pt l i=(if i=0 then b else pt l (i - 1))
 | [],b=>by simp [dupFrom]
 | q :: r,b=>by
   simp only [dupFrom,Bool.or_eq_true,eqPt_iff,dupFrom_iff r q]
   constructor
   · rintro (h | ⟨i,hi,h⟩)
     · exact ⟨0,by simp,by simpa [pt] using h⟩
     · refine ⟨i + 1,by simpa using hi,?_⟩
       rw [if_neg (by omega)]
       cases i with
       | zero=>simpa [pt] using h
       | succ i=>rw [if_neg (by omega)] at h; simpa [pt] using h
   · rintro ⟨i,hi,h⟩
     cases i with
     | zero=>left; simpa [pt] using h
     | succ i=>
       right
       refine ⟨i,by simpa using hi,?_⟩
       rw [if_neg (by omega)] at h
       cases i with
       | zero=>simpa [pt] using h
       | succ i=>rw [if_neg (by omega)]; simpa [pt] using h
theorem dup_dupFrom {p:List Pt}(hp:0 < p.length):dupFrom (pt p (p.length - 1)) p=dup p:=by
 rw [Bool.eq_iff_iff,dupFrom_iff]
 simp only [dup,List.any_eq_true,List.mem_range,eqPt_iff,nx]
 constructor
 · rintro ⟨i,hi,h⟩
   by_cases h0:i=0
   · subst h0
     refine ⟨p.length - 1,by omega,?_⟩
     rw [if_pos rfl] at h
     rw [show p.length - 1 + 1=p.length by omega,Nat.mod_self,h]
   · rw [if_neg h0] at h
     refine ⟨i - 1,by omega,?_⟩
     rw [show i - 1 + 1=i by omega,Nat.mod_eq_of_lt hi,h]
 · rintro ⟨i,hi,h⟩
   by_cases h1:i + 1=p.length
   · rw [h1,Nat.mod_self] at h
     refine ⟨0,hp,?_⟩
     rw [if_pos rfl,show p.length - 1=i by omega,h]
   · rw [Nat.mod_eq_of_lt (by omega)] at h
     exact ⟨i + 1,by omega,by rw [if_neg (by omega)]; simpa using h.symm⟩
theorem thru_dup:∀ (l:List Pt) (b:Pt),thru (R:=Unit) (fun (b q:Pt)=>bif eqPt q b then .inl () else .inr q) l b=(match dupFrom b l with | true=>.inl () | false=>.inr ((l.getLast?).getD b))
 | [],b=>rfl
 | q :: r,b=>by
   simp only [thru,dupFrom]
   cases eqPt q b with
   | true=>rfl
   | false=>
     simp only [cond_false,Bool.false_or,thru_dup r q]
     cases dupFrom q r with
     | true=>rfl
     | false=>
       cases r with
       | nil=>rfl
       | cons x r=>simp [List.getLast?_cons]
theorem lp_dup (p:List Pt)(b:Pt)(hb:p.length < 1000000000)(e:Env)(H:Heap)(h5:Gs.get e 5 = .ptr 5 0)(h31:Gs.get e 31=poly p)(h32:Gs.get e 32=int p.length)(h33:Gs.get e 33=int 0)(hH:hget H 5=some (.box [int b.x,int b.y] false)) :
   Ends T 184009 e H (fun X e' H'=>match dupFrom b p with | true=>X = .ret∧Gs.get e' 4=int 5 | false=>X = .ex 1):=by
 refine (loop_thru (T:=T) (key:=184009) (li:=l184009.1) rfl (R:=Unit) (fun (b q:Pt)=>bif eqPt q b then .inl () else .inr q) p (fun i b e H=>Gs.get e 5 = .ptr 5 0∧Gs.get e 31=poly p∧Gs.get e 32=int p.length∧Gs.get e 33=int i∧hget H 5=some (.box [int b.x,int b.y] false)) (fun _ X e' H'=>X = .ret∧Gs.get e' 4=int 5) (fun _ X e' H'=>X = .ex 1) ?_ ?_ ?_ p [] b e H rfl ⟨h5,h31,h32,h33,hH⟩).mono ?_
 · rintro i q b b' e H hx ⟨h5,h31,h32,h33,hH⟩ hf
   have hi:i < p.length:=(List.getElem?_eq_some_iff.1 hx).1
   have hq:eqPt q b=false:=by cases h:eqPt q b<;>simp_all
   have hb':b'=q:=by simp [hq] at hf; exact hf.symm
   subst hb'
   simp only [eqPt] at hq
   have hx':(p.map Pt.enc)[i]?=some b'.enc:=by simp [hx]
   simp only [↓eA,eB,seval,l184009,h5,h31,h32,h33,hH,hi,hx',hq,wrap_succ (show i < 4611686018427387904 by omega)]
   exact ⟨trivial,trivial,trivial,trivial,trivial,trivial⟩
 · rintro i q b r e H hx ⟨h5,h31,h32,h33,hH⟩ hf
   have hi:i < p.length:=(List.getElem?_eq_some_iff.1 hx).1
   have hq:eqPt q b=true:=by cases h:eqPt q b<;>simp_all
   simp only [eqPt] at hq
   have hx':(p.map Pt.enc)[i]?=some q.enc:=by simp [hx]
   simp only [↓eA,eB,seval,l184009,h5,h31,h32,h33,hH,hi,hx',hq]
   exact ⟨trivial,trivial,trivial⟩
 · rintro b e H ⟨h5,h31,h32,h33,hH⟩
   simp only [↓eA,eB,seval,l184009,h5,h31,h32,h33,hH,Nat.lt_irrefl]
   exact ⟨trivial,trivial⟩
 · intro X e' H' h
   rw [thru_dup] at h
   cases hc:dupFrom b p with
   | true=>rw [hc] at h; exact h
   | false=>rw [hc] at h; exact h
theorem wrap_pred {n:Nat}(h:0 < n)(h':n < 4611686018427387904):IntKind.i64.wrap ((n:Int) - 1)=((n - 1:Nat):Int):=by
 rw [IntKind.wrap_i64]; omega
theorem e_check (p:List Pt)(hb:p.length < 1000000000):L.call 184 [poly p,.fz true 2 []] []=some (int (polyErr p),[]):=
 call_eq rfl rfl (by
   have e2:=e_allowedL true [] (by simp)
   have e2':L.call 226 [.fz true 2 []] []=some (.bool true,[]):=e2
   unfold polyErr
   by_cases h1:64 < p.length
   · have h1':(64:Int) < p.length:=by omega
     simp only [↓eA,eB,seval,c184,h1,h1']
   · have h1':¬ (64:Int) < p.length:=by omega
     by_cases h2:p.length < 3
     · have h2':(p.length:Int) < 3:=by omega
       simp only [↓eA,eB,seval,c184,h1,h1',h2,h2']
     · have h2':¬ (p.length:Int) < 3:=by omega
       cases hc:anyOut p with
       | true=>simp only [↓eA,eB,seval,c184,h1,h1',h2,h2',e_allowedL false p hb,e2',hc]
       | false=>
         have hl:p.length - 1 < p.length:=by omega
         simp only [↓eA,eB,seval,c184,h1,h1',h2,h2',e_allowedL false p hb,e2',hc,wrap_pred (show 0 < p.length by omega) (show p.length < 4611686018427387904 by omega),hl,get_pt hl]
         generalize hE:(lim T).loop 184009 _ _=R
         obtain ⟨X,e',H',rfl,hP⟩:=Ends.at hE (lp_dup p (pt p (p.length - 1)) hb _ _ rfl rfl rfl rfl rfl)
         rw [dup_dupFrom (by omega)] at hP
         cases hd:dup p with
         | true=>rw [hd] at hP; obtain ⟨rfl,g⟩:=hP; simp only [↓eA,eB,seval,g]
         | false=>rw [hd] at hP; subst hP; simp only [↓eA,eB,seval])
theorem e_polyCheck (p:List Pt)(hb:p.length < 1000000000):L.call 125 [poly p] []=some (int (polyErr p),[]):=
 call_eq rfl rfl (by simp only [↓eA,eB,seval,c125,e_check p hb])
theorem polyErr_in {p:List Pt}(h:polyErr p=0):AllIn p:=by
 unfold polyErr at h
 split at h<;>try (cases h; done)
 split at h<;>try (cases h; done)
 cases hc:anyOut p with
 | true=>rw [hc] at h; simp at h
 | false=>exact anyOut_in hc
theorem e_convex (p:List Pt)(hb:p.length < 1000000000)(h0:polyErr p=0):L.call 126 [poly p] []=some (.tup [.bool (convex p),int 0],[]):=
 call_eq rfl rfl (by
   have ha:=polyErr_in h0
   simp only [↓eA,eB,seval,c126,e_check p hb,h0]
   generalize hE:(lim T).loop 126005 _ _=R
   obtain ⟨X,e',H',rfl,rfl,hP⟩:=Ends.at hE (loop_rng (T:=T) (key:=126005) (li:=l126005.1) rfl p.length (fun i=>!decide (ori (pt p i) (pt p (nx p i)) (pt p (nx p (nx p i)))=1)) [] (fun i e=>Gs.get e 0=poly p∧Gs.get e 12=int p.length∧Gs.get e 13=int i) (fun X e'=>X = .ret∧Gs.get e' 2 = .bool false∧Gs.get e' 3=int 0) (fun X e'=>X = .ex 0∧Gs.get e' 0=poly p) (fun i e hi ⟨h0,h12,h13⟩=>by
     have hp:0 < p.length:=by omega
     have n1:nx p i < p.length:=nx_lt hp
     have n2:nx p (nx p i) < p.length:=nx_lt hp
     have e1:=e_end hp (show i < 4611686018427387904 by omega) (p:=p)
     have e2:=e_end hp (show nx p i < 4611686018427387904 by omega) (p:=p)
     have e3:=e_orient (tri (ha.pt hi) (ha.pt n1) (ha.pt n2))
     have hnx:(i + 1) % p.length=nx p i:=rfl
     simp only [↓eA,eB,seval,l126005,h0,h12,h13,hi,n1,n2,wrap_succ (show i < 4611686018427387904 by omega),dz hp,tmod_nat,hnx,get_pt hi,e1,e2,e3]
     cases hb:decide (ori (pt p i) (pt p (nx p i)) (pt p (nx p (nx p i)))=1)<;>simp only [↓eA,eB,seval,hb]
     · exact ⟨trivial,trivial,trivial,trivial,trivial⟩
     · exact ⟨trivial,trivial,trivial,trivial,trivial⟩) (fun e ⟨h0,h12,h13⟩=>by
     simp only [↓eA,eB,seval,l126005,h0,h12,h13,Nat.lt_irrefl]
     exact ⟨trivial,trivial,trivial,trivial⟩) _ ⟨rfl,rfl,rfl⟩)
   unfold convex
   change match turns p with | true=>_ | false=>_ at hP
   cases hc:turns p with
   | true=>rw [hc] at hP; obtain ⟨rfl,h2,h3⟩:=hP; simp only [↓eA,eB,seval,h2,h3]
   | false=>rw [hc] at hP; obtain ⟨rfl,h2⟩:=hP; simp only [↓eA,eB,seval,h2,e_simple p hb ha hc])
end Tz
set_option maxRecDepth 100000
open Gs Go
namespace Tz
theorem e_within1 (lo hi x:Int):L.call 230 [int x,.fp [int lo] 0,.fp [int hi] 0] []=some (.bool (decide (x < lo) || decide (hi < x)),[]):=
 call_eq rfl rfl (by simp only [↓eA,eB,seval,c230])
def wOut (lo hi:Int)(xs:List Int):Bool:=xs.any fun x=>decide (x < lo) || decide (hi < x)
theorem e_within (lo hi:Int)(xs:List Int)(hb:xs.length < 1000000000):L.call 188 [int lo,int hi,.fz false 1 (xs.map int)] []=some (.bool (!wOut lo hi xs),[]):=
 call_eq rfl rfl (by
   have e:=e_con_int (fun x=>decide (x < lo) || decide (hi < x)) 230 [.fp [int lo] 0,.fp [int hi] 0] false xs hb rfl (fun x _=>e_within1 lo hi x)
   simp only [↓eA,eB,seval,c188,e]
   rfl)
def inR (lo n hi:Int):Bool:=decide (lo≤n) && decide (n≤hi)
theorem inR_or (lo n hi:Int):(decide (n < lo) || decide (hi < n)) = !inR lo n hi:=by
 unfold inR
 rw [Bool.eq_iff_iff]
 simp only [Bool.or_eq_true,decide_eq_true_eq,Bool.not_eq_true',Bool.and_eq_false_iff,decide_eq_false_iff_not]
 omega
theorem e_within_1 (lo hi a:Int):L.call 188 [int lo,int hi,.fz false 1 [int a]] []=some (.bool (inR lo a hi),[]):=by
 have:=e_within lo hi [a] (by simp)
 simpa only [wOut,List.map_cons,List.map_nil,List.any_cons,List.any_nil,Bool.or_false,inR_or,Bool.not_not] using this
theorem e_within_2 (lo hi a b:Int):L.call 188 [int lo,int hi,.fz false 1 [int a,int b]] []=some (.bool (inR lo a hi && inR lo b hi),[]):=by
 have:=e_within lo hi [a,b] (by simp)
 simpa only [wOut,List.map_cons,List.map_nil,List.any_cons,List.any_nil,Bool.or_false,inR_or,Bool.not_or,Bool.not_not] using this
theorem e_inR (n lo hi:Int):L.call 151 [int n,int lo,int hi] []=some (.bool (inR lo n hi),[]):=e_in n lo hi
theorem e_ends0 (b:Box):L.call 189 [b.enc,int 0] []=some (.tup [int b.x0,int b.x1],[]):=call_eq rfl rfl (by simp only [↓eA,eB,seval,c189])
theorem e_ends1 (b:Box)(a:Int)(h:a≠0):L.call 189 [b.enc,int a] []=some (.tup [int b.y0,int b.y1],[]):=call_eq rfl rfl (by simp only [↓eA,eB,seval,c189,h,decide_eq_false h])
def Box.lo (b:Box)(a:Int):Int:=if a=0 then b.x0 else b.y0
def Box.hi (b:Box)(a:Int):Int:=if a=0 then b.x1 else b.y1
theorem e_ends (b:Box)(a:Int):L.call 189 [b.enc,int a] []=some (.tup [int (b.lo a),int (b.hi a)],[]):=by
 unfold Box.lo Box.hi
 by_cases h:a=0
 · subst h; exact e_ends0 b
 · rw [if_neg h,if_neg h]; exact e_ends1 b a h
def Survey.names (s:Survey):List ByteArray:=s.beds.map (·.name) ++ (s.joints.map (·.name) ++ s.flaws.map (·.name))
structure Survey.Fit0 (s:Survey):Prop where
 bl:s.beds.length < 1000000000
 jl:s.joints.length < 1000000000
 fl:s.flaws.length < 1000000000
structure Survey.Fit (s:Survey):Prop extends Survey.Fit0 s where
 base:∀ f∈s.flaws,f.base.length < 1000000000
 nm:∀ n∈s.names,n.size < 1000000000
def bedOut (s:Survey)(b:Bed):Bool:=!inR s.pit.z0 b.z s.pit.z1
def cornerOut (s:Survey)(c:Pt):Bool:=!inR s.pit.x0 c.x s.pit.x1 || !inR s.pit.y0 c.y s.pit.y1
def jointOut (s:Survey)(j:Joint):Bool:=!inR (s.pit.lo j.axis) j.at_ (s.pit.hi j.axis) || !(inR s.pit.z0 j.lo s.pit.z1 && inR s.pit.z0 j.hi s.pit.z1)
def flawOut (s:Survey)(f:Flaw):Bool:=!(inR s.pit.z0 f.lo s.pit.z1 && inR s.pit.z0 f.hi s.pit.z1) || f.base.any (cornerOut s)
def outB (s:Survey):Bool:=s.beds.any (bedOut s) || (s.joints.any (jointOut s) || s.flaws.any (flawOut s))
abbrev sb (s:Survey)(H:Heap):Prop:=hget H 1=some (.box s.cells false)
theorem lp_o1 (s:Survey)(hF:s.Fit)(e:Env)(H:Heap)(h1:Gs.get e 1 = .ptr 1 0)(h3:Gs.get e 3=int s.pit.z0)(h4:Gs.get e 4=int s.pit.z1)(h24:Gs.get e 24 = .fz false 2 (s.beds.map Bed.enc))(h25:Gs.get e 25=int s.beds.length)(h26:Gs.get e 26=int 0)(hH:sb s H) :
   Ends T 127003 e H (fun X e' H'=>match s.beds.any (bedOut s) with | true=>X = .ret∧Gs.get e' 2 = .bool true | false=>X = .ex 0∧Gs.get e' 1 = .ptr 1 0∧Gs.get e' 3=int s.pit.z0∧Gs.get e' 4=int s.pit.z1∧H'=[(1,.box s.cells false)]):=by
 refine loop_anyH (T:=T) (key:=127003) (li:=l127003.1) rfl s.beds (bedOut s) (fun i e H=>Gs.get e 1 = .ptr 1 0∧Gs.get e 3=int s.pit.z0∧Gs.get e 4=int s.pit.z1∧Gs.get e 24 = .fz false 2 (s.beds.map Bed.enc)∧Gs.get e 25=int s.beds.length∧Gs.get e 26=int i∧sb s H) (fun X e' _=>X = .ret∧Gs.get e' 2 = .bool true) (fun X e' H'=>X = .ex 0∧Gs.get e' 1 = .ptr 1 0∧Gs.get e' 3=int s.pit.z0∧Gs.get e' 4=int s.pit.z1∧H'=[(1,.box s.cells false)]) ?_ ?_ e H ⟨h1,h3,h4,h24,h25,h26,hH⟩
 · rintro i b e H hx hi ⟨h1,h3,h4,h24,h25,h26,hH⟩
   have hb:=hF.bl
   have hx':(s.beds.map Bed.enc)[i]?=some b.enc:=by simp [hx]
   simp only [↓eA,eB,seval,l127003,h1,h3,h4,h24,h25,h26,hH,hi,hx',e_within_1,wrap_succ (show i < 4611686018427387904 by omega)]
   cases hc:bedOut s b<;>simp only [bedOut,Bool.not_eq_true',Bool.not_eq_false'] at hc<;>simp only [↓eA,eB,seval,hc]
   · and_intros<;>first | trivial | rfl
   · and_intros<;>first | trivial | rfl
 · rintro e H ⟨h1,h3,h4,h24,h25,h26,hH⟩
   simp only [↓eA,eB,seval,l127003,h1,h3,h4,h24,h25,h26,hH,Nat.lt_irrefl]
   and_intros<;>first | trivial | rfl
theorem lp_o2 (s:Survey)(hF:s.Fit)(e:Env)(H:Heap)(h1:Gs.get e 1 = .ptr 1 0)(h3:Gs.get e 3=int s.pit.z0)(h4:Gs.get e 4=int s.pit.z1)(h24:Gs.get e 39 = .fz false 5 (s.joints.map Joint.enc))(h25:Gs.get e 40=int s.joints.length)(h26:Gs.get e 41=int 0)(hH:sb s H) :
   Ends T 127009 e H (fun X e' H'=>match s.joints.any (jointOut s) with | true=>X = .ret∧Gs.get e' 2 = .bool true | false=>X = .ex 2∧Gs.get e' 1 = .ptr 1 0∧Gs.get e' 3=int s.pit.z0∧Gs.get e' 4=int s.pit.z1∧H'=[(1,.box s.cells false)]):=by
 refine loop_anyH (T:=T) (key:=127009) (li:=l127009.1) rfl s.joints (jointOut s) (fun i e H=>Gs.get e 1 = .ptr 1 0∧Gs.get e 3=int s.pit.z0∧Gs.get e 4=int s.pit.z1∧Gs.get e 39 = .fz false 5 (s.joints.map Joint.enc)∧Gs.get e 40=int s.joints.length∧Gs.get e 41=int i∧sb s H) (fun X e' _=>X = .ret∧Gs.get e' 2 = .bool true) (fun X e' H'=>X = .ex 2∧Gs.get e' 1 = .ptr 1 0∧Gs.get e' 3=int s.pit.z0∧Gs.get e' 4=int s.pit.z1∧H'=[(1,.box s.cells false)]) ?_ ?_ e H ⟨h1,h3,h4,h24,h25,h26,hH⟩
 · rintro i b e H hx hi ⟨h1,h3,h4,h24,h25,h26,hH⟩
   have hb:=hF.jl
   have hx':(s.joints.map Joint.enc)[i]?=some b.enc:=by simp [hx]
   simp only [↓eA,eB,seval,l127009,h1,h3,h4,h24,h25,h26,hH,hi,hx',e_within_1,e_within_2,e_ends s.pit b.axis,wrap_succ (show i < 4611686018427387904 by omega)]
   cases hc:jointOut s b<;>simp only [jointOut] at hc<;>simp only [↓eA,eB,seval,hc]
   · and_intros<;>first | trivial | rfl
   · and_intros<;>first | trivial | rfl
 · rintro e H ⟨h1,h3,h4,h24,h25,h26,hH⟩
   simp only [↓eA,eB,seval,l127009,h1,h3,h4,h24,h25,h26,hH,Nat.lt_irrefl]
   and_intros<;>first | trivial | rfl
theorem lp_o4 (s:Survey)(f:Flaw)(hb:f.base.length < 1000000000)(i:Nat)(e:Env)(H:Heap)(h1:Gs.get e 1 = .ptr 1 0)(h3:Gs.get e 3=int s.pit.z0)(h4:Gs.get e 4=int s.pit.z1)(h24:Gs.get e 73 = .fz false 4 (s.flaws.map Flaw.enc))(h25:Gs.get e 74=int s.flaws.length)(h26:Gs.get e 75=int i)(h92:Gs.get e 92=poly f.base)(h93:Gs.get e 93=int f.base.length)(h94:Gs.get e 94=int 0)(hH:sb s H) :
   Ends T 127021 e H (fun X e' H'=>match f.base.any (cornerOut s) with | true=>X = .ret∧Gs.get e' 2 = .bool true | false=>X = .ex 6∧Gs.get e' 1 = .ptr 1 0∧Gs.get e' 3=int s.pit.z0∧Gs.get e' 4=int s.pit.z1∧Gs.get e' 73 = .fz false 4 (s.flaws.map Flaw.enc)∧Gs.get e' 74=int s.flaws.length∧Gs.get e' 75=int i∧H'=[(1,.box s.cells false)]):=by
 refine loop_anyH (T:=T) (key:=127021) (li:=l127021.1) rfl f.base (cornerOut s) (fun k e H=>Gs.get e 1 = .ptr 1 0∧Gs.get e 3=int s.pit.z0∧Gs.get e 4=int s.pit.z1∧Gs.get e 73 = .fz false 4 (s.flaws.map Flaw.enc)∧Gs.get e 74=int s.flaws.length∧Gs.get e 75=int i∧Gs.get e 92=poly f.base∧Gs.get e 93=int f.base.length∧Gs.get e 94=int k∧sb s H) (fun X e' _=>X = .ret∧Gs.get e' 2 = .bool true) (fun X e' H'=>X = .ex 6∧Gs.get e' 1 = .ptr 1 0∧Gs.get e' 3=int s.pit.z0∧Gs.get e' 4=int s.pit.z1∧Gs.get e' 73 = .fz false 4 (s.flaws.map Flaw.enc)∧Gs.get e' 74=int s.flaws.length∧Gs.get e' 75=int i∧H'=[(1,.box s.cells false)]) ?_ ?_ e H ⟨h1,h3,h4,h24,h25,h26,h92,h93,h94,hH⟩
 · rintro k c e H hx hk ⟨h1,h3,h4,h24,h25,h26,h92,h93,h94,hH⟩
   have hx':(f.base.map Pt.enc)[k]?=some c.enc:=by simp [hx]
   simp only [↓eA,eB,seval,l127021,h1,h3,h4,h24,h25,h26,h92,h93,h94,hH,hk,hx',e_within_1,wrap_succ (show k < 4611686018427387904 by omega)]
   cases hc:cornerOut s c<;>simp only [cornerOut] at hc<;>simp only [↓eA,eB,seval,hc]
   · and_intros<;>first | trivial | rfl
   · and_intros<;>first | trivial | rfl
 · rintro e H ⟨h1,h3,h4,h24,h25,h26,h92,h93,h94,hH⟩
   simp only [↓eA,eB,seval,l127021,h1,h3,h4,h24,h25,h26,h92,h93,h94,hH,Nat.lt_irrefl]
   and_intros<;>first | trivial | rfl
theorem lp_o3 (s:Survey)(hF:s.Fit)(e:Env)(H:Heap)(h1:Gs.get e 1 = .ptr 1 0)(h3:Gs.get e 3=int s.pit.z0)(h4:Gs.get e 4=int s.pit.z1)(h24:Gs.get e 73 = .fz false 4 (s.flaws.map Flaw.enc))(h25:Gs.get e 74=int s.flaws.length)(h26:Gs.get e 75=int 0)(hH:sb s H) :
   Ends T 127016 e H (fun X e' H'=>match s.flaws.any (flawOut s) with | true=>X = .ret∧Gs.get e' 2 = .bool true | false=>X = .ex 4):=by
 refine loop_anyH (T:=T) (key:=127016) (li:=l127016.1) rfl s.flaws (flawOut s) (fun i e H=>Gs.get e 1 = .ptr 1 0∧Gs.get e 3=int s.pit.z0∧Gs.get e 4=int s.pit.z1∧Gs.get e 73 = .fz false 4 (s.flaws.map Flaw.enc)∧Gs.get e 74=int s.flaws.length∧Gs.get e 75=int i∧sb s H) (fun X e' _=>X = .ret∧Gs.get e' 2 = .bool true) (fun X e' H'=>X = .ex 4) ?_ ?_ e H ⟨h1,h3,h4,h24,h25,h26,hH⟩
 · rintro i f e H hx hi ⟨h1,h3,h4,h24,h25,h26,hH⟩
   have hb:=hF.fl
   have hfb:=hF.base f (List.mem_of_getElem? hx)
   have hx':(s.flaws.map Flaw.enc)[i]?=some f.enc:=by simp [hx]
   unfold flawOut
   cases hr:(inR s.pit.z0 f.lo s.pit.z1 && inR s.pit.z0 f.hi s.pit.z1) with
   | false=>
     simp only [↓eA,eB,seval,l127016,h1,h3,h4,h24,h25,h26,hH,hi,hx',e_within_2,hr]
     and_intros<;>first | trivial | rfl
   | true=>
     simp only [↓eA,eB,seval,l127016,h1,h3,h4,h24,h25,h26,hH,hi,hx',e_within_2,hr]
     generalize hE:(lim T).loop 127021 _ _=R
     obtain ⟨X,e',H',rfl,hP⟩:=Ends.at hE (lp_o4 s f hfb i _ _ rfl rfl rfl rfl rfl rfl rfl rfl rfl rfl)
     cases hc:f.base.any (cornerOut s) with
     | true=>
       rw [hc] at hP; obtain ⟨rfl,g⟩:=hP
       simp only [↓eA,eB,seval,g]
       and_intros<;>first | trivial | rfl
     | false=>
       rw [hc] at hP; obtain ⟨rfl,g1,g3,g4,g73,g74,g75,rfl⟩:=hP
       simp only [↓eA,eB,seval,g1,g3,g4,g73,g74,g75,wrap_succ (show i < 4611686018427387904 by omega)]
       and_intros<;>first | trivial | rfl
 · rintro e H ⟨h1,h3,h4,h24,h25,h26,hH⟩
   simp only [↓eA,eB,seval,l127016,h1,h3,h4,h24,h25,h26,hH,Nat.lt_irrefl]
   and_intros<;>first | trivial | rfl
theorem e_outside (s:Survey)(hF:s.Fit):L.call 127 [s.enc] []=some (.bool (outB s),[]):=
 call_eq rfl rfl (by
   unfold outB
   simp only [↓eA,eB,seval,c127]
   generalize hE:(lim T).loop 127003 _ _=R
   obtain ⟨X,e',H',rfl,hP⟩:=Ends.at hE (lp_o1 s hF _ _ rfl rfl rfl rfl rfl rfl rfl)
   cases hc:s.beds.any (bedOut s) with
   | true=>rw [hc] at hP; obtain ⟨rfl,g⟩:=hP; simp only [↓eA,eB,seval,g]
   | false=>
     rw [hc] at hP; obtain ⟨rfl,g1,g3,g4,rfl⟩:=hP
     simp only [↓eA,eB,seval,g1,g3,g4]
     generalize hE:(lim T).loop 127009 _ _=R
     obtain ⟨X,e',H',rfl,hP⟩:=Ends.at hE (lp_o2 s hF _ _ (by simp only [↓eA,eB,seval,g1]) (by simp only [↓eA,eB,seval,g3]) (by simp only [↓eA,eB,seval,g4]) (by simp only [↓eA,eB,seval]) (by simp only [↓eA,eB,seval]) (by simp only [↓eA,eB,seval]) rfl)
     cases hc:s.joints.any (jointOut s) with
     | true=>rw [hc] at hP; obtain ⟨rfl,g⟩:=hP; simp only [↓eA,eB,seval,g]
     | false=>
       rw [hc] at hP; obtain ⟨rfl,g1,g3,g4,rfl⟩:=hP
       simp only [↓eA,eB,seval,g1,g3,g4]
       generalize hE:(lim T).loop 127016 _ _=R
       obtain ⟨X,e',H',rfl,hP⟩:=Ends.at hE (lp_o3 s hF _ _ (by simp only [↓eA,eB,seval,g1]) (by simp only [↓eA,eB,seval,g3]) (by simp only [↓eA,eB,seval,g4]) (by simp only [↓eA,eB,seval]) (by simp only [↓eA,eB,seval]) (by simp only [↓eA,eB,seval]) rfl)
       cases hc:s.flaws.any (flawOut s) with
       | true=>rw [hc] at hP; obtain ⟨rfl,g⟩:=hP; simp only [↓eA,eB,seval,g]
       | false=>rw [hc] at hP; subst hP; simp only [↓eA,eB,seval])
end Tz
set_option maxRecDepth 100000
open Gs Go
namespace Tz
abbrev Hp (s:Survey)(acc:List D):Heap:=[(1,.box s.cells false),(1003,.row true 1 acc 0 true)]
abbrev nmSt (s:Survey)(acc:List D)(H:Heap):Prop:=hget H 1=some (.box s.cells false)∧hget H 1003=some (.row true 1 acc 0 true)
theorem lp_pn1 (s:Survey)(hF:s.Fit)(acc:List D)(hacc:acc.length≤4000000000)(e:Env)(H:Heap)(h1:Gs.get e 1 = .ptr 1 0)(h3:Gs.get e 3 = .ow 1003)(ha:Gs.get e 11 = .fz false 2 (s.beds.map Bed.enc))(hn:Gs.get e 12=int s.beds.length)(hi:Gs.get e 13=int 0)(hH:nmSt s acc H) :
   Ends T 118003 e H (fun X e' H'=>X = .ex 0∧Gs.get e' 1 = .ptr 1 0∧Gs.get e' 3 = .ow 1003∧H'=Hp s (acc ++ s.beds.map fun b=>.str b.name)):=by
 have hb:=hF.bl
 refine (loop_fold (T:=T) (key:=118003) (li:=l118003.1) rfl s.beds (fun (a:List D) (b:Bed)=>a ++ [.str b.name]) (fun i a e H=>Gs.get e 1 = .ptr 1 0∧Gs.get e 3 = .ow 1003∧Gs.get e 11 = .fz false 2 (s.beds.map Bed.enc)∧Gs.get e 12=int s.beds.length∧Gs.get e 13=int i∧nmSt s a H∧a.length=acc.length + i) (fun a X e' H'=>X = .ex 0∧Gs.get e' 1 = .ptr 1 0∧Gs.get e' 3 = .ow 1003∧H'=Hp s a) ?_ ?_ acc e H ⟨h1,h3,ha,hn,hi,hH,rfl⟩).mono ?_
 · rintro i b a e H hx hi ⟨h1,h3,ha,hn,h13,⟨hH1,hH3⟩,hl⟩
   have hx':(s.beds.map Bed.enc)[i]?=some (Bed.enc b):=by simp [hx]
   have hfit:fits (a.length + (0 + 1)) 16=true:=fits_of (by omega)
   simp only [↓eA,eB,seval,l118003,h1,h3,ha,hn,h13,hH1,hH3,hi,hx',hfit,wrap_succ (show i < 4611686018427387904 by omega)]
   refine ⟨trivial,trivial,trivial,trivial,trivial,trivial,⟨rfl,rfl⟩,?_⟩
   simp; omega
 · rintro a e H ⟨h1,h3,ha,hn,h13,⟨hH1,hH3⟩,hl⟩
   simp only [↓eA,eB,seval,l118003,h1,h3,ha,hn,h13,hH1,hH3,Nat.lt_irrefl]
   and_intros<;>first | trivial | rfl
 · rintro X e' H' ⟨rfl,g1,g3,rfl⟩
   refine ⟨rfl,g1,g3,?_⟩
   have:∀ (l:List Bed) (a:List D),l.foldl (fun a b=>a ++ [.str b.name]) a=a ++ l.map fun b=>.str b.name:=by
     intro l
     induction l with
     | nil=>intro a; simp
     | cons b r ih=>intro a; simp [ih]
   rw [this]
theorem lp_pn2 (s:Survey)(hF:s.Fit)(acc:List D)(hacc:acc.length≤4000000000)(e:Env)(H:Heap)(h1:Gs.get e 1 = .ptr 1 0)(h3:Gs.get e 3 = .ow 1003)(ha:Gs.get e 24 = .fz false 5 (s.joints.map Joint.enc))(hn:Gs.get e 25=int s.joints.length)(hi:Gs.get e 26=int 0)(hH:nmSt s acc H) :
   Ends T 118008 e H (fun X e' H'=>X = .ex 2∧Gs.get e' 1 = .ptr 1 0∧Gs.get e' 3 = .ow 1003∧H'=Hp s (acc ++ s.joints.map fun b=>.str b.name)):=by
 have hb:=hF.jl
 refine (loop_fold (T:=T) (key:=118008) (li:=l118008.1) rfl s.joints (fun (a:List D) (b:Joint)=>a ++ [.str b.name]) (fun i a e H=>Gs.get e 1 = .ptr 1 0∧Gs.get e 3 = .ow 1003∧Gs.get e 24 = .fz false 5 (s.joints.map Joint.enc)∧Gs.get e 25=int s.joints.length∧Gs.get e 26=int i∧nmSt s a H∧a.length=acc.length + i) (fun a X e' H'=>X = .ex 2∧Gs.get e' 1 = .ptr 1 0∧Gs.get e' 3 = .ow 1003∧H'=Hp s a) ?_ ?_ acc e H ⟨h1,h3,ha,hn,hi,hH,rfl⟩).mono ?_
 · rintro i b a e H hx hi ⟨h1,h3,ha,hn,h13,⟨hH1,hH3⟩,hl⟩
   have hx':(s.joints.map Joint.enc)[i]?=some (Joint.enc b):=by simp [hx]
   have hfit:fits (a.length + (0 + 1)) 16=true:=fits_of (by omega)
   simp only [↓eA,eB,seval,l118008,h1,h3,ha,hn,h13,hH1,hH3,hi,hx',hfit,wrap_succ (show i < 4611686018427387904 by omega)]
   refine ⟨trivial,trivial,trivial,trivial,trivial,trivial,⟨rfl,rfl⟩,?_⟩
   simp; omega
 · rintro a e H ⟨h1,h3,ha,hn,h13,⟨hH1,hH3⟩,hl⟩
   simp only [↓eA,eB,seval,l118008,h1,h3,ha,hn,h13,hH1,hH3,Nat.lt_irrefl]
   and_intros<;>first | trivial | rfl
 · rintro X e' H' ⟨rfl,g1,g3,rfl⟩
   refine ⟨rfl,g1,g3,?_⟩
   have:∀ (l:List Joint) (a:List D),l.foldl (fun a b=>a ++ [.str b.name]) a=a ++ l.map fun b=>.str b.name:=by
     intro l
     induction l with
     | nil=>intro a; simp
     | cons b r ih=>intro a; simp [ih]
   rw [this]
theorem lp_pn3 (s:Survey)(hF:s.Fit)(acc:List D)(hacc:acc.length≤4000000000)(e:Env)(H:Heap)(h3:Gs.get e 3 = .ow 1003)(ha:Gs.get e 37 = .fz false 4 (s.flaws.map Flaw.enc))(hn:Gs.get e 38=int s.flaws.length)(hi:Gs.get e 39=int 0)(hH:hget H 1003=some (.row true 1 acc 0 true)) :
   Ends T 118013 e H (fun X e' H'=>X = .ex 4∧Gs.get e' 3 = .ow 1003∧H'=[(1003,.row true 1 (acc ++ s.flaws.map fun b=>.str b.name) 0 true)]):=by
 have hb:=hF.fl
 refine (loop_fold (T:=T) (key:=118013) (li:=l118013.1) rfl s.flaws (fun (a:List D) (b:Flaw)=>a ++ [.str b.name]) (fun i a e H=>Gs.get e 3 = .ow 1003∧Gs.get e 37 = .fz false 4 (s.flaws.map Flaw.enc)∧Gs.get e 38=int s.flaws.length∧Gs.get e 39=int i∧hget H 1003=some (.row true 1 a 0 true)∧a.length=acc.length + i) (fun a X e' H'=>X = .ex 4∧Gs.get e' 3 = .ow 1003∧H'=[(1003,.row true 1 a 0 true)]) ?_ ?_ acc e H ⟨h3,ha,hn,hi,hH,rfl⟩).mono ?_
 · rintro i b a e H hx hi ⟨h3,ha,hn,h13,hH3,hl⟩
   have hx':(s.flaws.map Flaw.enc)[i]?=some (Flaw.enc b):=by simp [hx]
   have hfit:fits (a.length + (0 + 1)) 16=true:=fits_of (by omega)
   simp only [↓eA,eB,seval,l118013,h3,ha,hn,h13,hH3,hi,hx',hfit,wrap_succ (show i < 4611686018427387904 by omega)]
   refine ⟨trivial,trivial,trivial,trivial,trivial,trivial,?_⟩
   simp; omega
 · rintro a e H ⟨h3,ha,hn,h13,hH3,hl⟩
   simp only [↓eA,eB,seval,l118013,h3,ha,hn,h13,hH3,Nat.lt_irrefl]
   and_intros<;>first | trivial | rfl
 · rintro X e' H' ⟨rfl,g3,rfl⟩
   refine ⟨rfl,g3,?_⟩
   have:∀ (l:List Flaw) (a:List D),l.foldl (fun a b=>a ++ [.str b.name]) a=a ++ l.map fun b=>.str b.name:=by
     intro l
     induction l with
     | nil=>intro a; simp
     | cons b r ih=>intro a; simp [ih]
   rw [this]
theorem names_map (s:Survey):(([] ++ s.beds.map fun b=>D.str b.name) ++ s.joints.map fun b=>D.str b.name) ++ (s.flaws.map fun b=>D.str b.name)=s.names.map .str:=by
 simp [Survey.names,List.map_append,List.append_assoc,Function.comp_def]
theorem e_pNames (s:Survey)(hF:s.Fit):L.call 118 [s.enc] []=some (.ow 600000,[(600000,.row true 1 (s.names.map .str) 0 true)]):=
 call_eq rfl rfl (by
   have hb:=hF.bl; have hj:=hF.jl
   simp only [↓eA,eB,seval,c118]
   generalize hE:(lim T).loop 118003 _ _=R
   obtain ⟨X,e',H',rfl,rfl,g1,g3,rfl⟩:=Ends.at hE (lp_pn1 s hF [] (by simp) _ _ rfl rfl rfl rfl rfl ⟨rfl,rfl⟩)
   simp only [↓eA,eB,seval,g1,g3]
   generalize hE:(lim T).loop 118008 _ _=R
   obtain ⟨X,e',H',rfl,rfl,g1,g3,rfl⟩:=Ends.at hE (lp_pn2 s hF _ (by simp; omega) _ _ (by simp only [↓eA,eB,seval,g1]) (by simp only [↓eA,eB,seval,g3]) (by simp only [↓eA,eB,seval]) (by simp only [↓eA,eB,seval]) (by simp only [↓eA,eB,seval]) ⟨rfl,rfl⟩)
   simp only [↓eA,eB,seval,g1,g3]
   generalize hE:(lim T).loop 118013 _ _=R
   obtain ⟨X,e',H',rfl,rfl,g3,rfl⟩:=Ends.at hE (lp_pn3 s hF _ (by simp; omega) _ _ (by simp only [↓eA,eB,seval,g3]) (by simp only [↓eA,eB,seval]) (by simp only [↓eA,eB,seval]) (by simp only [↓eA,eB,seval]) rfl)
   simp only [↓eA,eB,seval,g3]
   rw [←names_map]
   simp only [List.nil_append])
end Tz
