/- Polygons of the program; What lies outside; All names; Neighbours struck; Disorder; no conditions. -/
import Derived.Test.YtbdcbppmgbekoaaGreatS1toS6
import Derived.Test.YtbdcbppmgbekoaaGreatGsF
set_option linter.all false
set_option maxRecDepth 100000
open Gs Go
namespace Tz
def okc (n:Int):Bool:=decide (-1000000≤n) && decide (n≤1000000)
theorem e_near (n:Int):L.call 147 [int n] []=some (.bool (okc n),[]):=call_eq rfl rfl (by simp only [↓eA,eB,seval,c147]; rfl)
theorem ok_okc (a:Pt):(!a.ok)=(!okc a.x || !okc a.y):=by
 simp only [Pt.ok,okc]
 cases decide (-1000000≤a.x)<;>cases decide (a.x≤1000000)<;>cases decide (-1000000≤a.y)<;>cases decide (a.y≤1000000)<;>rfl
theorem lp_allowed (nz:Bool)(p:List Pt)(hb:p.length < 1000000000)(e:Env)(h3:Gs.get e 3 = .fn 147 [])(h6:Gs.get e 6 = .fz nz 2 (p.map Pt.enc))(h7:Gs.get e 7=int p.length)(h8:Gs.get e 8=int 0) :
   Ends T 122003 e [] (fun X e' H'=>match anyOut p with | true=>X = .ret∧Gs.get e' 2 = .bool false | false=>X = .ex 0):=by
 refine loop_anyH (T:=T) (key:=122003) (li:=l122003.1) rfl p (fun a=>!a.ok) (fun i e H=>Gs.get e 3 = .fn 147 []∧Gs.get e 6 = .fz nz 2 (p.map Pt.enc)∧Gs.get e 7=int p.length∧Gs.get e 8=int i) (fun X e' _=>X = .ret∧Gs.get e' 2 = .bool false) (fun X e' _=>X = .ex 0) ?_ ?_ e [] ⟨h3,h6,h7,h8⟩
 · rintro i a e H hx hi ⟨h3,h6,h7,h8⟩
   have hx':(p.map Pt.enc)[i]?=some a.enc:=by simp [hx]
   simp only [↓eA,eB,seval,l122003,h3,h6,h7,h8,hi,hx',e_near,wrap_succ (show i < 4611686018427387904 by omega)]
   cases ha:(!a.ok)<;>rw [ok_okc] at ha<;>simp only [↓eA,eB,seval,ha]
   · exact ⟨trivial,trivial,trivial,trivial,trivial⟩
   · exact ⟨trivial,trivial,trivial⟩
 · rintro e H ⟨h3,h6,h7,h8⟩
   simp only [↓eA,eB,seval,l122003,h3,h6,h7,h8,Nat.lt_irrefl]
   exact ⟨trivial,trivial⟩
theorem e_allowedL (nz:Bool)(p:List Pt)(hb:p.length < 1000000000):L.call 122 [.fz nz 2 (p.map Pt.enc)] []=some (.bool (!anyOut p),[]):=
 call_eq rfl rfl (by
   simp only [↓eA,eB,seval,c122]
   generalize hE:(lim T).loop 122003 _ _=R
   obtain ⟨X,e',H',rfl,hP⟩:=Ends.at hE (lp_allowed nz p hb _ rfl rfl rfl rfl)
   cases hc:anyOut p with
   | true=>rw [hc] at hP; obtain ⟨rfl,g⟩:=hP; simp only [↓eA,eB,seval,g]
   | false=>rw [hc] at hP; subst hP; simp only [↓eA,eB,seval])
def dupFrom (b:Pt):List Pt→Bool
 | []=>false
 | q :: r=>eqPt q b || dupFrom q r
theorem eqPt_iff {a b:Pt} : eqPt a b=true↔a=b:=by
 cases a; cases b
 simp [eqPt]
theorem dupFrom_iff:∀ (l:List Pt) (b:Pt),dupFrom b l=true↔∃ i,i < l.length∧pt l i=(if i=0 then b else pt l (i - 1))
 | [],b=>by simp [dupFrom]
 | q :: r,b=>by
   simp only [dupFrom,Bool.or_eq_true,eqPt_iff,dupFrom_iff r q]
   constructor
   · rintro (h | ⟨i,hi,h⟩)
     · exact ⟨0,by simp,by simpa [pt] using h⟩
     · refine ⟨i + 1,by simpa using hi,?_⟩
       rw [if_neg (by omega)]
       cases i with
       | zero=>simpa [pt] using h
       | succ i=>rw [if_neg (by omega)] at h; simpa [pt] using h
   · rintro ⟨i,hi,h⟩
     cases i with
     | zero=>left; simpa [pt] using h
     | succ i=>
       right
       refine ⟨i,by simpa using hi,?_⟩
       rw [if_neg (by omega)] at h
       cases i with
       | zero=>simpa [pt] using h
       | succ i=>rw [if_neg (by omega)]; simpa [pt] using h
theorem dup_dupFrom {p:List Pt}(hp:0 < p.length):dupFrom (pt p (p.length - 1)) p=dup p:=by
 rw [Bool.eq_iff_iff,dupFrom_iff]
 simp only [dup,List.any_eq_true,List.mem_range,eqPt_iff,nx]
 constructor
 · rintro ⟨i,hi,h⟩
   by_cases h0:i=0
   · subst h0
     refine ⟨p.length - 1,by omega,?_⟩
     rw [if_pos rfl] at h
     rw [show p.length - 1 + 1=p.length by omega,Nat.mod_self,h]
   · rw [if_neg h0] at h
     refine ⟨i - 1,by omega,?_⟩
     rw [show i - 1 + 1=i by omega,Nat.mod_eq_of_lt hi,h]
 · rintro ⟨i,hi,h⟩
   by_cases h1:i + 1=p.length
   · rw [h1,Nat.mod_self] at h
     refine ⟨0,hp,?_⟩
     rw [if_pos rfl,show p.length - 1=i by omega,h]
   · rw [Nat.mod_eq_of_lt (by omega)] at h
     exact ⟨i + 1,by omega,by rw [if_neg (by omega)]; simpa using h.symm⟩
theorem thru_dup:∀ (l:List Pt) (b:Pt),thru (R:=Unit) (fun (b q:Pt)=>bif eqPt q b then .inl () else .inr q) l b=(match dupFrom b l with | true=>.inl () | false=>.inr ((l.getLast?).getD b))
 | [],b=>rfl
 | q :: r,b=>by
   simp only [thru,dupFrom]
   cases eqPt q b with
   | true=>rfl
   | false=>
     simp only [cond_false,Bool.false_or,thru_dup r q]
     cases dupFrom q r with
     | true=>rfl
     | false=>
       cases r with
       | nil=>rfl
       | cons x r=>simp [List.getLast?_cons]
theorem lp_dup (p:List Pt)(b:Pt)(hb:p.length < 1000000000)(e:Env)(H:Heap)(h5:Gs.get e 5 = .ptr 5 0)(h31:Gs.get e 31=poly p)(h32:Gs.get e 32=int p.length)(h33:Gs.get e 33=int 0)(hH:hget H 5=some (.box [int b.x,int b.y] false)) :
   Ends T 85009 e H (fun X e' H'=>match dupFrom b p with | true=>X = .ret∧Gs.get e' 4=int 5 | false=>X = .ex 1):=by
 refine (loop_thru (T:=T) (key:=85009) (li:=l85009.1) rfl (R:=Unit) (fun (b q:Pt)=>bif eqPt q b then .inl () else .inr q) p (fun i b e H=>Gs.get e 5 = .ptr 5 0∧Gs.get e 31=poly p∧Gs.get e 32=int p.length∧Gs.get e 33=int i∧hget H 5=some (.box [int b.x,int b.y] false)) (fun _ X e' H'=>X = .ret∧Gs.get e' 4=int 5) (fun _ X e' H'=>X = .ex 1) ?_ ?_ ?_ p [] b e H rfl ⟨h5,h31,h32,h33,hH⟩).mono ?_
 · rintro i q b b' e H hx ⟨h5,h31,h32,h33,hH⟩ hf
   have hi:i < p.length:=(List.getElem?_eq_some_iff.1 hx).1
   have hq:eqPt q b=false:=by cases h:eqPt q b<;>simp_all
   have hb':b'=q:=by simp [hq] at hf; exact hf.symm
   subst hb'
   simp only [eqPt] at hq
   have hx':(p.map Pt.enc)[i]?=some b'.enc:=by simp [hx]
   simp only [↓eA,eB,seval,l85009,h5,h31,h32,h33,hH,hi,hx',hq,wrap_succ (show i < 4611686018427387904 by omega)]
   exact ⟨trivial,trivial,trivial,trivial,trivial,trivial⟩
 · rintro i q b r e H hx ⟨h5,h31,h32,h33,hH⟩ hf
   have hi:i < p.length:=(List.getElem?_eq_some_iff.1 hx).1
   have hq:eqPt q b=true:=by cases h:eqPt q b<;>simp_all
   simp only [eqPt] at hq
   have hx':(p.map Pt.enc)[i]?=some q.enc:=by simp [hx]
   simp only [↓eA,eB,seval,l85009,h5,h31,h32,h33,hH,hi,hx',hq]
   exact ⟨trivial,trivial,trivial⟩
 · rintro b e H ⟨h5,h31,h32,h33,hH⟩
   simp only [↓eA,eB,seval,l85009,h5,h31,h32,h33,hH,Nat.lt_irrefl]
   exact ⟨trivial,trivial⟩
 · intro X e' H' h
   rw [thru_dup] at h
   cases hc:dupFrom b p with
   | true=>rw [hc] at h; exact h
   | false=>rw [hc] at h; exact h
theorem wrap_pred {n:Nat}(h:0 < n)(h':n < 4611686018427387904):IntKind.i64.wrap ((n:Int) - 1)=((n - 1:Nat):Int):=by
 rw [IntKind.wrap_i64]; omega
theorem e_check (p:List Pt)(hb:p.length < 1000000000):L.call 85 [poly p,.fz true 2 []] []=some (int (polyErr p),[]):=
 call_eq rfl rfl (by
   have e2:=e_allowedL true [] (by simp)
   have e2':L.call 122 [.fz true 2 []] []=some (.bool true,[]):=e2
   unfold polyErr
   by_cases h1:64 < p.length
   · have h1':(64:Int) < p.length:=by omega
     simp only [↓eA,eB,seval,c85,h1,h1']
   · have h1':¬ (64:Int) < p.length:=by omega
     by_cases h2:p.length < 3
     · have h2':(p.length:Int) < 3:=by omega
       simp only [↓eA,eB,seval,c85,h1,h1',h2,h2']
     · have h2':¬ (p.length:Int) < 3:=by omega
       cases hc:anyOut p with
       | true=>simp only [↓eA,eB,seval,c85,h1,h1',h2,h2',e_allowedL false p hb,e2',hc]
       | false=>
         have hl:p.length - 1 < p.length:=by omega
         simp only [↓eA,eB,seval,c85,h1,h1',h2,h2',e_allowedL false p hb,e2',hc,wrap_pred (show 0 < p.length by omega) (show p.length < 4611686018427387904 by omega),hl,get_pt hl]
         generalize hE:(lim T).loop 85009 _ _=R
         obtain ⟨X,e',H',rfl,hP⟩:=Ends.at hE (lp_dup p (pt p (p.length - 1)) hb _ _ rfl rfl rfl rfl rfl)
         rw [dup_dupFrom (by omega)] at hP
         cases hd:dup p with
         | true=>rw [hd] at hP; obtain ⟨rfl,g⟩:=hP; simp only [↓eA,eB,seval,g]
         | false=>rw [hd] at hP; subst hP; simp only [↓eA,eB,seval])
theorem e_polyCheck (p:List Pt)(hb:p.length < 1000000000):L.call 57 [poly p] []=some (int (polyErr p),[]):=
 call_eq rfl rfl (by simp only [↓eA,eB,seval,c57,e_check p hb])
theorem polyErr_in {p:List Pt}(h:polyErr p=0):AllIn p:=by
 unfold polyErr at h
 split at h<;>try (cases h; done)
 split at h<;>try (cases h; done)
 cases hc:anyOut p with
 | true=>rw [hc] at h; simp at h
 | false=>exact anyOut_in hc
theorem e_convex (p:List Pt)(hb:p.length < 1000000000)(h0:polyErr p=0):L.call 58 [poly p] []=some (.tup [.bool (convex p),int 0],[]):=
 call_eq rfl rfl (by
   have ha:=polyErr_in h0
   simp only [↓eA,eB,seval,c58,e_check p hb,h0]
   generalize hE:(lim T).loop 58005 _ _=R
   obtain ⟨X,e',H',rfl,rfl,hP⟩:=Ends.at hE (loop_rng (T:=T) (key:=58005) (li:=l58005.1) rfl p.length (fun i=>!decide (ori (pt p i) (pt p (nx p i)) (pt p (nx p (nx p i)))=1)) [] (fun i e=>Gs.get e 0=poly p∧Gs.get e 12=int p.length∧Gs.get e 13=int i) (fun X e'=>X = .ret∧Gs.get e' 2 = .bool false∧Gs.get e' 3=int 0) (fun X e'=>X = .ex 0∧Gs.get e' 0=poly p) (fun i e hi ⟨h0,h12,h13⟩=>by
     have hp:0 < p.length:=by omega
     have n1:nx p i < p.length:=nx_lt hp
     have n2:nx p (nx p i) < p.length:=nx_lt hp
     have e1:=e_end hp (show i < 4611686018427387904 by omega) (p:=p)
     have e2:=e_end hp (show nx p i < 4611686018427387904 by omega) (p:=p)
     have e3:=e_orient (tri (ha.pt hi) (ha.pt n1) (ha.pt n2))
     have hnx:(i + 1) % p.length=nx p i:=rfl
     simp only [↓eA,eB,seval,l58005,h0,h12,h13,hi,n1,n2,wrap_succ (show i < 4611686018427387904 by omega),dz hp,tmod_nat,hnx,get_pt hi,e1,e2,e3]
     cases hb:decide (ori (pt p i) (pt p (nx p i)) (pt p (nx p (nx p i)))=1)<;>simp only [↓eA,eB,seval,hb]
     · exact ⟨trivial,trivial,trivial,trivial,trivial⟩
     · exact ⟨trivial,trivial,trivial,trivial,trivial⟩) (fun e ⟨h0,h12,h13⟩=>by
     simp only [↓eA,eB,seval,l58005,h0,h12,h13,Nat.lt_irrefl]
     exact ⟨trivial,trivial,trivial,trivial⟩) _ ⟨rfl,rfl,rfl⟩)
   unfold convex
   change match turns p with | true=>_ | false=>_ at hP
   cases hc:turns p with
   | true=>rw [hc] at hP; obtain ⟨rfl,h2,h3⟩:=hP; simp only [↓eA,eB,seval,h2,h3]
   | false=>rw [hc] at hP; obtain ⟨rfl,h2⟩:=hP; simp only [↓eA,eB,seval,h2,e_simple p hb ha hc])
end Tz
set_option maxRecDepth 100000
open Gs Go
namespace Tz
theorem e_within1 (lo hi x:Int):L.call 126 [int x,.fp [int lo] 0,.fp [int hi] 0] []=some (.bool (decide (x < lo) || decide (hi < x)),[]):=
 call_eq rfl rfl (by simp only [↓eA,eB,seval,c126])
def wOut (lo hi:Int)(xs:List Int):Bool:=xs.any fun x=>decide (x < lo) || decide (hi < x)
theorem e_within (lo hi:Int)(xs:List Int)(hb:xs.length < 1000000000):L.call 89 [int lo,int hi,.fz false 1 (xs.map int)] []=some (.bool (!wOut lo hi xs),[]):=
 call_eq rfl rfl (by
   have e:=e_con_int (fun x=>decide (x < lo) || decide (hi < x)) 126 [.fp [int lo] 0,.fp [int hi] 0] false xs hb rfl (fun x _=>e_within1 lo hi x)
   simp only [↓eA,eB,seval,c89,e]
   rfl)
def inR (lo n hi:Int):Bool:=decide (lo≤n) && decide (n≤hi)
theorem inR_or (lo n hi:Int):(decide (n < lo) || decide (hi < n)) = !inR lo n hi:=by
 unfold inR
 rw [Bool.eq_iff_iff]
 simp only [Bool.or_eq_true,decide_eq_true_eq,Bool.not_eq_true',Bool.and_eq_false_iff,decide_eq_false_iff_not]
 omega
theorem e_within_1 (lo hi a:Int):L.call 89 [int lo,int hi,.fz false 1 [int a]] []=some (.bool (inR lo a hi),[]):=by
 have:=e_within lo hi [a] (by simp)
 simpa only [wOut,List.map_cons,List.map_nil,List.any_cons,List.any_nil,Bool.or_false,inR_or,Bool.not_not] using this
theorem e_within_2 (lo hi a b:Int):L.call 89 [int lo,int hi,.fz false 1 [int a,int b]] []=some (.bool (inR lo a hi && inR lo b hi),[]):=by
 have:=e_within lo hi [a,b] (by simp)
 simpa only [wOut,List.map_cons,List.map_nil,List.any_cons,List.any_nil,Bool.or_false,inR_or,Bool.not_or,Bool.not_not] using this
theorem e_ends0 (b:Box):L.call 40 [b.enc,int 0] []=some (.tup [int b.x0,int b.x1],[]):=call_eq rfl rfl (by simp only [↓eA,eB,seval,c40])
theorem e_ends1 (b:Box)(a:Int)(h:a≠0):L.call 40 [b.enc,int a] []=some (.tup [int b.y0,int b.y1],[]):=call_eq rfl rfl (by simp only [↓eA,eB,seval,c40,h,decide_eq_false h])
def Box.lo (b:Box)(a:Int):Int:=if a=0 then b.x0 else b.y0
def Box.hi (b:Box)(a:Int):Int:=if a=0 then b.x1 else b.y1
theorem e_ends (b:Box)(a:Int):L.call 40 [b.enc,int a] []=some (.tup [int (b.lo a),int (b.hi a)],[]):=by
 unfold Box.lo Box.hi
 by_cases h:a=0
 · subst h; exact e_ends0 b
 · rw [if_neg h,if_neg h]; exact e_ends1 b a h
def Survey.names (s:Survey):List ByteArray:=s.beds.map (·.name) ++ (s.joints.map (·.name) ++ s.flaws.map (·.name))
structure Survey.Fit0 (s:Survey):Prop where
 bl:s.beds.length < 1000000000
 jl:s.joints.length < 1000000000
 fl:s.flaws.length < 1000000000
structure Survey.Fit (s:Survey):Prop extends Survey.Fit0 s where
 base:∀ f∈s.flaws,f.base.length < 1000000000
 nm:∀ n∈s.names,n.size < 1000000000
def bedOut (s:Survey)(b:Bed):Bool:=!inR s.pit.z0 b.z s.pit.z1
def cornerOut (s:Survey)(c:Pt):Bool:=!inR s.pit.x0 c.x s.pit.x1 || !inR s.pit.y0 c.y s.pit.y1
def jointOut (s:Survey)(j:Joint):Bool:=!inR (s.pit.lo j.axis) j.at_ (s.pit.hi j.axis) || !(inR s.pit.z0 j.lo s.pit.z1 && inR s.pit.z0 j.hi s.pit.z1)
def flawOut (s:Survey)(f:Flaw):Bool:=!(inR s.pit.z0 f.lo s.pit.z1 && inR s.pit.z0 f.hi s.pit.z1) || f.base.any (cornerOut s)
def outB (s:Survey):Bool:=s.beds.any (bedOut s) || (s.joints.any (jointOut s) || s.flaws.any (flawOut s))
abbrev sb (s:Survey)(H:Heap):Prop:=hget H 1=some (.box s.cells false)
theorem lp_o1 (s:Survey)(hF:s.Fit)(e:Env)(H:Heap)(h1:Gs.get e 1 = .ptr 1 0)(h3:Gs.get e 3=int s.pit.z0)(h4:Gs.get e 4=int s.pit.z1)(h24:Gs.get e 24 = .fz false 2 (s.beds.map Bed.enc))(h25:Gs.get e 25=int s.beds.length)(h26:Gs.get e 26=int 0)(hH:sb s H) :
   Ends T 59003 e H (fun X e' H'=>match s.beds.any (bedOut s) with | true=>X = .ret∧Gs.get e' 2 = .bool true | false=>X = .ex 0∧Gs.get e' 1 = .ptr 1 0∧Gs.get e' 3=int s.pit.z0∧Gs.get e' 4=int s.pit.z1∧H'=[(1,.box s.cells false)]):=by
 refine loop_anyH (T:=T) (key:=59003) (li:=l59003.1) rfl s.beds (bedOut s) (fun i e H=>Gs.get e 1 = .ptr 1 0∧Gs.get e 3=int s.pit.z0∧Gs.get e 4=int s.pit.z1∧Gs.get e 24 = .fz false 2 (s.beds.map Bed.enc)∧Gs.get e 25=int s.beds.length∧Gs.get e 26=int i∧sb s H) (fun X e' _=>X = .ret∧Gs.get e' 2 = .bool true) (fun X e' H'=>X = .ex 0∧Gs.get e' 1 = .ptr 1 0∧Gs.get e' 3=int s.pit.z0∧Gs.get e' 4=int s.pit.z1∧H'=[(1,.box s.cells false)]) ?_ ?_ e H ⟨h1,h3,h4,h24,h25,h26,hH⟩
 · rintro i b e H hx hi ⟨h1,h3,h4,h24,h25,h26,hH⟩
   have hb:=hF.bl
   have hx':(s.beds.map Bed.enc)[i]?=some b.enc:=by simp [hx]
   simp only [↓eA,eB,seval,l59003,h1,h3,h4,h24,h25,h26,hH,hi,hx',e_within_1,wrap_succ (show i < 4611686018427387904 by omega)]
   cases hc:bedOut s b<;>simp only [bedOut,Bool.not_eq_true',Bool.not_eq_false'] at hc<;>simp only [↓eA,eB,seval,hc]
   · and_intros<;>first | trivial | rfl
   · and_intros<;>first | trivial | rfl
 · rintro e H ⟨h1,h3,h4,h24,h25,h26,hH⟩
   simp only [↓eA,eB,seval,l59003,h1,h3,h4,h24,h25,h26,hH,Nat.lt_irrefl]
   and_intros<;>first | trivial | rfl
theorem lp_o2 (s:Survey)(hF:s.Fit)(e:Env)(H:Heap)(h1:Gs.get e 1 = .ptr 1 0)(h3:Gs.get e 3=int s.pit.z0)(h4:Gs.get e 4=int s.pit.z1)(h24:Gs.get e 39 = .fz false 5 (s.joints.map Joint.enc))(h25:Gs.get e 40=int s.joints.length)(h26:Gs.get e 41=int 0)(hH:sb s H) :
   Ends T 59009 e H (fun X e' H'=>match s.joints.any (jointOut s) with | true=>X = .ret∧Gs.get e' 2 = .bool true | false=>X = .ex 2∧Gs.get e' 1 = .ptr 1 0∧Gs.get e' 3=int s.pit.z0∧Gs.get e' 4=int s.pit.z1∧H'=[(1,.box s.cells false)]):=by
 refine loop_anyH (T:=T) (key:=59009) (li:=l59009.1) rfl s.joints (jointOut s) (fun i e H=>Gs.get e 1 = .ptr 1 0∧Gs.get e 3=int s.pit.z0∧Gs.get e 4=int s.pit.z1∧Gs.get e 39 = .fz false 5 (s.joints.map Joint.enc)∧Gs.get e 40=int s.joints.length∧Gs.get e 41=int i∧sb s H) (fun X e' _=>X = .ret∧Gs.get e' 2 = .bool true) (fun X e' H'=>X = .ex 2∧Gs.get e' 1 = .ptr 1 0∧Gs.get e' 3=int s.pit.z0∧Gs.get e' 4=int s.pit.z1∧H'=[(1,.box s.cells false)]) ?_ ?_ e H ⟨h1,h3,h4,h24,h25,h26,hH⟩
 · rintro i b e H hx hi ⟨h1,h3,h4,h24,h25,h26,hH⟩
   have hb:=hF.jl
   have hx':(s.joints.map Joint.enc)[i]?=some b.enc:=by simp [hx]
   simp only [↓eA,eB,seval,l59009,h1,h3,h4,h24,h25,h26,hH,hi,hx',e_within_1,e_within_2,e_ends s.pit b.axis,wrap_succ (show i < 4611686018427387904 by omega)]
   cases hc:jointOut s b<;>simp only [jointOut] at hc<;>simp only [↓eA,eB,seval,hc]
   · and_intros<;>first | trivial | rfl
   · and_intros<;>first | trivial | rfl
 · rintro e H ⟨h1,h3,h4,h24,h25,h26,hH⟩
   simp only [↓eA,eB,seval,l59009,h1,h3,h4,h24,h25,h26,hH,Nat.lt_irrefl]
   and_intros<;>first | trivial | rfl
theorem lp_o4 (s:Survey)(f:Flaw)(hb:f.base.length < 1000000000)(i:Nat)(e:Env)(H:Heap)(h1:Gs.get e 1 = .ptr 1 0)(h3:Gs.get e 3=int s.pit.z0)(h4:Gs.get e 4=int s.pit.z1)(h24:Gs.get e 73 = .fz false 4 (s.flaws.map Flaw.enc))(h25:Gs.get e 74=int s.flaws.length)(h26:Gs.get e 75=int i)(h92:Gs.get e 92=poly f.base)(h93:Gs.get e 93=int f.base.length)(h94:Gs.get e 94=int 0)(hH:sb s H) :
   Ends T 59021 e H (fun X e' H'=>match f.base.any (cornerOut s) with | true=>X = .ret∧Gs.get e' 2 = .bool true | false=>X = .ex 6∧Gs.get e' 1 = .ptr 1 0∧Gs.get e' 3=int s.pit.z0∧Gs.get e' 4=int s.pit.z1∧Gs.get e' 73 = .fz false 4 (s.flaws.map Flaw.enc)∧Gs.get e' 74=int s.flaws.length∧Gs.get e' 75=int i∧H'=[(1,.box s.cells false)]):=by
 refine loop_anyH (T:=T) (key:=59021) (li:=l59021.1) rfl f.base (cornerOut s) (fun k e H=>Gs.get e 1 = .ptr 1 0∧Gs.get e 3=int s.pit.z0∧Gs.get e 4=int s.pit.z1∧Gs.get e 73 = .fz false 4 (s.flaws.map Flaw.enc)∧Gs.get e 74=int s.flaws.length∧Gs.get e 75=int i∧Gs.get e 92=poly f.base∧Gs.get e 93=int f.base.length∧Gs.get e 94=int k∧sb s H) (fun X e' _=>X = .ret∧Gs.get e' 2 = .bool true) (fun X e' H'=>X = .ex 6∧Gs.get e' 1 = .ptr 1 0∧Gs.get e' 3=int s.pit.z0∧Gs.get e' 4=int s.pit.z1∧Gs.get e' 73 = .fz false 4 (s.flaws.map Flaw.enc)∧Gs.get e' 74=int s.flaws.length∧Gs.get e' 75=int i∧H'=[(1,.box s.cells false)]) ?_ ?_ e H ⟨h1,h3,h4,h24,h25,h26,h92,h93,h94,hH⟩
 · rintro k c e H hx hk ⟨h1,h3,h4,h24,h25,h26,h92,h93,h94,hH⟩
   have hx':(f.base.map Pt.enc)[k]?=some c.enc:=by simp [hx]
   simp only [↓eA,eB,seval,l59021,h1,h3,h4,h24,h25,h26,h92,h93,h94,hH,hk,hx',e_within_1,wrap_succ (show k < 4611686018427387904 by omega)]
   cases hc:cornerOut s c<;>simp only [cornerOut] at hc<;>simp only [↓eA,eB,seval,hc]
   · and_intros<;>first | trivial | rfl
   · and_intros<;>first | trivial | rfl
 · rintro e H ⟨h1,h3,h4,h24,h25,h26,h92,h93,h94,hH⟩
   simp only [↓eA,eB,seval,l59021,h1,h3,h4,h24,h25,h26,h92,h93,h94,hH,Nat.lt_irrefl]
   and_intros<;>first | trivial | rfl
theorem lp_o3 (s:Survey)(hF:s.Fit)(e:Env)(H:Heap)(h1:Gs.get e 1 = .ptr 1 0)(h3:Gs.get e 3=int s.pit.z0)(h4:Gs.get e 4=int s.pit.z1)(h24:Gs.get e 73 = .fz false 4 (s.flaws.map Flaw.enc))(h25:Gs.get e 74=int s.flaws.length)(h26:Gs.get e 75=int 0)(hH:sb s H) :
   Ends T 59016 e H (fun X e' H'=>match s.flaws.any (flawOut s) with | true=>X = .ret∧Gs.get e' 2 = .bool true | false=>X = .ex 4):=by
 refine loop_anyH (T:=T) (key:=59016) (li:=l59016.1) rfl s.flaws (flawOut s) (fun i e H=>Gs.get e 1 = .ptr 1 0∧Gs.get e 3=int s.pit.z0∧Gs.get e 4=int s.pit.z1∧Gs.get e 73 = .fz false 4 (s.flaws.map Flaw.enc)∧Gs.get e 74=int s.flaws.length∧Gs.get e 75=int i∧sb s H) (fun X e' _=>X = .ret∧Gs.get e' 2 = .bool true) (fun X e' H'=>X = .ex 4) ?_ ?_ e H ⟨h1,h3,h4,h24,h25,h26,hH⟩
 · rintro i f e H hx hi ⟨h1,h3,h4,h24,h25,h26,hH⟩
   have hb:=hF.fl
   have hfb:=hF.base f (List.mem_of_getElem? hx)
   have hx':(s.flaws.map Flaw.enc)[i]?=some f.enc:=by simp [hx]
   unfold flawOut
   cases hr:(inR s.pit.z0 f.lo s.pit.z1 && inR s.pit.z0 f.hi s.pit.z1) with
   | false=>
     simp only [↓eA,eB,seval,l59016,h1,h3,h4,h24,h25,h26,hH,hi,hx',e_within_2,hr]
     and_intros<;>first | trivial | rfl
   | true=>
     simp only [↓eA,eB,seval,l59016,h1,h3,h4,h24,h25,h26,hH,hi,hx',e_within_2,hr]
     generalize hE:(lim T).loop 59021 _ _=R
     obtain ⟨X,e',H',rfl,hP⟩:=Ends.at hE (lp_o4 s f hfb i _ _ rfl rfl rfl rfl rfl rfl rfl rfl rfl rfl)
     cases hc:f.base.any (cornerOut s) with
     | true=>
       rw [hc] at hP; obtain ⟨rfl,g⟩:=hP
       simp only [↓eA,eB,seval,g]
       and_intros<;>first | trivial | rfl
     | false=>
       rw [hc] at hP; obtain ⟨rfl,g1,g3,g4,g73,g74,g75,rfl⟩:=hP
       simp only [↓eA,eB,seval,g1,g3,g4,g73,g74,g75,wrap_succ (show i < 4611686018427387904 by omega)]
       and_intros<;>first | trivial | rfl
 · rintro e H ⟨h1,h3,h4,h24,h25,h26,hH⟩
   simp only [↓eA,eB,seval,l59016,h1,h3,h4,h24,h25,h26,hH,Nat.lt_irrefl]
   and_intros<;>first | trivial | rfl
theorem e_outside (s:Survey)(hF:s.Fit):L.call 59 [s.enc] []=some (.bool (outB s),[]):=
 call_eq rfl rfl (by
   unfold outB
   simp only [↓eA,eB,seval,c59]
   generalize hE:(lim T).loop 59003 _ _=R
   obtain ⟨X,e',H',rfl,hP⟩:=Ends.at hE (lp_o1 s hF _ _ rfl rfl rfl rfl rfl rfl rfl)
   cases hc:s.beds.any (bedOut s) with
   | true=>rw [hc] at hP; obtain ⟨rfl,g⟩:=hP; simp only [↓eA,eB,seval,g]
   | false=>
     rw [hc] at hP; obtain ⟨rfl,g1,g3,g4,rfl⟩:=hP
     simp only [↓eA,eB,seval,g1,g3,g4]
     generalize hE:(lim T).loop 59009 _ _=R
     obtain ⟨X,e',H',rfl,hP⟩:=Ends.at hE (lp_o2 s hF _ _ (by simp only [↓eA,eB,seval,g1]) (by simp only [↓eA,eB,seval,g3]) (by simp only [↓eA,eB,seval,g4]) (by simp only [↓eA,eB,seval]) (by simp only [↓eA,eB,seval]) (by simp only [↓eA,eB,seval]) rfl)
     cases hc:s.joints.any (jointOut s) with
     | true=>rw [hc] at hP; obtain ⟨rfl,g⟩:=hP; simp only [↓eA,eB,seval,g]
     | false=>
       rw [hc] at hP; obtain ⟨rfl,g1,g3,g4,rfl⟩:=hP
       simp only [↓eA,eB,seval,g1,g3,g4]
       generalize hE:(lim T).loop 59016 _ _=R
       obtain ⟨X,e',H',rfl,hP⟩:=Ends.at hE (lp_o3 s hF _ _ (by simp only [↓eA,eB,seval,g1]) (by simp only [↓eA,eB,seval,g3]) (by simp only [↓eA,eB,seval,g4]) (by simp only [↓eA,eB,seval]) (by simp only [↓eA,eB,seval]) (by simp only [↓eA,eB,seval]) rfl)
       cases hc:s.flaws.any (flawOut s) with
       | true=>rw [hc] at hP; obtain ⟨rfl,g⟩:=hP; simp only [↓eA,eB,seval,g]
       | false=>rw [hc] at hP; subst hP; simp only [↓eA,eB,seval])
end Tz
set_option maxRecDepth 100000
open Gs Go
namespace Tz
abbrev Hp (s:Survey)(acc:List D):Heap:=[(1,.box s.cells false),(1003,.row true 1 acc 0 true)]
abbrev nmSt (s:Survey)(acc:List D)(H:Heap):Prop:=hget H 1=some (.box s.cells false)∧hget H 1003=some (.row true 1 acc 0 true)
theorem lp_pn1 (s:Survey)(hF:s.Fit)(acc:List D)(hacc:acc.length≤4000000000)(e:Env)(H:Heap)(h1:Gs.get e 1 = .ptr 1 0)(h3:Gs.get e 3 = .ow 1003)(ha:Gs.get e 11 = .fz false 2 (s.beds.map Bed.enc))(hn:Gs.get e 12=int s.beds.length)(hi:Gs.get e 13=int 0)(hH:nmSt s acc H) :
   Ends T 50003 e H (fun X e' H'=>X = .ex 0∧Gs.get e' 1 = .ptr 1 0∧Gs.get e' 3 = .ow 1003∧H'=Hp s (acc ++ s.beds.map fun b=>.str b.name)):=by
 have hb:=hF.bl
 refine (loop_fold (T:=T) (key:=50003) (li:=l50003.1) rfl s.beds (fun (a:List D) (b:Bed)=>a ++ [.str b.name]) (fun i a e H=>Gs.get e 1 = .ptr 1 0∧Gs.get e 3 = .ow 1003∧Gs.get e 11 = .fz false 2 (s.beds.map Bed.enc)∧Gs.get e 12=int s.beds.length∧Gs.get e 13=int i∧nmSt s a H∧a.length=acc.length + i) (fun a X e' H'=>X = .ex 0∧Gs.get e' 1 = .ptr 1 0∧Gs.get e' 3 = .ow 1003∧H'=Hp s a) ?_ ?_ acc e H ⟨h1,h3,ha,hn,hi,hH,rfl⟩).mono ?_
 · rintro i b a e H hx hi ⟨h1,h3,ha,hn,h13,⟨hH1,hH3⟩,hl⟩
   have hx':(s.beds.map Bed.enc)[i]?=some (Bed.enc b):=by simp [hx]
   have hfit:fits (a.length + (0 + 1)) 16=true:=fits_of (by omega)
   simp only [↓eA,eB,seval,l50003,h1,h3,ha,hn,h13,hH1,hH3,hi,hx',hfit,wrap_succ (show i < 4611686018427387904 by omega)]
   refine ⟨trivial,trivial,trivial,trivial,trivial,trivial,⟨rfl,rfl⟩,?_⟩
   simp; omega
 · rintro a e H ⟨h1,h3,ha,hn,h13,⟨hH1,hH3⟩,hl⟩
   simp only [↓eA,eB,seval,l50003,h1,h3,ha,hn,h13,hH1,hH3,Nat.lt_irrefl]
   and_intros<;>first | trivial | rfl
 · rintro X e' H' ⟨rfl,g1,g3,rfl⟩
   refine ⟨rfl,g1,g3,?_⟩
   have:∀ (l:List Bed) (a:List D),l.foldl (fun a b=>a ++ [.str b.name]) a=a ++ l.map fun b=>.str b.name:=by
     intro l
     induction l with
     | nil=>intro a; simp
     | cons b r ih=>intro a; simp [ih]
   rw [this]
theorem lp_pn2 (s:Survey)(hF:s.Fit)(acc:List D)(hacc:acc.length≤4000000000)(e:Env)(H:Heap)(h1:Gs.get e 1 = .ptr 1 0)(h3:Gs.get e 3 = .ow 1003)(ha:Gs.get e 24 = .fz false 5 (s.joints.map Joint.enc))(hn:Gs.get e 25=int s.joints.length)(hi:Gs.get e 26=int 0)(hH:nmSt s acc H) :
   Ends T 50008 e H (fun X e' H'=>X = .ex 2∧Gs.get e' 1 = .ptr 1 0∧Gs.get e' 3 = .ow 1003∧H'=Hp s (acc ++ s.joints.map fun b=>.str b.name)):=by
 have hb:=hF.jl
 refine (loop_fold (T:=T) (key:=50008) (li:=l50008.1) rfl s.joints (fun (a:List D) (b:Joint)=>a ++ [.str b.name]) (fun i a e H=>Gs.get e 1 = .ptr 1 0∧Gs.get e 3 = .ow 1003∧Gs.get e 24 = .fz false 5 (s.joints.map Joint.enc)∧Gs.get e 25=int s.joints.length∧Gs.get e 26=int i∧nmSt s a H∧a.length=acc.length + i) (fun a X e' H'=>X = .ex 2∧Gs.get e' 1 = .ptr 1 0∧Gs.get e' 3 = .ow 1003∧H'=Hp s a) ?_ ?_ acc e H ⟨h1,h3,ha,hn,hi,hH,rfl⟩).mono ?_
 · rintro i b a e H hx hi ⟨h1,h3,ha,hn,h13,⟨hH1,hH3⟩,hl⟩
   have hx':(s.joints.map Joint.enc)[i]?=some (Joint.enc b):=by simp [hx]
   have hfit:fits (a.length + (0 + 1)) 16=true:=fits_of (by omega)
   simp only [↓eA,eB,seval,l50008,h1,h3,ha,hn,h13,hH1,hH3,hi,hx',hfit,wrap_succ (show i < 4611686018427387904 by omega)]
   refine ⟨trivial,trivial,trivial,trivial,trivial,trivial,⟨rfl,rfl⟩,?_⟩
   simp; omega
 · rintro a e H ⟨h1,h3,ha,hn,h13,⟨hH1,hH3⟩,hl⟩
   simp only [↓eA,eB,seval,l50008,h1,h3,ha,hn,h13,hH1,hH3,Nat.lt_irrefl]
   and_intros<;>first | trivial | rfl
 · rintro X e' H' ⟨rfl,g1,g3,rfl⟩
   refine ⟨rfl,g1,g3,?_⟩
   have:∀ (l:List Joint) (a:List D),l.foldl (fun a b=>a ++ [.str b.name]) a=a ++ l.map fun b=>.str b.name:=by
     intro l
     induction l with
     | nil=>intro a; simp
     | cons b r ih=>intro a; simp [ih]
   rw [this]
theorem lp_pn3 (s:Survey)(hF:s.Fit)(acc:List D)(hacc:acc.length≤4000000000)(e:Env)(H:Heap)(h3:Gs.get e 3 = .ow 1003)(ha:Gs.get e 37 = .fz false 4 (s.flaws.map Flaw.enc))(hn:Gs.get e 38=int s.flaws.length)(hi:Gs.get e 39=int 0)(hH:hget H 1003=some (.row true 1 acc 0 true)) :
   Ends T 50013 e H (fun X e' H'=>X = .ex 4∧Gs.get e' 3 = .ow 1003∧H'=[(1003,.row true 1 (acc ++ s.flaws.map fun b=>.str b.name) 0 true)]):=by
 have hb:=hF.fl
 refine (loop_fold (T:=T) (key:=50013) (li:=l50013.1) rfl s.flaws (fun (a:List D) (b:Flaw)=>a ++ [.str b.name]) (fun i a e H=>Gs.get e 3 = .ow 1003∧Gs.get e 37 = .fz false 4 (s.flaws.map Flaw.enc)∧Gs.get e 38=int s.flaws.length∧Gs.get e 39=int i∧hget H 1003=some (.row true 1 a 0 true)∧a.length=acc.length + i) (fun a X e' H'=>X = .ex 4∧Gs.get e' 3 = .ow 1003∧H'=[(1003,.row true 1 a 0 true)]) ?_ ?_ acc e H ⟨h3,ha,hn,hi,hH,rfl⟩).mono ?_
 · rintro i b a e H hx hi ⟨h3,ha,hn,h13,hH3,hl⟩
   have hx':(s.flaws.map Flaw.enc)[i]?=some (Flaw.enc b):=by simp [hx]
   have hfit:fits (a.length + (0 + 1)) 16=true:=fits_of (by omega)
   simp only [↓eA,eB,seval,l50013,h3,ha,hn,h13,hH3,hi,hx',hfit,wrap_succ (show i < 4611686018427387904 by omega)]
   refine ⟨trivial,trivial,trivial,trivial,trivial,trivial,?_⟩
   simp; omega
 · rintro a e H ⟨h3,ha,hn,h13,hH3,hl⟩
   simp only [↓eA,eB,seval,l50013,h3,ha,hn,h13,hH3,Nat.lt_irrefl]
   and_intros<;>first | trivial | rfl
 · rintro X e' H' ⟨rfl,g3,rfl⟩
   refine ⟨rfl,g3,?_⟩
   have:∀ (l:List Flaw) (a:List D),l.foldl (fun a b=>a ++ [.str b.name]) a=a ++ l.map fun b=>.str b.name:=by
     intro l
     induction l with
     | nil=>intro a; simp
     | cons b r ih=>intro a; simp [ih]
   rw [this]
theorem names_map (s:Survey):(([] ++ s.beds.map fun b=>D.str b.name) ++ s.joints.map fun b=>D.str b.name) ++ (s.flaws.map fun b=>D.str b.name)=s.names.map .str:=by
 simp [Survey.names,List.map_append,List.append_assoc,Function.comp_def]
theorem e_pNames (s:Survey)(hF:s.Fit):L.call 50 [s.enc] []=some (.ow 600000,[(600000,.row true 1 (s.names.map .str) 0 true)]):=
 call_eq rfl rfl (by
   have hb:=hF.bl; have hj:=hF.jl
   simp only [↓eA,eB,seval,c50]
   generalize hE:(lim T).loop 50003 _ _=R
   obtain ⟨X,e',H',rfl,rfl,g1,g3,rfl⟩:=Ends.at hE (lp_pn1 s hF [] (by simp) _ _ rfl rfl rfl rfl rfl ⟨rfl,rfl⟩)
   simp only [↓eA,eB,seval,g1,g3]
   generalize hE:(lim T).loop 50008 _ _=R
   obtain ⟨X,e',H',rfl,rfl,g1,g3,rfl⟩:=Ends.at hE (lp_pn2 s hF _ (by simp; omega) _ _ (by simp only [↓eA,eB,seval,g1]) (by simp only [↓eA,eB,seval,g3]) (by simp only [↓eA,eB,seval]) (by simp only [↓eA,eB,seval]) (by simp only [↓eA,eB,seval]) ⟨rfl,rfl⟩)
   simp only [↓eA,eB,seval,g1,g3]
   generalize hE:(lim T).loop 50013 _ _=R
   obtain ⟨X,e',H',rfl,rfl,g3,rfl⟩:=Ends.at hE (lp_pn3 s hF _ (by simp; omega) _ _ (by simp only [↓eA,eB,seval,g3]) (by simp only [↓eA,eB,seval]) (by simp only [↓eA,eB,seval]) (by simp only [↓eA,eB,seval]) rfl)
   simp only [↓eA,eB,seval,g3]
   rw [←names_map]
   simp only [List.nil_append])
end Tz
set_option maxRecDepth 100000
open Gs Go
namespace Tz
theorem getm {zs:List ByteArray}{i:Nat}{x:ByteArray}(h:zs[i]?=some x):(zs.map D.str)[i]?=some (D.str x):=by simp [h]
theorem lp_ci_s (xs:List ByteArray)(hb:xs.length < 4000000000)(nz dy:Bool)(K0:Nat)(hK:0 < K0)(hKn:K0 < xs.length)(hdd:dd seq (xs.take (K0 + 1))=xs.take K0)(e:Env)(H:Heap)(h0:Gs.get e 0 = .ow 500000)(h3:Gs.get e 3=int K0)(h4:Gs.get e 4 = .win 500000 K0 (xs.length - K0))(h5:Gs.get e 5=int 1)(hH:hget H 500000=some (.row nz 1 (xs.map D.str) 0 dy))(hH1:hget H 500001=none) :
   Ends T 90009 e H (fun X e' H'=>X = .ex 2∧∃ (k:Nat) (zs:List ByteArray),Gs.get e' 0 = .ow 500000∧Gs.get e' 3=int k∧zs.length=xs.length∧k≤xs.length∧zs.take k=dd seq xs∧H'=[(500000,.row nz 1 (zs.map D.str) 0 dy)]):=by
 refine (loop_upto (T:=T) (key:=90009) (li:=l90009.1) rfl (S:=Unit) (R:=Empty) (fun _ _=>.inr ()) (xs.length - K0) (fun i _ e H=>1≤i∧i≤xs.length - K0∧∃ (k:Nat) (zs:List ByteArray),Gs.get e 0 = .ow 500000∧Gs.get e 3=int k∧Gs.get e 4 = .win 500000 K0 (xs.length - K0)∧Gs.get e 5=int i∧hget H 500000=some (.row nz 1 (zs.map D.str) 0 dy)∧hget H 500001=none∧zs.length=xs.length∧k + 1≤K0 + i∧zs.take k=dd seq (xs.take (K0 + i))∧∀ j,K0 + i≤j + 1→zs[j]?=xs[j]?) (fun _ _ _ _=>False) (fun _ X e' H'=>X = .ex 2∧∃ (k:Nat) (zs:List ByteArray),Gs.get e' 0 = .ow 500000∧Gs.get e' 3=int k∧zs.length=xs.length∧k≤xs.length∧zs.take k=dd seq xs∧H'=[(500000,.row nz 1 (zs.map D.str) 0 dy)]) ?_ ?_ ?_ (xs.length - K0 - 1) 1 () e H rfl ⟨Nat.le_refl _,by omega,K0,xs,h0,h3,h4,h5,hH,hH1,rfl,by omega,by rw [hdd],fun j _=>rfl⟩).mono ?_
 · rintro i s s' e H hi ⟨hi1,hi2,k,zs,h0,h3,h4,h5,hH,hH1,hz,hk,ht,hj⟩ hf
   obtain ⟨y,hy⟩:∃ y,xs[K0 + i]?=some y:=⟨_,List.getElem?_eq_getElem (by omega)⟩
   obtain ⟨p,hp⟩:∃ p,xs[K0 + i - 1]?=some p:=⟨_,List.getElem?_eq_getElem (by omega)⟩
   have hzy:zs[K0 + i]?=some y:=by rw [hj _ (by omega)]; exact hy
   have hzp:zs[K0 + (i - 1)]?=some p:=by rw [hj _ (by omega),show K0 + (i - 1)=K0 + i - 1 by omega]; exact hp
   have hsucc:dd seq (xs.take (K0 + (i + 1)))=dd seq (xs.take (K0 + i)) ++ (bif seq y p then [] else [y]):=by
     obtain ⟨m,hm⟩:∃ m,K0 + i=m + 1:=⟨K0 + i - 1,by omega⟩
     rw [show K0 + (i + 1)=m + 2 by omega,hm]
     exact dd_take_succ seq (by rw [←hm]; exact hy) (by rw [show m=K0 + i - 1 by omega]; exact hp)
   have hil:i - 1 < xs.length - K0:=by omega
   obtain ⟨z,hzk⟩:∃ z,zs[k]?=some z:=⟨_,List.getElem?_eq_getElem (by omega)⟩
   have hkl:k < zs.length:=by omega
   cases hc:seq y p with
   | true=>
     simp only [↓eA,eB,reduceIte,Nat.reduceBEq,Int.reduceNeg,Int.reduceLT,Int.reduceLE,Int.reduceAdd,Int.reduceSub,Int.reduceMul,Int.reduceEq,Int.reduceToNat,Nat.reduceLT,Nat.reduceAdd,Nat.reduceMul,Nat.reduceSub,l90009,h0,h3,h4,h5,hH,hH1,hi,hil,getm hzy,getm hzp,wrap_pred (show 0 < i by omega) (show i < 4611686018427387904 by omega),hc,wrap_succ (show i < 4611686018427387904 by omega)]
     have hb1:zs.take k=dd seq (xs.take (K0 + (i + 1))):=by rw [hsucc,hc,ht]; simp
     refine ⟨trivial,by omega,by omega,k,zs,?_⟩
     and_intros<;>first | trivial | rfl | assumption | omega | exact fun j hj'=>hj j (by omega)
   | false=>
     simp only [↓eA,eB,reduceIte,Nat.reduceBEq,Int.reduceNeg,Int.reduceLT,Int.reduceLE,Int.reduceAdd,Int.reduceSub,Int.reduceMul,Int.reduceEq,Int.reduceToNat,Nat.reduceLT,Nat.reduceAdd,Nat.reduceMul,Nat.reduceSub,l90009,h0,h3,h4,h5,hH,hH1,hi,hil,getm hzy,getm hzp,getm hzk,hkl,wrap_pred (show 0 < i by omega) (show i < 4611686018427387904 by omega),hc,wrap_succ (show i < 4611686018427387904 by omega),wrap_succ (show k < 4611686018427387904 by omega),Nat.zero_le,beq_self_eq_true]
     have hb1:(zs.set k y).take (k + 1)=dd seq (xs.take (K0 + (i + 1))):=by
       rw [hsucc,hc,←ht]
       simp only [cond_false]
       rw [List.take_add_one,List.getElem?_set_self hkl,List.take_set_of_le (Nat.le_refl k)]
       rfl
     have hb2:(zs.set k y).length=xs.length:=by simpa using hz
     have hb3:∀ j,K0 + (i + 1)≤j + 1→(zs.set k y)[j]?=xs[j]?:=by
       intro j hj'; rw [List.getElem?_set_ne (by omega)]; exact hj j (by omega)
     refine ⟨trivial,by omega,by omega,k + 1,zs.set k y,?_⟩
     and_intros<;>first | trivial | rfl | assumption | omega | (simp [List.map_set]; done)
 · rintro i s r e H hi _ hf; cases hf
 · rintro i s e H hi ⟨hi1,hi2,k,zs,h0,h3,h4,h5,hH,hH1,hz,hk,ht,hj⟩
   have hie:i=xs.length - K0:=by omega
   subst hie
   simp only [↓eA,eB,reduceIte,Nat.reduceBEq,Int.reduceNeg,Int.reduceLT,Int.reduceLE,Int.reduceAdd,Int.reduceSub,Int.reduceMul,Int.reduceEq,Int.reduceToNat,Nat.reduceLT,Nat.reduceAdd,Nat.reduceMul,Nat.reduceSub,l90009,h0,h3,h4,h5,hH,hH1,Nat.lt_irrefl]
   have hb1:zs.take k=dd seq xs:=by rw [ht,List.take_of_length_le (by omega)]
   refine ⟨trivial,trivial,k,zs,?_⟩
   and_intros<;>first | trivial | rfl | assumption | omega
 · intro X e' H' h
   have:∀ (n i:Nat),upto (S:=Unit) (R:=Empty) (fun _ _=>.inr ()) n i () = .inr ():=by
     intro n
     induction n with
     | zero=>intro i; rfl
     | succ n ih=>intro i; simp only [upto]; exact ih (i + 1)
   rw [this] at h; exact h
abbrev adj_xs (xs:List ByteArray)(i:Nat):Bool:=match xs[i]?,xs[i - 1]? with | some y,some p=>seq y p | _,_=>false
theorem dd_stop (xs:List ByteArray)(k:Nat)(hk:k≤xs.length)(h:∀ i,1≤i→i < k→adj_xs xs i=false):dd seq (xs.take k)=xs.take k:=by
 induction k with
 | zero=>rfl
 | succ k ih=>
   cases k with
   | zero=>cases xs with
     | nil=>rfl
     | cons x r=>simp [dd,ddF]
   | succ k=>
     obtain ⟨y,hy⟩:∃ y,xs[k + 1]?=some y:=⟨_,List.getElem?_eq_getElem (by omega)⟩
     obtain ⟨p,hp⟩:∃ p,xs[k]?=some p:=⟨_,List.getElem?_eq_getElem (by omega)⟩
     have h1:=h (k + 1) (by omega) (by omega)
     have hkk:xs[k + 1 - 1]?=some p:=hp
     simp only [adj_xs,hy,hkk] at h1
     rw [dd_take_succ seq hy hp,h1,ih (by omega) fun i h1 h2=>h i h1 (by omega)]
     rw [List.take_add_one (i:=k + 1),hy]; rfl
theorem lp_co_s (xs:List ByteArray)(hb:xs.length < 4000000000)(nz dy:Bool)(h2:1 < xs.length)(e:Env)(H:Heap)(h0:Gs.get e 0 = .ow 500000)(h3:Gs.get e 3=int (1:Nat))(hH:hget H 500000=some (.row nz 1 (xs.map D.str) 0 dy))(hH1:hget H 500001=none) :
   Ends T 90004 e H (fun X e' H'=>(X = .ex 0∧Gs.get e' 0 = .ow 500000∧dd seq xs=xs∧H'=[(500000,.row nz 1 (xs.map D.str) 0 dy)])∨(X = .ret∧∃ (k:Nat) (zq:List ByteArray),k=(dd seq xs).length∧k≤xs.length∧zq.length=xs.length∧zq.take k=dd seq xs∧Gs.get e' 2 = .win 500000 0 k∧H'=[(500000,.row nz 1 (zq.map D.str) 0 dy)])):=by
 refine (loop_upto (T:=T) (key:=90004) (li:=l90004.1) rfl (S:=Unit) (R:=Unit) (fun _ k=>bif adj_xs xs k then .inl () else .inr ()) (xs.length) (fun i _ e H=>1≤i∧i≤xs.length∧Gs.get e 0 = .ow 500000∧Gs.get e 3=int i∧hget H 500000=some (.row nz 1 (xs.map D.str) 0 dy)∧hget H 500001=none∧dd seq (xs.take i)=xs.take i) (fun _ X e' H'=>X = .ret∧∃ (k:Nat) (zq:List ByteArray),k=(dd seq xs).length∧k≤xs.length∧zq.length=xs.length∧zq.take k=dd seq xs∧Gs.get e' 2 = .win 500000 0 k∧H'=[(500000,.row nz 1 (zq.map D.str) 0 dy)]) (fun _ X e' H'=>X = .ex 0∧Gs.get e' 0 = .ow 500000∧dd seq xs=xs∧H'=[(500000,.row nz 1 (xs.map D.str) 0 dy)]) ?_ ?_ ?_ (xs.length - 1) 1 () e H (by omega) ⟨Nat.le_refl _,by omega,h0,h3,hH,hH1,dd_stop xs 1 (by omega) (fun i h1 h2=>by omega)⟩).mono ?_
 · rintro i s s' e H hi ⟨hi1,hi2,h0,h3,hH,hH1,hd⟩ hf
   obtain ⟨y,hy⟩:∃ y,xs[i]?=some y:=⟨_,List.getElem?_eq_getElem (by omega)⟩
   obtain ⟨p,hp⟩:∃ p,xs[i - 1]?=some p:=⟨_,List.getElem?_eq_getElem (by omega)⟩
   simp only [adj_xs,hy,hp] at hf
   cases hc:seq y p with
   | true=>rw [hc] at hf; simp only [cond_true] at hf; cases hf
   | false=>
     have hil:i - 1 < xs.length:=by omega
     simp only [↓eA,eB,reduceIte,Nat.reduceBEq,Int.reduceNeg,Int.reduceLT,Int.reduceLE,Int.reduceAdd,Int.reduceSub,Int.reduceMul,Int.reduceEq,Int.reduceToNat,Nat.reduceLT,Nat.reduceAdd,Nat.reduceMul,Nat.reduceSub,l90004,h0,h3,hH,hH1,hi,hil,getm hy,getm hp,wrap_pred (show 0 < i by omega) (show i < 4611686018427387904 by omega),hc,wrap_succ (show i < 4611686018427387904 by omega)]
     have hb1:dd seq (xs.take (i + 1))=xs.take (i + 1):=by
       obtain ⟨m,hm⟩:∃ m,i=m + 1:=⟨i - 1,by omega⟩
       subst hm
       rw [dd_take_succ seq hy hp,hc,hd,List.take_add_one (i:=m + 1),hy]; rfl
     and_intros<;>first | trivial | rfl | assumption | omega
 · rintro i s r e H hi ⟨hi1,hi2,h0,h3,hH,hH1,hd⟩ hf
   obtain ⟨y,hy⟩:∃ y,xs[i]?=some y:=⟨_,List.getElem?_eq_getElem (by omega)⟩
   obtain ⟨p,hp⟩:∃ p,xs[i - 1]?=some p:=⟨_,List.getElem?_eq_getElem (by omega)⟩
   simp only [adj_xs,hy,hp] at hf
   cases hc:seq y p with
   | false=>rw [hc] at hf; simp only [cond_false] at hf; cases hf
   | true=>
     have hb1:dd seq (xs.take (i + 1))=xs.take i:=by
       obtain ⟨m,hm⟩:∃ m,i=m + 1:=⟨i - 1,by omega⟩
       subst hm
       rw [dd_take_succ seq hy hp,hc,hd]; simp
     have hii:i≤xs.length:=by omega
     have hil:i - 1 < xs.length:=by omega
     simp only [↓eA,eB,reduceIte,Nat.reduceBEq,Int.reduceNeg,Int.reduceLT,Int.reduceLE,Int.reduceAdd,Int.reduceSub,Int.reduceMul,Int.reduceEq,Int.reduceToNat,Nat.reduceLT,Nat.reduceAdd,Nat.reduceMul,Nat.reduceSub,l90004,h0,h3,hH,hH1,hi,hii,hil,getm hy,getm hp,wrap_pred (show 0 < i by omega) (show i < 4611686018427387904 by omega),hc,wrap_succ (show i < 4611686018427387904 by omega),Nat.le_refl]
     generalize hE:(lim T).loop 90009 _ _=R
     obtain ⟨X,e',H',rfl,rfl,k,zs,g0,g3,hz,hk,hzt,rfl⟩:=Ends.at hE (lp_ci_s xs hb nz dy i (by omega) hi hb1 _ _ (by simp only [↓eA,eB,reduceIte,Nat.reduceBEq,Int.reduceNeg,Int.reduceLT,Int.reduceLE,Int.reduceAdd,Int.reduceSub,Int.reduceMul,Int.reduceEq,Int.reduceToNat,Nat.reduceLT,Nat.reduceAdd,Nat.reduceMul,Nat.reduceSub,h0]) (by simp only [↓eA,eB,reduceIte,Nat.reduceBEq,Int.reduceNeg,Int.reduceLT,Int.reduceLE,Int.reduceAdd,Int.reduceSub,Int.reduceMul,Int.reduceEq,Int.reduceToNat,Nat.reduceLT,Nat.reduceAdd,Nat.reduceMul,Nat.reduceSub,h3]) (by simp only [↓eA,eB,reduceIte,Nat.reduceBEq,Int.reduceNeg,Int.reduceLT,Int.reduceLE,Int.reduceAdd,Int.reduceSub,Int.reduceMul,Int.reduceEq,Int.reduceToNat,Nat.reduceLT,Nat.reduceAdd,Nat.reduceMul,Nat.reduceSub,hii]) (by simp only [↓eA,eB,reduceIte,Nat.reduceBEq,Int.reduceNeg,Int.reduceLT,Int.reduceLE,Int.reduceAdd,Int.reduceSub,Int.reduceMul,Int.reduceEq,Int.reduceToNat,Nat.reduceLT,Nat.reduceAdd,Nat.reduceMul,Nat.reduceSub]) (by simp only [↓eA,eB,reduceIte,Nat.reduceBEq,Int.reduceNeg,Int.reduceLT,Int.reduceLE,Int.reduceAdd,Int.reduceSub,Int.reduceMul,Int.reduceEq,Int.reduceToNat,Nat.reduceLT,Nat.reduceAdd,Nat.reduceMul,Nat.reduceSub]) (by simp only [↓eA,eB,reduceIte,Nat.reduceBEq,Int.reduceNeg,Int.reduceLT,Int.reduceLE,Int.reduceAdd,Int.reduceSub,Int.reduceMul,Int.reduceEq,Int.reduceToNat,Nat.reduceLT,Nat.reduceAdd,Nat.reduceMul,Nat.reduceSub,hH1]))
     have hkl:k≤zs.length:=by omega
     have hkk:k + (zs.length - k)≤zs.length:=by omega
     obtain ⟨zq,hq1,hq2,hq3⟩:∃ zq:List ByteArray,zq.length=zs.length∧zq.take k=dd seq xs∧List.take k (List.map D.str zs) ++ List.replicate (zs.length - k) (D.str .empty) ++ List.drop (k + (zs.length - k)) (List.map D.str zs)=zq.map D.str:=by
       refine ⟨zs.take k ++ List.replicate (zs.length - k) .empty,by simp; omega,?_,?_⟩
       · rw [←hzt,List.take_append_of_le_length (by simp; omega),List.take_take,Nat.min_self]
       · rw [show k + (zs.length - k)=zs.length by omega]; simp [List.map_take]
     have hkq:k≤zq.length:=by omega
     have hinc:inc 0 k=true:=by simp [inc]
     simp only [↓eA,eB,reduceIte,Nat.reduceBEq,Int.reduceNeg,Int.reduceLT,Int.reduceLE,Int.reduceAdd,Int.reduceSub,Int.reduceMul,Int.reduceEq,Int.reduceToNat,Nat.reduceLT,Nat.reduceAdd,Nat.reduceMul,Nat.reduceSub,g0,g3,hkl,hkk,hq3,hkq,hinc,Nat.le_refl,Nat.zero_le,Nat.sub_zero,Nat.zero_add]
     refine ⟨trivial,trivial,k,zq,by rw [←hq2,List.length_take]; omega,by omega,by omega,hq2,?_⟩
     and_intros<;>first | trivial | rfl | assumption | omega
 · rintro i s e H hi ⟨hi1,hi2,h0,h3,hH,hH1,hd⟩
   have hie:i=xs.length:=by omega
   subst hie
   rw [List.take_length] at hd
   simp only [↓eA,eB,reduceIte,Nat.reduceBEq,Int.reduceNeg,Int.reduceLT,Int.reduceLE,Int.reduceAdd,Int.reduceSub,Int.reduceMul,Int.reduceEq,Int.reduceToNat,Nat.reduceLT,Nat.reduceAdd,Nat.reduceMul,Nat.reduceSub,l90004,h0,h3,hH,hH1,Nat.lt_irrefl]
   and_intros<;>first | trivial | rfl | assumption | omega
 · intro X e' H' h
   split at h
   · exact .inr h
   · exact .inl h
theorem lt2_b {n:Nat}(h:¬n < 2):decide ((n:Int) < 2)=false:=by simp; omega
theorem lt2_a {n:Nat}(h:n < 2):decide ((n:Int) < 2)=true:=by simp; omega
theorem e_compact_s (xs:List ByteArray)(hb:xs.length < 4000000000)(nz dy:Bool) :
   (dd seq xs=xs∧L.call 90 [.ow 500000] [(500000,.row nz 1 (xs.map D.str) 0 dy)]=some (.ow 500000,[(500000,.row nz 1 (xs.map D.str) 0 dy)]))∨
   ∃ zq:List ByteArray,zq.length=xs.length∧zq.take (dd seq xs).length=dd seq xs∧(dd seq xs).length≤xs.length∧L.call 90 [.ow 500000] [(500000,.row nz 1 (xs.map D.str) 0 dy)]=some (.win 500000 0 (dd seq xs).length,[(500000,.row nz 1 (zq.map D.str) 0 dy)]):=by
 by_cases hl:xs.length < 2
 · refine .inl ⟨?_,call_eq rfl rfl ?_⟩
   · match xs,hl with
     | [],_=>rfl
     | [x],_=>rfl
   · simp only [↓eA,eB,reduceIte,Nat.reduceBEq,Int.reduceNeg,Int.reduceLT,Int.reduceLE,Int.reduceAdd,Int.reduceSub,Int.reduceMul,Int.reduceEq,Int.reduceToNat,Nat.reduceLT,Nat.reduceAdd,Nat.reduceMul,Nat.reduceSub,c90,lt2_a hl]
 · generalize hE:(lim T).loop 90004 [(0,D.ow 500000),(2,D.fz true 1 []),(6,D.ow 500000),(7,D.int IntKind.i64 xs.length),(8,D.bool false),(3,D.int IntKind.i64 1)] [(500000,.row nz 1 (xs.map D.str) 0 dy)]=R
   obtain ⟨X,e',H',rfl,h⟩:=Ends.at hE (lp_co_s xs hb nz dy (by omega) _ _ rfl rfl rfl rfl)
   rcases h with ⟨rfl,g0,hd,rfl⟩ | ⟨rfl,k,zq,rfl,hk,hq1,hq2,g2,rfl⟩
   · refine .inl ⟨hd,call_eq rfl rfl ?_⟩
     simp only [↓eA,eB,reduceIte,Nat.reduceBEq,Int.reduceNeg,Int.reduceLT,Int.reduceLE,Int.reduceAdd,Int.reduceSub,Int.reduceMul,Int.reduceEq,Int.reduceToNat,Nat.reduceLT,Nat.reduceAdd,Nat.reduceMul,Nat.reduceSub,c90,lt2_b hl,hE,g0]
   · refine .inr ⟨zq,hq1,hq2,hk,call_eq rfl rfl ?_⟩
     simp only [↓eA,eB,reduceIte,Nat.reduceBEq,Int.reduceNeg,Int.reduceLT,Int.reduceLE,Int.reduceAdd,Int.reduceSub,Int.reduceMul,Int.reduceEq,Int.reduceToNat,Nat.reduceLT,Nat.reduceAdd,Nat.reduceMul,Nat.reduceSub,c90,lt2_b hl,hE,g2]
end Tz
set_option maxRecDepth 100000
open Gs Go
namespace Tz
def badIx {α:Type}(l:List α)(ge:α→α→Bool)(i:Nat):Bool:=match l[i - 1]?,l[i]? with
  | some a,some b=>ge a b
  | _,_=>false
def steps {α:Type}(l:List α)(ge:α→α→Bool):Bool:=(List.range' 1 (l.length - 1)).any (badIx l ge)
abbrev geBed (a b:Bed):Bool:=decide (b.z≤a.z)
abbrev geJoint (a b:Joint):Bool:=!slt a.name b.name
abbrev geFlaw (a b:Flaw):Bool:=!slt a.name b.name
abbrev Hs (s:Survey):Heap:=[(1,.box s.cells false)]
theorem lp_d1 (s:Survey)(hF:s.Fit)(e:Env)(h1:Gs.get e 1 = .ptr 1 0)(hi:Gs.get e 3=int (1:Nat)) :
   Ends T 60002 e (Hs s) (fun X e' H'=>H'=Hs s∧match steps s.beds geBed with | true=>X = .ret∧Gs.get e' 2 = .bool true | false=>X = .ex 0∧Gs.get e' 1 = .ptr 1 0):=by
 have hb:=hF.bl
 refine loop_fr (T:=T) (key:=60002) (li:=l60002.1) rfl 1 s.beds.length (badIx s.beds geBed) (Hs s) (fun k e=>Gs.get e 1 = .ptr 1 0∧Gs.get e 3=int k) (fun X e'=>X = .ret∧Gs.get e' 2 = .bool true) (fun X e'=>X = .ex 0∧Gs.get e' 1 = .ptr 1 0) ?_ ?_ e ⟨h1,hi⟩
 · rintro k e hk hlt ⟨h1,h3⟩
   obtain ⟨y,hy⟩:∃ y,s.beds[k]?=some y:=⟨_,List.getElem?_eq_getElem (by omega)⟩
   obtain ⟨p,hp⟩:∃ p,s.beds[k - 1]?=some p:=⟨_,List.getElem?_eq_getElem (by omega)⟩
   have hil:k - 1 < s.beds.length:=by omega
   have hy':(s.beds.map Bed.enc)[k]?=some y.enc:=by simp [hy]
   have hp':(s.beds.map Bed.enc)[k - 1]?=some p.enc:=by simp [hp]
   have hbd:badIx s.beds geBed k=geBed p y:=by simp only [badIx,hy,hp]
   rw [hbd]
   simp only [↓eA,eB,seval,l60002,h1,h3,hlt,hil,hy',hp',wrap_pred (show 0 < k by omega) (show k < 4611686018427387904 by omega),wrap_succ (show k < 4611686018427387904 by omega)]
   cases hc:geBed p y<;>(try simp only [Bool.not_eq_true',Bool.not_eq_false'] at hc)<;>simp only [↓eA,eB,seval,hc]<;>and_intros<;>first | trivial | rfl
 · rintro k e hk _ ⟨h1,h3⟩
   have hlt:¬ k < s.beds.length:=by omega
   simp only [↓eA,eB,seval,l60002,h1,h3,hlt]
   and_intros<;>first | trivial | rfl
theorem lp_d2 (s:Survey)(hF:s.Fit)(e:Env)(h1:Gs.get e 1 = .ptr 1 0)(hi:Gs.get e 4=int (1:Nat)) :
   Ends T 60007 e (Hs s) (fun X e' H'=>H'=Hs s∧match steps s.joints geJoint with | true=>X = .ret∧Gs.get e' 2 = .bool true | false=>X = .ex 2∧Gs.get e' 1 = .ptr 1 0):=by
 have hb:=hF.jl
 refine loop_fr (T:=T) (key:=60007) (li:=l60007.1) rfl 1 s.joints.length (badIx s.joints geJoint) (Hs s) (fun k e=>Gs.get e 1 = .ptr 1 0∧Gs.get e 4=int k) (fun X e'=>X = .ret∧Gs.get e' 2 = .bool true) (fun X e'=>X = .ex 2∧Gs.get e' 1 = .ptr 1 0) ?_ ?_ e ⟨h1,hi⟩
 · rintro k e hk hlt ⟨h1,h3⟩
   obtain ⟨y,hy⟩:∃ y,s.joints[k]?=some y:=⟨_,List.getElem?_eq_getElem (by omega)⟩
   obtain ⟨p,hp⟩:∃ p,s.joints[k - 1]?=some p:=⟨_,List.getElem?_eq_getElem (by omega)⟩
   have hil:k - 1 < s.joints.length:=by omega
   have hy':(s.joints.map Joint.enc)[k]?=some y.enc:=by simp [hy]
   have hp':(s.joints.map Joint.enc)[k - 1]?=some p.enc:=by simp [hp]
   have hbd:badIx s.joints geJoint k=geJoint p y:=by simp only [badIx,hy,hp]
   rw [hbd]
   simp only [↓eA,eB,seval,l60007,h1,h3,hlt,hil,hy',hp',wrap_pred (show 0 < k by omega) (show k < 4611686018427387904 by omega),wrap_succ (show k < 4611686018427387904 by omega)]
   cases hc:geJoint p y<;>(try simp only [Bool.not_eq_true',Bool.not_eq_false'] at hc)<;>simp only [↓eA,eB,seval,hc]<;>and_intros<;>first | trivial | rfl
 · rintro k e hk _ ⟨h1,h3⟩
   have hlt:¬ k < s.joints.length:=by omega
   simp only [↓eA,eB,seval,l60007,h1,h3,hlt]
   and_intros<;>first | trivial | rfl
theorem lp_d3 (s:Survey)(hF:s.Fit)(e:Env)(h1:Gs.get e 1 = .ptr 1 0)(hi:Gs.get e 5=int (1:Nat)) :
   Ends T 60012 e (Hs s) (fun X e' H'=>H'=Hs s∧match steps s.flaws geFlaw with | true=>X = .ret∧Gs.get e' 2 = .bool true | false=>X = .ex 4∧Gs.get e' 1 = .ptr 1 0):=by
 have hb:=hF.fl
 refine loop_fr (T:=T) (key:=60012) (li:=l60012.1) rfl 1 s.flaws.length (badIx s.flaws geFlaw) (Hs s) (fun k e=>Gs.get e 1 = .ptr 1 0∧Gs.get e 5=int k) (fun X e'=>X = .ret∧Gs.get e' 2 = .bool true) (fun X e'=>X = .ex 4∧Gs.get e' 1 = .ptr 1 0) ?_ ?_ e ⟨h1,hi⟩
 · rintro k e hk hlt ⟨h1,h3⟩
   obtain ⟨y,hy⟩:∃ y,s.flaws[k]?=some y:=⟨_,List.getElem?_eq_getElem (by omega)⟩
   obtain ⟨p,hp⟩:∃ p,s.flaws[k - 1]?=some p:=⟨_,List.getElem?_eq_getElem (by omega)⟩
   have hil:k - 1 < s.flaws.length:=by omega
   have hy':(s.flaws.map Flaw.enc)[k]?=some y.enc:=by simp [hy]
   have hp':(s.flaws.map Flaw.enc)[k - 1]?=some p.enc:=by simp [hp]
   have hbd:badIx s.flaws geFlaw k=geFlaw p y:=by simp only [badIx,hy,hp]
   rw [hbd]
   simp only [↓eA,eB,seval,l60012,h1,h3,hlt,hil,hy',hp',wrap_pred (show 0 < k by omega) (show k < 4611686018427387904 by omega),wrap_succ (show k < 4611686018427387904 by omega)]
   cases hc:geFlaw p y<;>(try simp only [Bool.not_eq_true',Bool.not_eq_false'] at hc)<;>simp only [↓eA,eB,seval,hc]<;>and_intros<;>first | trivial | rfl
 · rintro k e hk _ ⟨h1,h3⟩
   have hlt:¬ k < s.flaws.length:=by omega
   simp only [↓eA,eB,seval,l60012,h1,h3,hlt]
   and_intros<;>first | trivial | rfl
def disordered (s:Survey):Bool:=steps s.beds geBed || (steps s.joints geJoint || (steps s.flaws geFlaw || decide ((dd seq (sortB s.names)).length≠s.names.length)))
theorem strs_map:∀ l:List ByteArray,strs (l.map .str)=some l
 | []=>rfl
 | x :: r=>by simp [strs,strs_map r]
theorem e_sort (nz:Bool)(l:List ByteArray)(hb:l.length < 4611686018427387904):L.call 41 [.ow 500000] [(500000,.row nz 1 (l.map .str) 0 false)]=some (.tup [],[(500000,.row nz 1 ((sortB l).map .str) 0 false)]):=
 ext_eq (s:=sortStrX) rfl (by simp [sortStrX,hget,strs_map,hset,hb])
theorem Survey.names_length (s:Survey):s.names.length=s.beds.length + s.joints.length + s.flaws.length:=by
 simp [Survey.names]; omega
theorem e_disordered (s:Survey)(hF:s.Fit):L.call 60 [s.enc] []=some (.bool (disordered s),[]):=
 call_eq rfl rfl (by
   have hb:=hF.bl; have hj:=hF.jl; have hf:=hF.fl
   have hnl:=s.names_length
   have hsl:(sortB s.names).length=s.names.length:=(sortB_perm _).length_eq
   simp only [↓eA,eB,seval,c60]
   generalize hE:(lim T).loop 60002 _ _=R
   obtain ⟨X,e',H',rfl,rfl,h⟩:=Ends.at hE (lp_d1 s hF _ rfl rfl)
   unfold disordered
   cases h1:steps s.beds geBed with
   | true=>rw [h1] at h; obtain ⟨rfl,g2⟩:=h; simp only [↓eA,eB,seval,g2]
   | false=>
   rw [h1] at h; obtain ⟨rfl,g1⟩:=h
   simp only [↓eA,eB,seval,g1]
   generalize hE:(lim T).loop 60007 _ _=R
   obtain ⟨X,e',H',rfl,rfl,h⟩:=Ends.at hE (lp_d2 s hF _ (by simp only [↓eA,eB,seval,g1]) (by simp only [↓eA,eB,seval]))
   cases h2:steps s.joints geJoint with
   | true=>rw [h2] at h; obtain ⟨rfl,g2⟩:=h; simp only [↓eA,eB,seval,g2]
   | false=>
   rw [h2] at h; obtain ⟨rfl,g1⟩:=h
   simp only [↓eA,eB,seval,g1]
   generalize hE:(lim T).loop 60012 _ _=R
   obtain ⟨X,e',H',rfl,rfl,h⟩:=Ends.at hE (lp_d3 s hF _ (by simp only [↓eA,eB,seval,g1]) (by simp only [↓eA,eB,seval]))
   cases h3:steps s.flaws geFlaw with
   | true=>rw [h3] at h; obtain ⟨rfl,g2⟩:=h; simp only [↓eA,eB,seval,g2]
   | false=>
   rw [h3] at h; obtain ⟨rfl,g1⟩:=h
   have hsort:=e_sort true s.names (by omega)
   rcases e_compact_s (sortB s.names) (by omega) true false with ⟨hd,hcc⟩ | ⟨zq,hz1,hz2,hz3,hcc⟩
   · simp only [↓eA,eB,seval,g1,e_pNames s hF,hsort,killE_nil,hcc]
     rw [hd]; simp; omega
   · simp only [↓eA,eB,seval,g1,e_pNames s hF,hsort,killE_nil,hcc]
     simp; omega)
end Tz
