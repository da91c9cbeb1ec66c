/- What lies outside; All names; Neighbours struck; Disorder; survey.Check; Lists of intervals; no conditions. -/
import Derived.Test.YtogfagkjndoefaaGreatS2toS7
import Derived.Test.YtogfagkjndoefaaGreatGsF
set_option linter.all false
set_option maxRecDepth 100000
open Gs Go
namespace Tz
theorem e_within1 (lo hi x:Int):L.call 200 [int x,.fp [int lo] 0,.fp [int hi] 0] []=some (.bool (decide (x < lo) || decide (hi < x)),[]):=
 call_eq rfl rfl (by simp only [↓eA,eB,seval,c200])
def wOut (lo hi:Int)(xs:List Int):Bool:=xs.any fun x=>decide (x < lo) || decide (hi < x)
theorem e_within (lo hi:Int)(xs:List Int)(hb:xs.length < 1000000000):L.call 173 [int lo,int hi,.fz false 1 (xs.map int)] []=some (.bool (!wOut lo hi xs),[]):=
 call_eq rfl rfl (by
   have e:=e_con_int (fun x=>decide (x < lo) || decide (hi < x)) 200 [.fp [int lo] 0,.fp [int hi] 0] false xs hb rfl (fun x _=>e_within1 lo hi x)
   simp only [↓eA,eB,seval,c173,e]
   rfl)
def inR (lo n hi:Int):Bool:=decide (lo≤n) && decide (n≤hi)
theorem inR_or (lo n hi:Int):(decide (n < lo) || decide (hi < n)) = !inR lo n hi:=by
 unfold inR
 rw [Bool.eq_iff_iff]
 simp only [Bool.or_eq_true,decide_eq_true_eq,Bool.not_eq_true',Bool.and_eq_false_iff,decide_eq_false_iff_not]
 omega
theorem e_within_1 (lo hi a:Int):L.call 173 [int lo,int hi,.fz false 1 [int a]] []=some (.bool (inR lo a hi),[]):=by
 have:=e_within lo hi [a] (by simp)
 simpa only [wOut,List.map_cons,List.map_nil,List.any_cons,List.any_nil,Bool.or_false,inR_or,Bool.not_not] using this
theorem e_within_2 (lo hi a b:Int):L.call 173 [int lo,int hi,.fz false 1 [int a,int b]] []=some (.bool (inR lo a hi && inR lo b hi),[]):=by
 have:=e_within lo hi [a,b] (by simp)
 simpa only [wOut,List.map_cons,List.map_nil,List.any_cons,List.any_nil,Bool.or_false,inR_or,Bool.not_or,Bool.not_not] using this
theorem e_ends0 (b:Box):L.call 138 [b.enc,int 0] []=some (.tup [int b.x0,int b.x1],[]):=call_eq rfl rfl (by simp only [↓eA,eB,seval,c138])
theorem e_ends1 (b:Box)(a:Int)(h:a≠0):L.call 138 [b.enc,int a] []=some (.tup [int b.y0,int b.y1],[]):=call_eq rfl rfl (by simp only [↓eA,eB,seval,c138,h,decide_eq_false h])
def Box.lo (b:Box)(a:Int):Int:=if a=0 then b.x0 else b.y0
def Box.hi (b:Box)(a:Int):Int:=if a=0 then b.x1 else b.y1
theorem e_ends (b:Box)(a:Int):L.call 138 [b.enc,int a] []=some (.tup [int (b.lo a),int (b.hi a)],[]):=by
 unfold Box.lo Box.hi
 by_cases h:a=0
 · subst h; exact e_ends0 b
 · rw [if_neg h,if_neg h]; exact e_ends1 b a h
def Survey.names (s:Survey):List ByteArray:=s.beds.map (·.name) ++ (s.joints.map (·.name) ++ s.flaws.map (·.name))
structure Survey.Fit0 (s:Survey):Prop where
 bl:s.beds.length < 1000000000
 jl:s.joints.length < 1000000000
 fl:s.flaws.length < 1000000000
structure Survey.Fit (s:Survey):Prop extends Survey.Fit0 s where
 base:∀ f∈s.flaws,f.base.length < 1000000000
 nm:∀ n∈s.names,n.size < 1000000000
def bedOut (s:Survey)(b:Bed):Bool:=!inR s.pit.z0 b.z s.pit.z1
def cornerOut (s:Survey)(c:Pt):Bool:=!inR s.pit.x0 c.x s.pit.x1 || !inR s.pit.y0 c.y s.pit.y1
def jointOut (s:Survey)(j:Joint):Bool:=!inR (s.pit.lo j.axis) j.at_ (s.pit.hi j.axis) || !(inR s.pit.z0 j.lo s.pit.z1 && inR s.pit.z0 j.hi s.pit.z1)
def flawOut (s:Survey)(f:Flaw):Bool:=!(inR s.pit.z0 f.lo s.pit.z1 && inR s.pit.z0 f.hi s.pit.z1) || f.base.any (cornerOut s)
def outB (s:Survey):Bool:=s.beds.any (bedOut s) || (s.joints.any (jointOut s) || s.flaws.any (flawOut s))
abbrev sb (s:Survey)(H:Heap):Prop:=hget H 1=some (.box s.cells false)
theorem lp_o1 (s:Survey)(hF:s.Fit)(e:Env)(H:Heap)(h1:Gs.get e 1 = .ptr 1 0)(h3:Gs.get e 3=int s.pit.z0)(h4:Gs.get e 4=int s.pit.z1)(h24:Gs.get e 24 = .fz false 2 (s.beds.map Bed.enc))(h25:Gs.get e 25=int s.beds.length)(h26:Gs.get e 26=int 0)(hH:sb s H) :
   Ends T 123003 e H (fun X e' H'=>match s.beds.any (bedOut s) with | true=>X = .ret∧Gs.get e' 2 = .bool true | false=>X = .ex 0∧Gs.get e' 1 = .ptr 1 0∧Gs.get e' 3=int s.pit.z0∧Gs.get e' 4=int s.pit.z1∧H'=[(1,.box s.cells false)]):=by
 refine loop_anyH (T:=T) (key:=123003) (li:=l123003.1) rfl s.beds (bedOut s) (fun i e H=>Gs.get e 1 = .ptr 1 0∧Gs.get e 3=int s.pit.z0∧Gs.get e 4=int s.pit.z1∧Gs.get e 24 = .fz false 2 (s.beds.map Bed.enc)∧Gs.get e 25=int s.beds.length∧Gs.get e 26=int i∧sb s H) (fun X e' _=>X = .ret∧Gs.get e' 2 = .bool true) (fun X e' H'=>X = .ex 0∧Gs.get e' 1 = .ptr 1 0∧Gs.get e' 3=int s.pit.z0∧Gs.get e' 4=int s.pit.z1∧H'=[(1,.box s.cells false)]) ?_ ?_ e H ⟨h1,h3,h4,h24,h25,h26,hH⟩
 · rintro i b e H hx hi ⟨h1,h3,h4,h24,h25,h26,hH⟩
   have hb:=hF.bl
   have hx':(s.beds.map Bed.enc)[i]?=some b.enc:=by simp [hx]
   simp only [↓eA,eB,seval,l123003,h1,h3,h4,h24,h25,h26,hH,hi,hx',e_within_1,wrap_succ (show i < 4611686018427387904 by omega)]
   cases hc:bedOut s b<;>simp only [bedOut,Bool.not_eq_true',Bool.not_eq_false'] at hc<;>simp only [↓eA,eB,seval,hc]
   · and_intros<;>first | trivial | rfl
   · and_intros<;>first | trivial | rfl
 · rintro e H ⟨h1,h3,h4,h24,h25,h26,hH⟩
   simp only [↓eA,eB,seval,l123003,h1,h3,h4,h24,h25,h26,hH,Nat.lt_irrefl]
   and_intros<;>first | trivial | rfl
theorem lp_o2 (s:Survey)(hF:s.Fit)(e:Env)(H:Heap)(h1:Gs.get e 1 = .ptr 1 0)(h3:Gs.get e 3=int s.pit.z0)(h4:Gs.get e 4=int s.pit.z1)(h24:Gs.get e 39 = .fz false 5 (s.joints.map Joint.enc))(h25:Gs.get e 40=int s.joints.length)(h26:Gs.get e 41=int 0)(hH:sb s H) :
   Ends T 123009 e H (fun X e' H'=>match s.joints.any (jointOut s) with | true=>X = .ret∧Gs.get e' 2 = .bool true | false=>X = .ex 2∧Gs.get e' 1 = .ptr 1 0∧Gs.get e' 3=int s.pit.z0∧Gs.get e' 4=int s.pit.z1∧H'=[(1,.box s.cells false)]):=by
 refine loop_anyH (T:=T) (key:=123009) (li:=l123009.1) rfl s.joints (jointOut s) (fun i e H=>Gs.get e 1 = .ptr 1 0∧Gs.get e 3=int s.pit.z0∧Gs.get e 4=int s.pit.z1∧Gs.get e 39 = .fz false 5 (s.joints.map Joint.enc)∧Gs.get e 40=int s.joints.length∧Gs.get e 41=int i∧sb s H) (fun X e' _=>X = .ret∧Gs.get e' 2 = .bool true) (fun X e' H'=>X = .ex 2∧Gs.get e' 1 = .ptr 1 0∧Gs.get e' 3=int s.pit.z0∧Gs.get e' 4=int s.pit.z1∧H'=[(1,.box s.cells false)]) ?_ ?_ e H ⟨h1,h3,h4,h24,h25,h26,hH⟩
 · rintro i b e H hx hi ⟨h1,h3,h4,h24,h25,h26,hH⟩
   have hb:=hF.jl
   have hx':(s.joints.map Joint.enc)[i]?=some b.enc:=by simp [hx]
   simp only [↓eA,eB,seval,l123009,h1,h3,h4,h24,h25,h26,hH,hi,hx',e_within_1,e_within_2,e_ends s.pit b.axis,wrap_succ (show i < 4611686018427387904 by omega)]
   cases hc:jointOut s b<;>simp only [jointOut] at hc<;>simp only [↓eA,eB,seval,hc]
   · and_intros<;>first | trivial | rfl
   · and_intros<;>first | trivial | rfl
 · rintro e H ⟨h1,h3,h4,h24,h25,h26,hH⟩
   simp only [↓eA,eB,seval,l123009,h1,h3,h4,h24,h25,h26,hH,Nat.lt_irrefl]
   and_intros<;>first | trivial | rfl
theorem lp_o4 (s:Survey)(f:Flaw)(hb:f.base.length < 1000000000)(i:Nat)(e:Env)(H:Heap)(h1:Gs.get e 1 = .ptr 1 0)(h3:Gs.get e 3=int s.pit.z0)(h4:Gs.get e 4=int s.pit.z1)(h24:Gs.get e 73 = .fz false 4 (s.flaws.map Flaw.enc))(h25:Gs.get e 74=int s.flaws.length)(h26:Gs.get e 75=int i)(h92:Gs.get e 92=poly f.base)(h93:Gs.get e 93=int f.base.length)(h94:Gs.get e 94=int 0)(hH:sb s H) :
   Ends T 123021 e H (fun X e' H'=>match f.base.any (cornerOut s) with | true=>X = .ret∧Gs.get e' 2 = .bool true | false=>X = .ex 6∧Gs.get e' 1 = .ptr 1 0∧Gs.get e' 3=int s.pit.z0∧Gs.get e' 4=int s.pit.z1∧Gs.get e' 73 = .fz false 4 (s.flaws.map Flaw.enc)∧Gs.get e' 74=int s.flaws.length∧Gs.get e' 75=int i∧H'=[(1,.box s.cells false)]):=by
 refine loop_anyH (T:=T) (key:=123021) (li:=l123021.1) rfl f.base (cornerOut s) (fun k e H=>Gs.get e 1 = .ptr 1 0∧Gs.get e 3=int s.pit.z0∧Gs.get e 4=int s.pit.z1∧Gs.get e 73 = .fz false 4 (s.flaws.map Flaw.enc)∧Gs.get e 74=int s.flaws.length∧Gs.get e 75=int i∧Gs.get e 92=poly f.base∧Gs.get e 93=int f.base.length∧Gs.get e 94=int k∧sb s H) (fun X e' _=>X = .ret∧Gs.get e' 2 = .bool true) (fun X e' H'=>X = .ex 6∧Gs.get e' 1 = .ptr 1 0∧Gs.get e' 3=int s.pit.z0∧Gs.get e' 4=int s.pit.z1∧Gs.get e' 73 = .fz false 4 (s.flaws.map Flaw.enc)∧Gs.get e' 74=int s.flaws.length∧Gs.get e' 75=int i∧H'=[(1,.box s.cells false)]) ?_ ?_ e H ⟨h1,h3,h4,h24,h25,h26,h92,h93,h94,hH⟩
 · rintro k c e H hx hk ⟨h1,h3,h4,h24,h25,h26,h92,h93,h94,hH⟩
   have hx':(f.base.map Pt.enc)[k]?=some c.enc:=by simp [hx]
   simp only [↓eA,eB,seval,l123021,h1,h3,h4,h24,h25,h26,h92,h93,h94,hH,hk,hx',e_within_1,wrap_succ (show k < 4611686018427387904 by omega)]
   cases hc:cornerOut s c<;>simp only [cornerOut] at hc<;>simp only [↓eA,eB,seval,hc]
   · and_intros<;>first | trivial | rfl
   · and_intros<;>first | trivial | rfl
 · rintro e H ⟨h1,h3,h4,h24,h25,h26,h92,h93,h94,hH⟩
   simp only [↓eA,eB,seval,l123021,h1,h3,h4,h24,h25,h26,h92,h93,h94,hH,Nat.lt_irrefl]
   and_intros<;>first | trivial | rfl
theorem lp_o3 (s:Survey)(hF:s.Fit)(e:Env)(H:Heap)(h1:Gs.get e 1 = .ptr 1 0)(h3:Gs.get e 3=int s.pit.z0)(h4:Gs.get e 4=int s.pit.z1)(h24:Gs.get e 73 = .fz false 4 (s.flaws.map Flaw.enc))(h25:Gs.get e 74=int s.flaws.length)(h26:Gs.get e 75=int 0)(hH:sb s H) :
   Ends T 123016 e H (fun X e' H'=>match s.flaws.any (flawOut s) with | true=>X = .ret∧Gs.get e' 2 = .bool true | false=>X = .ex 4):=by
 refine loop_anyH (T:=T) (key:=123016) (li:=l123016.1) rfl s.flaws (flawOut s) (fun i e H=>Gs.get e 1 = .ptr 1 0∧Gs.get e 3=int s.pit.z0∧Gs.get e 4=int s.pit.z1∧Gs.get e 73 = .fz false 4 (s.flaws.map Flaw.enc)∧Gs.get e 74=int s.flaws.length∧Gs.get e 75=int i∧sb s H) (fun X e' _=>X = .ret∧Gs.get e' 2 = .bool true) (fun X e' H'=>X = .ex 4) ?_ ?_ e H ⟨h1,h3,h4,h24,h25,h26,hH⟩
 · rintro i f e H hx hi ⟨h1,h3,h4,h24,h25,h26,hH⟩
   have hb:=hF.fl
   have hfb:=hF.base f (List.mem_of_getElem? hx)
   have hx':(s.flaws.map Flaw.enc)[i]?=some f.enc:=by simp [hx]
   unfold flawOut
   cases hr:(inR s.pit.z0 f.lo s.pit.z1 && inR s.pit.z0 f.hi s.pit.z1) with
   | false=>
     simp only [↓eA,eB,seval,l123016,h1,h3,h4,h24,h25,h26,hH,hi,hx',e_within_2,hr]
     and_intros<;>first | trivial | rfl
   | true=>
     simp only [↓eA,eB,seval,l123016,h1,h3,h4,h24,h25,h26,hH,hi,hx',e_within_2,hr]
     generalize hE:(lim T).loop 123021 _ _=R
     obtain ⟨X,e',H',rfl,hP⟩:=Ends.at hE (lp_o4 s f hfb i _ _ rfl rfl rfl rfl rfl rfl rfl rfl rfl rfl)
     cases hc:f.base.any (cornerOut s) with
     | true=>
       rw [hc] at hP; obtain ⟨rfl,g⟩:=hP
       simp only [↓eA,eB,seval,g]
       and_intros<;>first | trivial | rfl
     | false=>
       rw [hc] at hP; obtain ⟨rfl,g1,g3,g4,g73,g74,g75,rfl⟩:=hP
       simp only [↓eA,eB,seval,g1,g3,g4,g73,g74,g75,wrap_succ (show i < 4611686018427387904 by omega)]
       and_intros<;>first | trivial | rfl
 · rintro e H ⟨h1,h3,h4,h24,h25,h26,hH⟩
   simp only [↓eA,eB,seval,l123016,h1,h3,h4,h24,h25,h26,hH,Nat.lt_irrefl]
   and_intros<;>first | trivial | rfl
theorem e_outside (s:Survey)(hF:s.Fit):L.call 123 [s.enc] []=some (.bool (outB s),[]):=
 call_eq rfl rfl (by
   unfold outB
   simp only [↓eA,eB,seval,c123]
   generalize hE:(lim T).loop 123003 _ _=R
   obtain ⟨X,e',H',rfl,hP⟩:=Ends.at hE (lp_o1 s hF _ _ rfl rfl rfl rfl rfl rfl rfl)
   cases hc:s.beds.any (bedOut s) with
   | true=>rw [hc] at hP; obtain ⟨rfl,g⟩:=hP; simp only [↓eA,eB,seval,g]
   | false=>
     rw [hc] at hP; obtain ⟨rfl,g1,g3,g4,rfl⟩:=hP
     simp only [↓eA,eB,seval,g1,g3,g4]
     generalize hE:(lim T).loop 123009 _ _=R
     obtain ⟨X,e',H',rfl,hP⟩:=Ends.at hE (lp_o2 s hF _ _ (by simp only [↓eA,eB,seval,g1]) (by simp only [↓eA,eB,seval,g3]) (by simp only [↓eA,eB,seval,g4]) (by simp only [↓eA,eB,seval]) (by simp only [↓eA,eB,seval]) (by simp only [↓eA,eB,seval]) rfl)
     cases hc:s.joints.any (jointOut s) with
     | true=>rw [hc] at hP; obtain ⟨rfl,g⟩:=hP; simp only [↓eA,eB,seval,g]
     | false=>
       rw [hc] at hP; obtain ⟨rfl,g1,g3,g4,rfl⟩:=hP
       simp only [↓eA,eB,seval,g1,g3,g4]
       generalize hE:(lim T).loop 123016 _ _=R
       obtain ⟨X,e',H',rfl,hP⟩:=Ends.at hE (lp_o3 s hF _ _ (by simp only [↓eA,eB,seval,g1]) (by simp only [↓eA,eB,seval,g3]) (by simp only [↓eA,eB,seval,g4]) (by simp only [↓eA,eB,seval]) (by simp only [↓eA,eB,seval]) (by simp only [↓eA,eB,seval]) rfl)
       cases hc:s.flaws.any (flawOut s) with
       | true=>rw [hc] at hP; obtain ⟨rfl,g⟩:=hP; simp only [↓eA,eB,seval,g]
       | false=>rw [hc] at hP; subst hP; simp only [↓eA,eB,seval])
end Tz
set_option maxRecDepth 100000
open Gs Go
namespace Tz
abbrev Hp (s:Survey)(acc:List D):Heap:=[(1,.box s.cells false),(1003,.row true 1 acc 0 true)]
abbrev nmSt (s:Survey)(acc:List D)(H:Heap):Prop:=hget H 1=some (.box s.cells false)∧hget H 1003=some (.row true 1 acc 0 true)
theorem lp_pn1 (s:Survey)(hF:s.Fit)(acc:List D)(hacc:acc.length≤4000000000)(e:Env)(H:Heap)(h1:Gs.get e 1 = .ptr 1 0)(h3:Gs.get e 3 = .ow 1003)(ha:Gs.get e 11 = .fz false 2 (s.beds.map Bed.enc))(hn:Gs.get e 12=int s.beds.length)(hi:Gs.get e 13=int 0)(hH:nmSt s acc H) :
   Ends T 114003 e H (fun X e' H'=>X = .ex 0∧Gs.get e' 1 = .ptr 1 0∧Gs.get e' 3 = .ow 1003∧H'=Hp s (acc ++ s.beds.map fun b=>.str b.name)):=by
 have hb:=hF.bl
 refine (loop_fold (T:=T) (key:=114003) (li:=l114003.1) rfl s.beds (fun (a:List D) (b:Bed)=>a ++ [.str b.name]) (fun i a e H=>Gs.get e 1 = .ptr 1 0∧Gs.get e 3 = .ow 1003∧Gs.get e 11 = .fz false 2 (s.beds.map Bed.enc)∧Gs.get e 12=int s.beds.length∧Gs.get e 13=int i∧nmSt s a H∧a.length=acc.length + i) (fun a X e' H'=>X = .ex 0∧Gs.get e' 1 = .ptr 1 0∧Gs.get e' 3 = .ow 1003∧H'=Hp s a) ?_ ?_ acc e H ⟨h1,h3,ha,hn,hi,hH,rfl⟩).mono ?_
 · rintro i b a e H hx hi ⟨h1,h3,ha,hn,h13,⟨hH1,hH3⟩,hl⟩
   have hx':(s.beds.map Bed.enc)[i]?=some (Bed.enc b):=by simp [hx]
   have hfit:fits (a.length + (0 + 1)) 16=true:=fits_of (by omega)
   simp only [↓eA,eB,seval,l114003,h1,h3,ha,hn,h13,hH1,hH3,hi,hx',hfit,wrap_succ (show i < 4611686018427387904 by omega)]
   refine ⟨trivial,trivial,trivial,trivial,trivial,trivial,⟨rfl,rfl⟩,?_⟩
   simp; omega
 · rintro a e H ⟨h1,h3,ha,hn,h13,⟨hH1,hH3⟩,hl⟩
   simp only [↓eA,eB,seval,l114003,h1,h3,ha,hn,h13,hH1,hH3,Nat.lt_irrefl]
   and_intros<;>first | trivial | rfl
 · rintro X e' H' ⟨rfl,g1,g3,rfl⟩
   refine ⟨rfl,g1,g3,?_⟩
   have:∀ (l:List Bed) (a:List D),l.foldl (fun a b=>a ++ [.str b.name]) a=a ++ l.map fun b=>.str b.name:=by
     intro l
     induction l with
     | nil=>intro a; simp
     | cons b r ih=>intro a; simp [ih]
   rw [this]
theorem lp_pn2 (s:Survey)(hF:s.Fit)(acc:List D)(hacc:acc.length≤4000000000)(e:Env)(H:Heap)(h1:Gs.get e 1 = .ptr 1 0)(h3:Gs.get e 3 = .ow 1003)(ha:Gs.get e 24 = .fz false 5 (s.joints.map Joint.enc))(hn:Gs.get e 25=int s.joints.length)(hi:Gs.get e 26=int 0)(hH:nmSt s acc H) :
   Ends T 114008 e H (fun X e' H'=>X = .ex 2∧Gs.get e' 1 = .ptr 1 0∧Gs.get e' 3 = .ow 1003∧H'=Hp s (acc ++ s.joints.map fun b=>.str b.name)):=by
 have hb:=hF.jl
 refine (loop_fold (T:=T) (key:=114008) (li:=l114008.1) rfl s.joints (fun (a:List D) (b:Joint)=>a ++ [.str b.name]) (fun i a e H=>Gs.get e 1 = .ptr 1 0∧Gs.get e 3 = .ow 1003∧Gs.get e 24 = .fz false 5 (s.joints.map Joint.enc)∧Gs.get e 25=int s.joints.length∧Gs.get e 26=int i∧nmSt s a H∧a.length=acc.length + i) (fun a X e' H'=>X = .ex 2∧Gs.get e' 1 = .ptr 1 0∧Gs.get e' 3 = .ow 1003∧H'=Hp s a) ?_ ?_ acc e H ⟨h1,h3,ha,hn,hi,hH,rfl⟩).mono ?_
 · rintro i b a e H hx hi ⟨h1,h3,ha,hn,h13,⟨hH1,hH3⟩,hl⟩
   have hx':(s.joints.map Joint.enc)[i]?=some (Joint.enc b):=by simp [hx]
   have hfit:fits (a.length + (0 + 1)) 16=true:=fits_of (by omega)
   simp only [↓eA,eB,seval,l114008,h1,h3,ha,hn,h13,hH1,hH3,hi,hx',hfit,wrap_succ (show i < 4611686018427387904 by omega)]
   refine ⟨trivial,trivial,trivial,trivial,trivial,trivial,⟨rfl,rfl⟩,?_⟩
   simp; omega
 · rintro a e H ⟨h1,h3,ha,hn,h13,⟨hH1,hH3⟩,hl⟩
   simp only [↓eA,eB,seval,l114008,h1,h3,ha,hn,h13,hH1,hH3,Nat.lt_irrefl]
   and_intros<;>first | trivial | rfl
 · rintro X e' H' ⟨rfl,g1,g3,rfl⟩
   refine ⟨rfl,g1,g3,?_⟩
   have:∀ (l:List Joint) (a:List D),l.foldl (fun a b=>a ++ [.str b.name]) a=a ++ l.map fun b=>.str b.name:=by
     intro l
     induction l with
     | nil=>intro a; simp
     | cons b r ih=>intro a; simp [ih]
   rw [this]
theorem lp_pn3 (s:Survey)(hF:s.Fit)(acc:List D)(hacc:acc.length≤4000000000)(e:Env)(H:Heap)(h3:Gs.get e 3 = .ow 1003)(ha:Gs.get e 37 = .fz false 4 (s.flaws.map Flaw.enc))(hn:Gs.get e 38=int s.flaws.length)(hi:Gs.get e 39=int 0)(hH:hget H 1003=some (.row true 1 acc 0 true)) :
   Ends T 114013 e H (fun X e' H'=>X = .ex 4∧Gs.get e' 3 = .ow 1003∧H'=[(1003,.row true 1 (acc ++ s.flaws.map fun b=>.str b.name) 0 true)]):=by
 have hb:=hF.fl
 refine (loop_fold (T:=T) (key:=114013) (li:=l114013.1) rfl s.flaws (fun (a:List D) (b:Flaw)=>a ++ [.str b.name]) (fun i a e H=>Gs.get e 3 = .ow 1003∧Gs.get e 37 = .fz false 4 (s.flaws.map Flaw.enc)∧Gs.get e 38=int s.flaws.length∧Gs.get e 39=int i∧hget H 1003=some (.row true 1 a 0 true)∧a.length=acc.length + i) (fun a X e' H'=>X = .ex 4∧Gs.get e' 3 = .ow 1003∧H'=[(1003,.row true 1 a 0 true)]) ?_ ?_ acc e H ⟨h3,ha,hn,hi,hH,rfl⟩).mono ?_
 · rintro i b a e H hx hi ⟨h3,ha,hn,h13,hH3,hl⟩
   have hx':(s.flaws.map Flaw.enc)[i]?=some (Flaw.enc b):=by simp [hx]
   have hfit:fits (a.length + (0 + 1)) 16=true:=fits_of (by omega)
   simp only [↓eA,eB,seval,l114013,h3,ha,hn,h13,hH3,hi,hx',hfit,wrap_succ (show i < 4611686018427387904 by omega)]
   refine ⟨trivial,trivial,trivial,trivial,trivial,trivial,?_⟩
   simp; omega
 · rintro a e H ⟨h3,ha,hn,h13,hH3,hl⟩
   simp only [↓eA,eB,seval,l114013,h3,ha,hn,h13,hH3,Nat.lt_irrefl]
   and_intros<;>first | trivial | rfl
 · rintro X e' H' ⟨rfl,g3,rfl⟩
   refine ⟨rfl,g3,?_⟩
   have:∀ (l:List Flaw) (a:List D),l.foldl (fun a b=>a ++ [.str b.name]) a=a ++ l.map fun b=>.str b.name:=by
     intro l
     induction l with
     | nil=>intro a; simp
     | cons b r ih=>intro a; simp [ih]
   rw [this]
theorem names_map (s:Survey):(([] ++ s.beds.map fun b=>D.str b.name) ++ s.joints.map fun b=>D.str b.name) ++ (s.flaws.map fun b=>D.str b.name)=s.names.map .str:=by
 simp [Survey.names,List.map_append,List.append_assoc,Function.comp_def]
theorem e_pNames (s:Survey)(hF:s.Fit):L.call 114 [s.enc] []=some (.ow 600000,[(600000,.row true 1 (s.names.map .str) 0 true)]):=
 call_eq rfl rfl (by
   have hb:=hF.bl; have hj:=hF.jl
   simp only [↓eA,eB,seval,c114]
   generalize hE:(lim T).loop 114003 _ _=R
   obtain ⟨X,e',H',rfl,rfl,g1,g3,rfl⟩:=Ends.at hE (lp_pn1 s hF [] (by simp) _ _ rfl rfl rfl rfl rfl ⟨rfl,rfl⟩)
   simp only [↓eA,eB,seval,g1,g3]
   generalize hE:(lim T).loop 114008 _ _=R
   obtain ⟨X,e',H',rfl,rfl,g1,g3,rfl⟩:=Ends.at hE (lp_pn2 s hF _ (by simp; omega) _ _ (by simp only [↓eA,eB,seval,g1]) (by simp only [↓eA,eB,seval,g3]) (by simp only [↓eA,eB,seval]) (by simp only [↓eA,eB,seval]) (by simp only [↓eA,eB,seval]) ⟨rfl,rfl⟩)
   simp only [↓eA,eB,seval,g1,g3]
   generalize hE:(lim T).loop 114013 _ _=R
   obtain ⟨X,e',H',rfl,rfl,g3,rfl⟩:=Ends.at hE (lp_pn3 s hF _ (by simp; omega) _ _ (by simp only [↓eA,eB,seval,g3]) (by simp only [↓eA,eB,seval]) (by simp only [↓eA,eB,seval]) (by simp only [↓eA,eB,seval]) rfl)
   simp only [↓eA,eB,seval,g3]
   rw [←names_map]
   simp only [List.nil_append])
end Tz
set_option maxRecDepth 100000
open Gs Go
namespace Tz
theorem getm {zs:List ByteArray}{i:Nat}{x:ByteArray}(h:zs[i]?=some x):(zs.map D.str)[i]?=some (D.str x):=by simp [h]
theorem lp_ci_s (xs:List ByteArray)(hb:xs.length < 4000000000)(nz dy:Bool)(K0:Nat)(hK:0 < K0)(hKn:K0 < xs.length)(hdd:dd seq (xs.take (K0 + 1))=xs.take K0)(e:Env)(H:Heap)(h0:Gs.get e 0 = .ow 500000)(h3:Gs.get e 3=int K0)(h4:Gs.get e 4 = .win 500000 K0 (xs.length - K0))(h5:Gs.get e 5=int 1)(hH:hget H 500000=some (.row nz 1 (xs.map D.str) 0 dy))(hH1:hget H 500001=none) :
   Ends T 174009 e H (fun X e' H'=>X = .ex 2∧∃ (k:Nat) (zs:List ByteArray),Gs.get e' 0 = .ow 500000∧Gs.get e' 3=int k∧zs.length=xs.length∧k≤xs.length∧zs.take k=dd seq xs∧H'=[(500000,.row nz 1 (zs.map D.str) 0 dy)]):=by
 refine (loop_upto (T:=T) (key:=174009) (li:=l174009.1) rfl (S:=Unit) (R:=Empty) (fun _ _=>.inr ()) (xs.length - K0) (fun i _ e H=>1≤i∧i≤xs.length - K0∧∃ (k:Nat) (zs:List ByteArray),Gs.get e 0 = .ow 500000∧Gs.get e 3=int k∧Gs.get e 4 = .win 500000 K0 (xs.length - K0)∧Gs.get e 5=int i∧hget H 500000=some (.row nz 1 (zs.map D.str) 0 dy)∧hget H 500001=none∧zs.length=xs.length∧k + 1≤K0 + i∧zs.take k=dd seq (xs.take (K0 + i))∧∀ j,K0 + i≤j + 1→zs[j]?=xs[j]?) (fun _ _ _ _=>False) (fun _ X e' H'=>X = .ex 2∧∃ (k:Nat) (zs:List ByteArray),Gs.get e' 0 = .ow 500000∧Gs.get e' 3=int k∧zs.length=xs.length∧k≤xs.length∧zs.take k=dd seq xs∧H'=[(500000,.row nz 1 (zs.map D.str) 0 dy)]) ?_ ?_ ?_ (xs.length - K0 - 1) 1 () e H rfl ⟨Nat.le_refl _,by omega,K0,xs,h0,h3,h4,h5,hH,hH1,rfl,by omega,by rw [hdd],fun j _=>rfl⟩).mono ?_
 · rintro i s s' e H hi ⟨hi1,hi2,k,zs,h0,h3,h4,h5,hH,hH1,hz,hk,ht,hj⟩ hf
   obtain ⟨y,hy⟩:∃ y,xs[K0 + i]?=some y:=⟨_,List.getElem?_eq_getElem (by omega)⟩
   obtain ⟨p,hp⟩:∃ p,xs[K0 + i - 1]?=some p:=⟨_,List.getElem?_eq_getElem (by omega)⟩
   have hzy:zs[K0 + i]?=some y:=by rw [hj _ (by omega)]; exact hy
   have hzp:zs[K0 + (i - 1)]?=some p:=by rw [hj _ (by omega),show K0 + (i - 1)=K0 + i - 1 by omega]; exact hp
   have hsucc:dd seq (xs.take (K0 + (i + 1)))=dd seq (xs.take (K0 + i)) ++ (bif seq y p then [] else [y]):=by
     obtain ⟨m,hm⟩:∃ m,K0 + i=m + 1:=⟨K0 + i - 1,by omega⟩
     rw [show K0 + (i + 1)=m + 2 by omega,hm]
     exact dd_take_succ seq (by rw [←hm]; exact hy) (by rw [show m=K0 + i - 1 by omega]; exact hp)
   have hil:i - 1 < xs.length - K0:=by omega
   obtain ⟨z,hzk⟩:∃ z,zs[k]?=some z:=⟨_,List.getElem?_eq_getElem (by omega)⟩
   have hkl:k < zs.length:=by omega
   cases hc:seq y p with
   | true=>
     simp only [↓eA,eB,reduceIte,Nat.reduceBEq,Int.reduceNeg,Int.reduceLT,Int.reduceLE,Int.reduceAdd,Int.reduceSub,Int.reduceMul,Int.reduceEq,Int.reduceToNat,Nat.reduceLT,Nat.reduceAdd,Nat.reduceMul,Nat.reduceSub,l174009,h0,h3,h4,h5,hH,hH1,hi,hil,getm hzy,getm hzp,wrap_pred (show 0 < i by omega) (show i < 4611686018427387904 by omega),hc,wrap_succ (show i < 4611686018427387904 by omega)]
     have hb1:zs.take k=dd seq (xs.take (K0 + (i + 1))):=by rw [hsucc,hc,ht]; simp
     refine ⟨trivial,by omega,by omega,k,zs,?_⟩
     and_intros<;>first | trivial | rfl | assumption | omega | exact fun j hj'=>hj j (by omega)
   | false=>
     simp only [↓eA,eB,reduceIte,Nat.reduceBEq,Int.reduceNeg,Int.reduceLT,Int.reduceLE,Int.reduceAdd,Int.reduceSub,Int.reduceMul,Int.reduceEq,Int.reduceToNat,Nat.reduceLT,Nat.reduceAdd,Nat.reduceMul,Nat.reduceSub,l174009,h0,h3,h4,h5,hH,hH1,hi,hil,getm hzy,getm hzp,getm hzk,hkl,wrap_pred (show 0 < i by omega) (show i < 4611686018427387904 by omega),hc,wrap_succ (show i < 4611686018427387904 by omega),wrap_succ (show k < 4611686018427387904 by omega),Nat.zero_le,beq_self_eq_true]
     have hb1:(zs.set k y).take (k + 1)=dd seq (xs.take (K0 + (i + 1))):=by
       rw [hsucc,hc,←ht]
       simp only [cond_false]
       rw [List.take_add_one,List.getElem?_set_self hkl,List.take_set_of_le (Nat.le_refl k)]
       rfl
     have hb2:(zs.set k y).length=xs.length:=by simpa using hz
     have hb3:∀ j,K0 + (i + 1)≤j + 1→(zs.set k y)[j]?=xs[j]?:=by
       intro j hj'; rw [List.getElem?_set_ne (by omega)]; exact hj j (by omega)
     refine ⟨trivial,by omega,by omega,k + 1,zs.set k y,?_⟩
     and_intros<;>first | trivial | rfl | assumption | omega | (simp [List.map_set]; done)
 · rintro i s r e H hi _ hf; cases hf
 · rintro i s e H hi ⟨hi1,hi2,k,zs,h0,h3,h4,h5,hH,hH1,hz,hk,ht,hj⟩
   have hie:i=xs.length - K0:=by omega
   subst hie
   simp only [↓eA,eB,reduceIte,Nat.reduceBEq,Int.reduceNeg,Int.reduceLT,Int.reduceLE,Int.reduceAdd,Int.reduceSub,Int.reduceMul,Int.reduceEq,Int.reduceToNat,Nat.reduceLT,Nat.reduceAdd,Nat.reduceMul,Nat.reduceSub,l174009,h0,h3,h4,h5,hH,hH1,Nat.lt_irrefl]
   have hb1:zs.take k=dd seq xs:=by rw [ht,List.take_of_length_le (by omega)]
   refine ⟨trivial,trivial,k,zs,?_⟩
   and_intros<;>first | trivial | rfl | assumption | omega
 · intro X e' H' h
   have:∀ (n i:Nat),upto (S:=Unit) (R:=Empty) (fun _ _=>.inr ()) n i () = .inr ():=by
     intro n
     induction n with
     | zero=>intro i; rfl
     | succ n ih=>intro i; simp only [upto]; exact ih (i + 1)
   rw [this] at h; exact h
abbrev adj_xs (xs:List ByteArray)(i:Nat):Bool:=match xs[i]?,xs[i - 1]? with | some y,some p=>seq y p | _,_=>false
theorem dd_stop (xs:List ByteArray)(k:Nat)(hk:k≤xs.length)(h:∀ i,1≤i→i < k→adj_xs xs i=false):dd seq (xs.take k)=xs.take k:=by
 induction k with
 | zero=>rfl
 | succ k ih=>
   cases k with
   | zero=>cases xs with
     | nil=>rfl
     | cons x r=>simp [dd,ddF]
   | succ k=>
     obtain ⟨y,hy⟩:∃ y,xs[k + 1]?=some y:=⟨_,List.getElem?_eq_getElem (by omega)⟩
     obtain ⟨p,hp⟩:∃ p,xs[k]?=some p:=⟨_,List.getElem?_eq_getElem (by omega)⟩
     have h1:=h (k + 1) (by omega) (by omega)
     have hkk:xs[k + 1 - 1]?=some p:=hp
     simp only [adj_xs,hy,hkk] at h1
     rw [dd_take_succ seq hy hp,h1,ih (by omega) fun i h1 h2=>h i h1 (by omega)]
     rw [List.take_add_one (i:=k + 1),hy]; rfl
theorem lp_co_s (xs:List ByteArray)(hb:xs.length < 4000000000)(nz dy:Bool)(h2:1 < xs.length)(e:Env)(H:Heap)(h0:Gs.get e 0 = .ow 500000)(h3:Gs.get e 3=int (1:Nat))(hH:hget H 500000=some (.row nz 1 (xs.map D.str) 0 dy))(hH1:hget H 500001=none) :
   Ends T 174004 e H (fun X e' H'=>(X = .ex 0∧Gs.get e' 0 = .ow 500000∧dd seq xs=xs∧H'=[(500000,.row nz 1 (xs.map D.str) 0 dy)])∨(X = .ret∧∃ (k:Nat) (zq:List ByteArray),k=(dd seq xs).length∧k≤xs.length∧zq.length=xs.length∧zq.take k=dd seq xs∧Gs.get e' 2 = .win 500000 0 k∧H'=[(500000,.row nz 1 (zq.map D.str) 0 dy)])):=by
 refine (loop_upto (T:=T) (key:=174004) (li:=l174004.1) rfl (S:=Unit) (R:=Unit) (fun _ k=>bif adj_xs xs k then .inl () else .inr ()) (xs.length) (fun i _ e H=>1≤i∧i≤xs.length∧Gs.get e 0 = .ow 500000∧Gs.get e 3=int i∧hget H 500000=some (.row nz 1 (xs.map D.str) 0 dy)∧hget H 500001=none∧dd seq (xs.take i)=xs.take i) (fun _ X e' H'=>X = .ret∧∃ (k:Nat) (zq:List ByteArray),k=(dd seq xs).length∧k≤xs.length∧zq.length=xs.length∧zq.take k=dd seq xs∧Gs.get e' 2 = .win 500000 0 k∧H'=[(500000,.row nz 1 (zq.map D.str) 0 dy)]) (fun _ X e' H'=>X = .ex 0∧Gs.get e' 0 = .ow 500000∧dd seq xs=xs∧H'=[(500000,.row nz 1 (xs.map D.str) 0 dy)]) ?_ ?_ ?_ (xs.length - 1) 1 () e H (by omega) ⟨Nat.le_refl _,by omega,h0,h3,hH,hH1,dd_stop xs 1 (by omega) (fun i h1 h2=>by omega)⟩).mono ?_
 · rintro i s s' e H hi ⟨hi1,hi2,h0,h3,hH,hH1,hd⟩ hf
   obtain ⟨y,hy⟩:∃ y,xs[i]?=some y:=⟨_,List.getElem?_eq_getElem (by omega)⟩
   obtain ⟨p,hp⟩:∃ p,xs[i - 1]?=some p:=⟨_,List.getElem?_eq_getElem (by omega)⟩
   simp only [adj_xs,hy,hp] at hf
   cases hc:seq y p with
   | true=>rw [hc] at hf; simp only [cond_true] at hf; cases hf
   | false=>
     have hil:i - 1 < xs.length:=by omega
     simp only [↓eA,eB,reduceIte,Nat.reduceBEq,Int.reduceNeg,Int.reduceLT,Int.reduceLE,Int.reduceAdd,Int.reduceSub,Int.reduceMul,Int.reduceEq,Int.reduceToNat,Nat.reduceLT,Nat.reduceAdd,Nat.reduceMul,Nat.reduceSub,l174004,h0,h3,hH,hH1,hi,hil,getm hy,getm hp,wrap_pred (show 0 < i by omega) (show i < 4611686018427387904 by omega),hc,wrap_succ (show i < 4611686018427387904 by omega)]
     have hb1:dd seq (xs.take (i + 1))=xs.take (i + 1):=by
       obtain ⟨m,hm⟩:∃ m,i=m + 1:=⟨i - 1,by omega⟩
       subst hm
       rw [dd_take_succ seq hy hp,hc,hd,List.take_add_one (i:=m + 1),hy]; rfl
     and_intros<;>first | trivial | rfl | assumption | omega
 · rintro i s r e H hi ⟨hi1,hi2,h0,h3,hH,hH1,hd⟩ hf
   obtain ⟨y,hy⟩:∃ y,xs[i]?=some y:=⟨_,List.getElem?_eq_getElem (by omega)⟩
   obtain ⟨p,hp⟩:∃ p,xs[i - 1]?=some p:=⟨_,List.getElem?_eq_getElem (by omega)⟩
   simp only [adj_xs,hy,hp] at hf
   cases hc:seq y p with
   | false=>rw [hc] at hf; simp only [cond_false] at hf; cases hf
   | true=>
     have hb1:dd seq (xs.take (i + 1))=xs.take i:=by
       obtain ⟨m,hm⟩:∃ m,i=m + 1:=⟨i - 1,by omega⟩
       subst hm
       rw [dd_take_succ seq hy hp,hc,hd]; simp
     have hii:i≤xs.length:=by omega
     have hil:i - 1 < xs.length:=by omega
     simp only [↓eA,eB,reduceIte,Nat.reduceBEq,Int.reduceNeg,Int.reduceLT,Int.reduceLE,Int.reduceAdd,Int.reduceSub,Int.reduceMul,Int.reduceEq,Int.reduceToNat,Nat.reduceLT,Nat.reduceAdd,Nat.reduceMul,Nat.reduceSub,l174004,h0,h3,hH,hH1,hi,hii,hil,getm hy,getm hp,wrap_pred (show 0 < i by omega) (show i < 4611686018427387904 by omega),hc,wrap_succ (show i < 4611686018427387904 by omega),Nat.le_refl]
     generalize hE:(lim T).loop 174009 _ _=R
     obtain ⟨X,e',H',rfl,rfl,k,zs,g0,g3,hz,hk,hzt,rfl⟩:=Ends.at hE (lp_ci_s xs hb nz dy i (by omega) hi hb1 _ _ (by simp only [↓eA,eB,reduceIte,Nat.reduceBEq,Int.reduceNeg,Int.reduceLT,Int.reduceLE,Int.reduceAdd,Int.reduceSub,Int.reduceMul,Int.reduceEq,Int.reduceToNat,Nat.reduceLT,Nat.reduceAdd,Nat.reduceMul,Nat.reduceSub,h0]) (by simp only [↓eA,eB,reduceIte,Nat.reduceBEq,Int.reduceNeg,Int.reduceLT,Int.reduceLE,Int.reduceAdd,Int.reduceSub,Int.reduceMul,Int.reduceEq,Int.reduceToNat,Nat.reduceLT,Nat.reduceAdd,Nat.reduceMul,Nat.reduceSub,h3]) (by simp only [↓eA,eB,reduceIte,Nat.reduceBEq,Int.reduceNeg,Int.reduceLT,Int.reduceLE,Int.reduceAdd,Int.reduceSub,Int.reduceMul,Int.reduceEq,Int.reduceToNat,Nat.reduceLT,Nat.reduceAdd,Nat.reduceMul,Nat.reduceSub,hii]) (by simp only [↓eA,eB,reduceIte,Nat.reduceBEq,Int.reduceNeg,Int.reduceLT,Int.reduceLE,Int.reduceAdd,Int.reduceSub,Int.reduceMul,Int.reduceEq,Int.reduceToNat,Nat.reduceLT,Nat.reduceAdd,Nat.reduceMul,Nat.reduceSub]) (by simp only [↓eA,eB,reduceIte,Nat.reduceBEq,Int.reduceNeg,Int.reduceLT,Int.reduceLE,Int.reduceAdd,Int.reduceSub,Int.reduceMul,Int.reduceEq,Int.reduceToNat,Nat.reduceLT,Nat.reduceAdd,Nat.reduceMul,Nat.reduceSub]) (by simp only [↓eA,eB,reduceIte,Nat.reduceBEq,Int.reduceNeg,Int.reduceLT,Int.reduceLE,Int.reduceAdd,Int.reduceSub,Int.reduceMul,Int.reduceEq,Int.reduceToNat,Nat.reduceLT,Nat.reduceAdd,Nat.reduceMul,Nat.reduceSub,hH1]))
     have hkl:k≤zs.length:=by omega
     have hkk:k + (zs.length - k)≤zs.length:=by omega
     obtain ⟨zq,hq1,hq2,hq3⟩:∃ zq:List ByteArray,zq.length=zs.length∧zq.take k=dd seq xs∧List.take k (List.map D.str zs) ++ List.replicate (zs.length - k) (D.str .empty) ++ List.drop (k + (zs.length - k)) (List.map D.str zs)=zq.map D.str:=by
       refine ⟨zs.take k ++ List.replicate (zs.length - k) .empty,by simp; omega,?_,?_⟩
       · rw [←hzt,List.take_append_of_le_length (by simp; omega),List.take_take,Nat.min_self]
       · rw [show k + (zs.length - k)=zs.length by omega]; simp [List.map_take]
     have hkq:k≤zq.length:=by omega
     have hinc:inc 0 k=true:=by simp [inc]
     simp only [↓eA,eB,reduceIte,Nat.reduceBEq,Int.reduceNeg,Int.reduceLT,Int.reduceLE,Int.reduceAdd,Int.reduceSub,Int.reduceMul,Int.reduceEq,Int.reduceToNat,Nat.reduceLT,Nat.reduceAdd,Nat.reduceMul,Nat.reduceSub,g0,g3,hkl,hkk,hq3,hkq,hinc,Nat.le_refl,Nat.zero_le,Nat.sub_zero,Nat.zero_add]
     refine ⟨trivial,trivial,k,zq,by rw [←hq2,List.length_take]; omega,by omega,by omega,hq2,?_⟩
     and_intros<;>first | trivial | rfl | assumption | omega
 · rintro i s e H hi ⟨hi1,hi2,h0,h3,hH,hH1,hd⟩
   have hie:i=xs.length:=by omega
   subst hie
   rw [List.take_length] at hd
   simp only [↓eA,eB,reduceIte,Nat.reduceBEq,Int.reduceNeg,Int.reduceLT,Int.reduceLE,Int.reduceAdd,Int.reduceSub,Int.reduceMul,Int.reduceEq,Int.reduceToNat,Nat.reduceLT,Nat.reduceAdd,Nat.reduceMul,Nat.reduceSub,l174004,h0,h3,hH,hH1,Nat.lt_irrefl]
   and_intros<;>first | trivial | rfl | assumption | omega
 · intro X e' H' h
   split at h
   · exact .inr h
   · exact .inl h
theorem lt2_b {n:Nat}(h:¬n < 2):decide ((n:Int) < 2)=false:=by simp; omega
theorem lt2_a {n:Nat}(h:n < 2):decide ((n:Int) < 2)=true:=by simp; omega
theorem e_compact_s (xs:List ByteArray)(hb:xs.length < 4000000000)(nz dy:Bool) :
   (dd seq xs=xs∧L.call 174 [.ow 500000] [(500000,.row nz 1 (xs.map D.str) 0 dy)]=some (.ow 500000,[(500000,.row nz 1 (xs.map D.str) 0 dy)]))∨
   ∃ zq:List ByteArray,zq.length=xs.length∧zq.take (dd seq xs).length=dd seq xs∧(dd seq xs).length≤xs.length∧L.call 174 [.ow 500000] [(500000,.row nz 1 (xs.map D.str) 0 dy)]=some (.win 500000 0 (dd seq xs).length,[(500000,.row nz 1 (zq.map D.str) 0 dy)]):=by
 by_cases hl:xs.length < 2
 · refine .inl ⟨?_,call_eq rfl rfl ?_⟩
   · match xs,hl with
     | [],_=>rfl
     | [x],_=>rfl
   · simp only [↓eA,eB,reduceIte,Nat.reduceBEq,Int.reduceNeg,Int.reduceLT,Int.reduceLE,Int.reduceAdd,Int.reduceSub,Int.reduceMul,Int.reduceEq,Int.reduceToNat,Nat.reduceLT,Nat.reduceAdd,Nat.reduceMul,Nat.reduceSub,c174,lt2_a hl]
 · generalize hE:(lim T).loop 174004 [(0,D.ow 500000),(2,D.fz true 1 []),(6,D.ow 500000),(7,D.int IntKind.i64 xs.length),(8,D.bool false),(3,D.int IntKind.i64 1)] [(500000,.row nz 1 (xs.map D.str) 0 dy)]=R
   obtain ⟨X,e',H',rfl,h⟩:=Ends.at hE (lp_co_s xs hb nz dy (by omega) _ _ rfl rfl rfl rfl)
   rcases h with ⟨rfl,g0,hd,rfl⟩ | ⟨rfl,k,zq,rfl,hk,hq1,hq2,g2,rfl⟩
   · refine .inl ⟨hd,call_eq rfl rfl ?_⟩
     simp only [↓eA,eB,reduceIte,Nat.reduceBEq,Int.reduceNeg,Int.reduceLT,Int.reduceLE,Int.reduceAdd,Int.reduceSub,Int.reduceMul,Int.reduceEq,Int.reduceToNat,Nat.reduceLT,Nat.reduceAdd,Nat.reduceMul,Nat.reduceSub,c174,lt2_b hl,hE,g0]
   · refine .inr ⟨zq,hq1,hq2,hk,call_eq rfl rfl ?_⟩
     simp only [↓eA,eB,reduceIte,Nat.reduceBEq,Int.reduceNeg,Int.reduceLT,Int.reduceLE,Int.reduceAdd,Int.reduceSub,Int.reduceMul,Int.reduceEq,Int.reduceToNat,Nat.reduceLT,Nat.reduceAdd,Nat.reduceMul,Nat.reduceSub,c174,lt2_b hl,hE,g2]
end Tz
set_option maxRecDepth 100000
open Gs Go
namespace Tz
def badIx {α:Type}(l:List α)(ge:α→α→Bool)(i:Nat):Bool:=match l[i - 1]?,l[i]? with
  | some a,some b=>ge a b
  | _,_=>false
def steps {α:Type}(l:List α)(ge:α→α→Bool):Bool:=(List.range' 1 (l.length - 1)).any (badIx l ge)
abbrev geBed (a b:Bed):Bool:=decide (b.z≤a.z)
abbrev geJoint (a b:Joint):Bool:=!slt a.name b.name
abbrev geFlaw (a b:Flaw):Bool:=!slt a.name b.name
abbrev Hs (s:Survey):Heap:=[(1,.box s.cells false)]
theorem lp_d1 (s:Survey)(hF:s.Fit)(e:Env)(h1:Gs.get e 1 = .ptr 1 0)(hi:Gs.get e 3=int (1:Nat)) :
   Ends T 124002 e (Hs s) (fun X e' H'=>H'=Hs s∧match steps s.beds geBed with | true=>X = .ret∧Gs.get e' 2 = .bool true | false=>X = .ex 0∧Gs.get e' 1 = .ptr 1 0):=by
 have hb:=hF.bl
 refine loop_fr (T:=T) (key:=124002) (li:=l124002.1) rfl 1 s.beds.length (badIx s.beds geBed) (Hs s) (fun k e=>Gs.get e 1 = .ptr 1 0∧Gs.get e 3=int k) (fun X e'=>X = .ret∧Gs.get e' 2 = .bool true) (fun X e'=>X = .ex 0∧Gs.get e' 1 = .ptr 1 0) ?_ ?_ e ⟨h1,hi⟩
 · rintro k e hk hlt ⟨h1,h3⟩
   obtain ⟨y,hy⟩:∃ y,s.beds[k]?=some y:=⟨_,List.getElem?_eq_getElem (by omega)⟩
   obtain ⟨p,hp⟩:∃ p,s.beds[k - 1]?=some p:=⟨_,List.getElem?_eq_getElem (by omega)⟩
   have hil:k - 1 < s.beds.length:=by omega
   have hy':(s.beds.map Bed.enc)[k]?=some y.enc:=by simp [hy]
   have hp':(s.beds.map Bed.enc)[k - 1]?=some p.enc:=by simp [hp]
   have hbd:badIx s.beds geBed k=geBed p y:=by simp only [badIx,hy,hp]
   rw [hbd]
   simp only [↓eA,eB,seval,l124002,h1,h3,hlt,hil,hy',hp',wrap_pred (show 0 < k by omega) (show k < 4611686018427387904 by omega),wrap_succ (show k < 4611686018427387904 by omega)]
   cases hc:geBed p y<;>(try simp only [Bool.not_eq_true',Bool.not_eq_false'] at hc)<;>simp only [↓eA,eB,seval,hc]<;>and_intros<;>first | trivial | rfl
 · rintro k e hk _ ⟨h1,h3⟩
   have hlt:¬ k < s.beds.length:=by omega
   simp only [↓eA,eB,seval,l124002,h1,h3,hlt]
   and_intros<;>first | trivial | rfl
theorem lp_d2 (s:Survey)(hF:s.Fit)(e:Env)(h1:Gs.get e 1 = .ptr 1 0)(hi:Gs.get e 4=int (1:Nat)) :
   Ends T 124007 e (Hs s) (fun X e' H'=>H'=Hs s∧match steps s.joints geJoint with | true=>X = .ret∧Gs.get e' 2 = .bool true | false=>X = .ex 2∧Gs.get e' 1 = .ptr 1 0):=by
 have hb:=hF.jl
 refine loop_fr (T:=T) (key:=124007) (li:=l124007.1) rfl 1 s.joints.length (badIx s.joints geJoint) (Hs s) (fun k e=>Gs.get e 1 = .ptr 1 0∧Gs.get e 4=int k) (fun X e'=>X = .ret∧Gs.get e' 2 = .bool true) (fun X e'=>X = .ex 2∧Gs.get e' 1 = .ptr 1 0) ?_ ?_ e ⟨h1,hi⟩
 · rintro k e hk hlt ⟨h1,h3⟩
   obtain ⟨y,hy⟩:∃ y,s.joints[k]?=some y:=⟨_,List.getElem?_eq_getElem (by omega)⟩
   obtain ⟨p,hp⟩:∃ p,s.joints[k - 1]?=some p:=⟨_,List.getElem?_eq_getElem (by omega)⟩
   have hil:k - 1 < s.joints.length:=by omega
   have hy':(s.joints.map Joint.enc)[k]?=some y.enc:=by simp [hy]
   have hp':(s.joints.map Joint.enc)[k - 1]?=some p.enc:=by simp [hp]
   have hbd:badIx s.joints geJoint k=geJoint p y:=by simp only [badIx,hy,hp]
   rw [hbd]
   simp only [↓eA,eB,seval,l124007,h1,h3,hlt,hil,hy',hp',wrap_pred (show 0 < k by omega) (show k < 4611686018427387904 by omega),wrap_succ (show k < 4611686018427387904 by omega)]
   cases hc:geJoint p y<;>(try simp only [Bool.not_eq_true',Bool.not_eq_false'] at hc)<;>simp only [↓eA,eB,seval,hc]<;>and_intros<;>first | trivial | rfl
 · rintro k e hk _ ⟨h1,h3⟩
   have hlt:¬ k < s.joints.length:=by omega
   simp only [↓eA,eB,seval,l124007,h1,h3,hlt]
   and_intros<;>first | trivial | rfl
theorem lp_d3 (s:Survey)(hF:s.Fit)(e:Env)(h1:Gs.get e 1 = .ptr 1 0)(hi:Gs.get e 5=int (1:Nat)) :
   Ends T 124012 e (Hs s) (fun X e' H'=>H'=Hs s∧match steps s.flaws geFlaw with | true=>X = .ret∧Gs.get e' 2 = .bool true | false=>X = .ex 4∧Gs.get e' 1 = .ptr 1 0):=by
 have hb:=hF.fl
 refine loop_fr (T:=T) (key:=124012) (li:=l124012.1) rfl 1 s.flaws.length (badIx s.flaws geFlaw) (Hs s) (fun k e=>Gs.get e 1 = .ptr 1 0∧Gs.get e 5=int k) (fun X e'=>X = .ret∧Gs.get e' 2 = .bool true) (fun X e'=>X = .ex 4∧Gs.get e' 1 = .ptr 1 0) ?_ ?_ e ⟨h1,hi⟩
 · rintro k e hk hlt ⟨h1,h3⟩
   obtain ⟨y,hy⟩:∃ y,s.flaws[k]?=some y:=⟨_,List.getElem?_eq_getElem (by omega)⟩
   obtain ⟨p,hp⟩:∃ p,s.flaws[k - 1]?=some p:=⟨_,List.getElem?_eq_getElem (by omega)⟩
   have hil:k - 1 < s.flaws.length:=by omega
   have hy':(s.flaws.map Flaw.enc)[k]?=some y.enc:=by simp [hy]
   have hp':(s.flaws.map Flaw.enc)[k - 1]?=some p.enc:=by simp [hp]
   have hbd:badIx s.flaws geFlaw k=geFlaw p y:=by simp only [badIx,hy,hp]
   rw [hbd]
   simp only [↓eA,eB,seval,l124012,h1,h3,hlt,hil,hy',hp',wrap_pred (show 0 < k by omega) (show k < 4611686018427387904 by omega),wrap_succ (show k < 4611686018427387904 by omega)]
   cases hc:geFlaw p y<;>(try simp only [Bool.not_eq_true',Bool.not_eq_false'] at hc)<;>simp only [↓eA,eB,seval,hc]<;>and_intros<;>first | trivial | rfl
 · rintro k e hk _ ⟨h1,h3⟩
   have hlt:¬ k < s.flaws.length:=by omega
   simp only [↓eA,eB,seval,l124012,h1,h3,hlt]
   and_intros<;>first | trivial | rfl
def disordered (s:Survey):Bool:=steps s.beds geBed || (steps s.joints geJoint || (steps s.flaws geFlaw || decide ((dd seq (sortB s.names)).length≠s.names.length)))
theorem strs_map:∀ l:List ByteArray,strs (l.map .str)=some l
 | []=>rfl
 | x :: r=>by simp [strs,strs_map r]
theorem e_sort (nz:Bool)(l:List ByteArray)(hb:l.length < 4611686018427387904):L.call 139 [.ow 500000] [(500000,.row nz 1 (l.map .str) 0 false)]=some (.tup [],[(500000,.row nz 1 ((sortB l).map .str) 0 false)]):=
 ext_eq (s:=sortStrX) rfl (by simp [sortStrX,hget,strs_map,hset,hb])
theorem Survey.names_length (s:Survey):s.names.length=s.beds.length + s.joints.length + s.flaws.length:=by
 simp [Survey.names]; omega
theorem e_disordered (s:Survey)(hF:s.Fit):L.call 124 [s.enc] []=some (.bool (disordered s),[]):=
 call_eq rfl rfl (by
   have hb:=hF.bl; have hj:=hF.jl; have hf:=hF.fl
   have hnl:=s.names_length
   have hsl:(sortB s.names).length=s.names.length:=(sortB_perm _).length_eq
   simp only [↓eA,eB,seval,c124]
   generalize hE:(lim T).loop 124002 _ _=R
   obtain ⟨X,e',H',rfl,rfl,h⟩:=Ends.at hE (lp_d1 s hF _ rfl rfl)
   unfold disordered
   cases h1:steps s.beds geBed with
   | true=>rw [h1] at h; obtain ⟨rfl,g2⟩:=h; simp only [↓eA,eB,seval,g2]
   | false=>
   rw [h1] at h; obtain ⟨rfl,g1⟩:=h
   simp only [↓eA,eB,seval,g1]
   generalize hE:(lim T).loop 124007 _ _=R
   obtain ⟨X,e',H',rfl,rfl,h⟩:=Ends.at hE (lp_d2 s hF _ (by simp only [↓eA,eB,seval,g1]) (by simp only [↓eA,eB,seval]))
   cases h2:steps s.joints geJoint with
   | true=>rw [h2] at h; obtain ⟨rfl,g2⟩:=h; simp only [↓eA,eB,seval,g2]
   | false=>
   rw [h2] at h; obtain ⟨rfl,g1⟩:=h
   simp only [↓eA,eB,seval,g1]
   generalize hE:(lim T).loop 124012 _ _=R
   obtain ⟨X,e',H',rfl,rfl,h⟩:=Ends.at hE (lp_d3 s hF _ (by simp only [↓eA,eB,seval,g1]) (by simp only [↓eA,eB,seval]))
   cases h3:steps s.flaws geFlaw with
   | true=>rw [h3] at h; obtain ⟨rfl,g2⟩:=h; simp only [↓eA,eB,seval,g2]
   | false=>
   rw [h3] at h; obtain ⟨rfl,g1⟩:=h
   have hsort:=e_sort true s.names (by omega)
   rcases e_compact_s (sortB s.names) (by omega) true false with ⟨hd,hcc⟩ | ⟨zq,hz1,hz2,hz3,hcc⟩
   · simp only [↓eA,eB,seval,g1,e_pNames s hF,hsort,killE_nil,hcc]
     rw [hd]; simp; omega
   · simp only [↓eA,eB,seval,g1,e_pNames s hF,hsort,killE_nil,hcc]
     simp; omega)
end Tz
set_option maxRecDepth 100000
open Gs Go
namespace Tz
abbrev far6 (n:Int):Bool:=decide (n < -1000000) || decide (1000000 < n)
theorem e_nearOne (n:Int):L.call 162 [int n] []=some (.bool (far6 n),[]):=
 call_eq rfl rfl (by simp only [↓eA,eB,seval,c162])
theorem e_near6 (nz:Bool)(l:List Int)(hb:l.length < 1000000000):L.call 111 [.fz nz 1 (l.map int)] []=some (.bool (!l.any far6),[]):=
 call_eq rfl rfl (by simp only [↓eA,eB,seval,c111,e_con_int far6 162 [] nz l hb rfl (fun x _=>e_nearOne x)])
def jbad (j:Joint):Bool:=(!decide (j.axis=0) && !decide (j.axis=1)) || decide (j.hi≤j.lo)
def fbad (f:Flaw):Bool:=decide (f.hi≤f.lo)
theorem e_chk2 (j:Joint):L.call 118 [j.enc] []=some (.bool (jbad j),[]):=
 call_eq rfl rfl (by simp only [↓eA,eB,seval,c118]; unfold jbad; cases h:decide (j.axis=0)<;>cases h1:decide (j.axis=1)<;>simp_all)
theorem e_chk3 (f:Flaw):L.call 120 [f.enc] []=some (.bool (fbad f),[]):=
 call_eq rfl rfl (by simp only [↓eA,eB,seval,c120]; rfl)
def sizeBad (s:Survey):Bool:=decide (64 < (s.beds.length:Int)) || decide (128 < (s.joints.length:Int)) || decide (64 < (s.flaws.length:Int))
abbrev Box.six (b:Box):List Int:=[b.x0,b.y0,b.z0,b.x1,b.y1,b.z1]
def surveyErr (s:Survey):Int:=
 bif sizeBad s then 7 else bif s.pit.six.any far6 then 6 else bif !s.pit.ok then 1 else bif s.names.any (fun n=>!pName n) then 4 else
 bif s.joints.any jbad || s.flaws.any fbad then 1 else
 match s.flaws.find? (fun f=>!decide (polyErr f.base=0)) with
 | some f=>polyErr f.base
 | none=>bif s.flaws.any (fun f=>!convex f.base) then 10 else bif outB s then 12 else bif disordered s then 5 else 0
theorem lp_k1 (s:Survey)(hF:s.Fit)(e:Env)(H:Heap)(h1:Gs.get e 1 = .ptr 1 0)(h70:Gs.get e 70 = .fz false 4 (s.flaws.map Flaw.enc))(h71:Gs.get e 71=int s.flaws.length)(h72:Gs.get e 72=int 0)(hH:hget H 1=some (.box s.cells false)) :
   Ends T 73013 e H (fun X e' H'=>match s.flaws.find? (fun f=>!decide (polyErr f.base=0)) with | some f=>X = .ret∧Gs.get e' 2=int (polyErr f.base) | none=>X = .ex 1∧Gs.get e' 1 = .ptr 1 0∧H'=Hs s):=by
 have hb:=hF.fl
 refine (loop_thru (T:=T) (key:=73013) (li:=l73013.1) rfl (S:=Unit) (R:=Flaw) (fun s f=>bif !decide (polyErr f.base=0) then .inl f else .inr s) s.flaws (fun i _ e H=>Gs.get e 1 = .ptr 1 0∧Gs.get e 70 = .fz false 4 (s.flaws.map Flaw.enc)∧Gs.get e 71=int s.flaws.length∧Gs.get e 72=int i∧hget H 1=some (.box s.cells false)) (fun f X e' H'=>X = .ret∧Gs.get e' 2=int (polyErr f.base)) (fun _ X e' H'=>X = .ex 1∧Gs.get e' 1 = .ptr 1 0∧H'=Hs s) ?_ ?_ ?_ s.flaws [] () e H rfl ⟨h1,h70,h71,h72,hH⟩).mono ?_
 · rintro i f u u' e H hx ⟨h1,h70,h71,h72,hH⟩ hf
   have hi:i < s.flaws.length:=(List.getElem?_eq_some_iff.1 hx).1
   have hx':(s.flaws.map Flaw.enc)[i]?=some f.enc:=by simp [hx]
   have hfb:=hF.base f (List.mem_of_getElem? hx)
   cases hp:decide (polyErr f.base=0) with
   | false=>rw [hp] at hf; cases hf
   | true=>
     simp only [↓eA,eB,seval,l73013,h1,h70,h71,h72,hH,hi,hx',e_polyCheck f.base hfb,hp,wrap_succ (show i < 4611686018427387904 by omega)]
     and_intros<;>first | trivial | rfl
 · rintro i f u r e H hx ⟨h1,h70,h71,h72,hH⟩ hf
   have hi:i < s.flaws.length:=(List.getElem?_eq_some_iff.1 hx).1
   have hx':(s.flaws.map Flaw.enc)[i]?=some f.enc:=by simp [hx]
   have hfb:=hF.base f (List.mem_of_getElem? hx)
   cases hp:decide (polyErr f.base=0) with
   | true=>rw [hp] at hf; cases hf
   | false=>
     rw [hp] at hf; injection hf with hf; subst hf
     simp only [↓eA,eB,seval,l73013,h1,h70,h71,h72,hH,hi,hx',e_polyCheck f.base hfb,hp]
     and_intros<;>first | trivial | rfl
 · rintro u e H ⟨h1,h70,h71,h72,hH⟩
   simp only [↓eA,eB,seval,l73013,h1,h70,h71,h72,hH,Nat.lt_irrefl]
   and_intros<;>first | trivial | rfl
 · intro X e' H' h
   rw [thru_find] at h
   cases hf:s.flaws.find? (fun f=>!decide (polyErr f.base=0)) with
   | none=>rw [hf] at h; exact h
   | some f=>rw [hf] at h; exact h
theorem lp_k2 (s:Survey)(hF:s.Fit)(hall:∀ f∈s.flaws,polyErr f.base=0)(e:Env)(H:Heap)(h1:Gs.get e 1 = .ptr 1 0)(h70:Gs.get e 85 = .fz false 4 (s.flaws.map Flaw.enc))(h71:Gs.get e 86=int s.flaws.length)(h72:Gs.get e 87=int 0)(hH:hget H 1=some (.box s.cells false)) :
   Ends T 73020 e H (fun X e' H'=>match s.flaws.any (fun f=>!convex f.base) with | true=>X = .ret∧Gs.get e' 2=int 10 | false=>X = .ex 3∧Gs.get e' 1 = .ptr 1 0∧H'=Hs s):=by
 have hb:=hF.fl
 refine loop_anyH (T:=T) (key:=73020) (li:=l73020.1) rfl s.flaws (fun f=>!convex f.base) (fun i e H=>Gs.get e 1 = .ptr 1 0∧Gs.get e 85 = .fz false 4 (s.flaws.map Flaw.enc)∧Gs.get e 86=int s.flaws.length∧Gs.get e 87=int i∧hget H 1=some (.box s.cells false)) (fun X e' H'=>X = .ret∧Gs.get e' 2=int 10) (fun X e' H'=>X = .ex 3∧Gs.get e' 1 = .ptr 1 0∧H'=Hs s) ?_ ?_ e H ⟨h1,h70,h71,h72,hH⟩
 · rintro i f e H hx hi ⟨h1,h70,h71,h72,hH⟩
   have hx':(s.flaws.map Flaw.enc)[i]?=some f.enc:=by simp [hx]
   have hm:=List.mem_of_getElem? hx
   have hfb:=hF.base f hm
   simp only [↓eA,eB,seval,l73020,h1,h70,h71,h72,hH,hi,hx',e_convex f.base hfb (hall f hm),wrap_succ (show i < 4611686018427387904 by omega)]
   cases hc:convex f.base<;>simp only [↓eA,eB,seval,hc]<;>and_intros<;>first | trivial | rfl
 · rintro e H ⟨h1,h70,h71,h72,hH⟩
   simp only [↓eA,eB,seval,l73020,h1,h70,h71,h72,hH,Nat.lt_irrefl]
   and_intros<;>first | trivial | rfl
theorem e_pCheck (s:Survey)(hF:s.Fit):L.call 73 [s.enc] []=some (int (surveyErr s),[]):=
 call_eq rfl rfl (by
   have hb:=hF.bl; have hj:=hF.jl; have hf:=hF.fl
   have hnl:=s.names_length
   have hnr:L.call 111 [.fz false 1 [int s.pit.x0,int s.pit.y0,int s.pit.z0,int s.pit.x1,int s.pit.y1,int s.pit.z1]] []=some (.bool (!s.pit.six.any far6),[]):=e_near6 false s.pit.six (by simp)
   unfold surveyErr
   cases hz:sizeBad s with
   | true=>have hz':=hz; simp only [sizeBad] at hz'; simp only [↓eA,eB,seval,c73,hz']
   | false=>
   have hz':=hz; simp only [sizeBad] at hz'
   have hsmall:s.names.length < 1000000000:=by
     have hz2:=hz'; simp only [Bool.or_eq_false_iff,decide_eq_false_iff_not] at hz2; omega
   cases hn:s.pit.six.any far6 with
   | true=>rw [hn] at hnr; simp only [↓eA,eB,seval,c73,hz',hnr]
   | false=>
   rw [hn] at hnr
   cases hp:s.pit.ok with
   | false=>simp only [↓eA,eB,seval,c73,hz',hnr,e_proper,hp]
   | true=>
   have hnm:L.call 113 [.fz true 1 (s.names.map .str),.fn 115 []] []=some (.bool (s.names.any fun n=>!pName n),[]):=e_con_str (fun n=>!pName n) 115 [] true s.names hsmall rfl (fun x hx=>e_notName x (hF.nm x hx))
   cases hnb:s.names.any (fun n=>!pName n) with
   | true=>rw [hnb] at hnm; simp only [↓eA,eB,seval,c73,hz',hnr,e_proper,hp,e_pNames s hF,hnm]; skip
   | false=>
   rw [hnb] at hnm
   have hjj:L.call 117 [.fz false 5 (s.joints.map Joint.enc),.fn 118 []] []=some (.bool (s.joints.any jbad),[]):=e_con_joint jbad 118 [] false s.joints hj rfl (fun x _=>e_chk2 x)
   have hff:L.call 119 [.fz false 4 (s.flaws.map Flaw.enc),.fn 120 []] []=some (.bool (s.flaws.any fbad),[]):=e_con_flaw fbad 120 [] false s.flaws hf rfl (fun x _=>e_chk3 x)
   cases hsh:(s.joints.any jbad || s.flaws.any fbad) with
   | true=>simp only [↓eA,eB,seval,c73,hz',hnr,e_proper,hp,e_pNames s hF,hnm,hjj,hff,hsh]
   | false=>
   simp only [↓eA,eB,seval,c73,hz',hnr,e_proper,hp,e_pNames s hF,hnm,hjj,hff,hsh]
   generalize hE:(lim T).loop 73013 _ _=R
   obtain ⟨X,e',H',rfl,h⟩:=Ends.at hE (lp_k1 s hF _ _ rfl rfl rfl rfl rfl)
   cases hk:s.flaws.find? (fun f=>!decide (polyErr f.base=0)) with
   | some f=>rw [hk] at h; obtain ⟨rfl,g2⟩:=h; simp only [↓eA,eB,seval,g2]
   | none=>
   rw [hk] at h; obtain ⟨rfl,g1,rfl⟩:=h
   have hall:∀ f∈s.flaws,polyErr f.base=0:=by
     intro f hm; have:=List.find?_eq_none.1 hk f hm; simpa using this
   simp only [↓eA,eB,seval,g1]
   generalize hE:(lim T).loop 73020 _ _=R
   obtain ⟨X,e',H',rfl,h⟩:=Ends.at hE (lp_k2 s hF hall _ _ (by simp only [↓eA,eB,seval,g1]) (by simp only [↓eA,eB,seval]) (by simp only [↓eA,eB,seval]) (by simp only [↓eA,eB,seval]) rfl)
   cases hc:s.flaws.any (fun f=>!convex f.base) with
   | true=>rw [hc] at h; obtain ⟨rfl,g2⟩:=h; simp only [↓eA,eB,seval,g2]
   | false=>
   rw [hc] at h; obtain ⟨rfl,g1,rfl⟩:=h
   cases ho:outB s with
   | true=>simp only [↓eA,eB,seval,g1,e_outside s hF,ho]
   | false=>
   cases hd:disordered s with
   | true=>simp only [↓eA,eB,seval,g1,e_outside s hF,ho,e_disordered s hF,hd]
   | false=>simp only [↓eA,eB,seval,g1,e_outside s hF,ho,e_disordered s hF,hd])
end Tz
set_option maxRecDepth 100000
open Gs Go
namespace Tz
end Tz
