/- part S141; part S142; part S143; part S144; part S145; part S146; part S147; no conditions. -/
import Derived.Test.YtbdcbppmgbekoaaGreatS12toS16
set_option linter.all false
set_option maxHeartbeats 2000000
set_option maxRecDepth 100000
set_option maxRecDepth 100000
open Gs Go
namespace Tz
abbrev prc (p:List Pt)(lo hi:Int):List D:=[poly p,int lo,int hi]
theorem far6_in {n:Int}(h1 : -1000000≤n)(h2:n≤1000000):far6 n=false:=by
 simp only [far6,Bool.or_eq_false_iff,decide_eq_false_iff_not]; omega
theorem lp_pc (p:List Pt)(lo hi:Int)(hl:p.length < 1000000000)(ha:AllIn p)(e:Env)(H:Heap)(h1:Gs.get e 1 = .ptr 1 0)(h25:Gs.get e 25=poly p)(h26:Gs.get e 26=int p.length)(h27:Gs.get e 27=int 0)(hH:hget H 1=some (.box (prc p lo hi) false)) :
   Ends T 116008 e H (fun X e' H'=>X = .ex 1∧e'=[(1,.ptr 1 0),(25,poly p),(26,int p.length),(27,int p.length),(28,.bool false)]∧H'=[(1,.box (prc p lo hi) false)]):=by
 have hf:p.any (fun _=>false)=false:=by rw [List.any_eq_false]; simp
 refine (loop_anyH (T:=T) (key:=116008) (li:=l116008.1) rfl p (fun _=>false) (fun i e H=>Gs.get e 1 = .ptr 1 0∧Gs.get e 25=poly p∧Gs.get e 26=int p.length∧Gs.get e 27=int i∧hget H 1=some (.box (prc p lo hi) false)) (fun X e' _=>True) (fun X e' H'=>X = .ex 1∧e'=[(1,.ptr 1 0),(25,poly p),(26,int p.length),(27,int p.length),(28,.bool false)]∧H'=[(1,.box (prc p lo hi) false)]) ?_ ?_ e H ⟨h1,h25,h26,h27,hH⟩).mono fun X e' H' h=>by rw [hf] at h; exact h
 · rintro i a e H hx hi ⟨h1,h23,h24,h25,hH⟩
   have hx':(p.map Pt.enc)[i]?=some a.enc:=by simp [hx]
   have hin:=ha a (List.mem_of_getElem? hx)
   have f1:=far6_in hin.x0 hin.x1
   have f2:=far6_in hin.y0 hin.y1
   simp only [↓eA,eB,seval,l116008,h1,h23,h24,h25,hH,hi,hx',e_prFar,f1,f2,wrap_succ (show i < 4611686018427387904 by omega)]
   and_intros<;>first | trivial | rfl
 · rintro e H ⟨h1,h23,h24,h25,hH⟩
   simp only [↓eA,eB,seval,l116008,h1,h23,h24,h25,hH,Nat.lt_irrefl]
   and_intros<;>first | trivial | rfl
structure PrOk (p:List Pt) (lo hi:Int):Prop where
 n3:3≤p.length
 n64:p.length≤64
 all:AllIn p
 l0 : -1000000≤lo
 h0:hi≤1000000
 lt:lo < hi
 cv:gconv (prs p)=true
theorem e_prCheck {p:List Pt}{lo hi:Int}(h:PrOk p lo hi):L.call 116 [.agg (prc p lo hi)] []=some (int 0,[]):=
 call_eq rfl rfl (by
   have h1:=h.n3; have h2:=h.n64; have h3:=h.l0; have h4:=h.h0; have h5:=h.lt
   have d1:decide ((p.length:Int) > 64)=false:=by rw [decide_eq_false_iff_not]; omega
   have d1':decide ((64:Int) < p.length)=false:=by rw [decide_eq_false_iff_not]; omega
   have d2:decide ((p.length:Int) < 3)=false:=by rw [decide_eq_false_iff_not]; omega
   have d3:=far6_in (n:=lo) h3 (by omega)
   have d4:=far6_in (n:=hi) (by omega) h4
   have d5:decide (hi≤lo)=false:=by rw [decide_eq_false_iff_not]; omega
   simp only [↓eA,eB,seval,c116,d1,d1',d2,e_prFar,d3,d4]
   generalize hE:(lim T).loop 116008 _ _=R
   obtain ⟨X,e',H',rfl,rfl,rfl,rfl⟩:=Ends.at hE (lp_pc p lo hi (by omega) h.all _ _ rfl rfl rfl rfl rfl)
   simp only [↓eA,eB,seval,d5,e_prConvex (show 0 < p.length by omega) (by omega) h.all,h.cv])
def rect (b:Box):List Pt:=[⟨b.x0,b.y0⟩,⟨b.x1,b.y0⟩,⟨b.x1,b.y1⟩,⟨b.x0,b.y1⟩]
theorem e_prOf (b:Box):L.call 74 [b.enc] []=some (.agg (prc (rect b) b.z0 b.z1),[]):=
 call_eq rfl rfl (by simp only [↓eA,eB,seval,c74]; rfl)
def pMeets (p:List Pt)(lo hi:Int)(q:List Pt)(l h:Int):Bool:=((decide (lo < h) && decide (l < hi)) && decide (gedge (prs p) (prs q) < 0)) && decide (gedge (prs q) (prs p) < 0)
theorem e_prMeets {p q:List Pt}{lo hi l h:Int}(h1:0 < p.length)(h2:p.length < 1000000)(ha:AllIn p)(h3:0 < q.length)(h4:q.length < 1000000)(hb:AllIn q):L.call 73 [.agg (prc p lo hi),.agg (prc q l h)] []=some (.bool (pMeets p lo hi q l h),[]):=
 call_eq rfl rfl (by
   unfold pMeets
   cases d1:decide (lo < h) with
   | false=>simp only [↓eA,eB,seval,c73,d1]
   | true=>
   cases d2:decide (l < hi) with
   | false=>simp only [↓eA,eB,seval,c73,d1,d2]
   | true=>
   cases d3:decide (gedge (prs p) (prs q) < 0) with
   | false=>simp only [↓eA,eB,seval,c73,d1,d2,e_prEdge h1 h2 ha h3 h4 hb,d3]
   | true=>simp only [↓eA,eB,seval,c73,d1,d2,e_prEdge h1 h2 ha h3 h4 hb,d3,e_prEdge h3 h4 hb h1 h2 ha])
theorem rect_in {b:Box}(h:b.six.any far6=false):AllIn (rect b):=by
 have h6:=fun n hn=>far6_no (n:=n) (by simpa using List.any_eq_false.1 h n hn)
 simp only [Box.six,List.mem_cons,List.not_mem_nil,or_false,forall_eq_or_imp,forall_eq] at h6
 intro a ha
 simp only [rect,List.mem_cons,List.not_mem_nil,or_false] at ha
 rcases ha with rfl | rfl | rfl | rfl<;>constructor<;>simp only<;>omega
theorem e_prOverlaps {p:List Pt}{lo hi:Int}(h:PrOk p lo hi){b:Box}(h6:b.six.any far6=false)(hok:b.ok=true):L.call 42 [.agg (prc p lo hi),b.enc] []=some (.tup [.bool (pMeets p lo hi (rect b) b.z0 b.z1),int 0],[]):=by
 have hb:L.call 72 [.agg (prc p lo hi),b.enc] []=some (int 0,[]):=call_eq rfl rfl (by simp only [↓eA,eB,seval,c72,e_prCheck h,e_prBoxed b h6 hok])
 have h1:=h.n3; have h2:=h.n64
 exact call_eq rfl rfl (by simp only [↓eA,eB,seval,c42,hb,e_prOf,e_prMeets (show 0 < p.length by omega) (show p.length < 1000000 by omega) h.all (show 0 < (rect b).length from Nat.zero_lt_succ _) (show (rect b).length < 1000000 by simp [rect]) (rect_in h6)])
end Tz
set_option maxHeartbeats 2000000
set_option maxRecDepth 100000
set_option maxRecDepth 100000
open Gs Go
namespace Tz
def fHit (b:Box)(f:Flaw):Bool:=pMeets f.base f.lo f.hi (rect b) b.z0 b.z1
structure FlawsOk (s:Survey) (b:Box):Prop where
 pr:∀ f∈s.flaws,PrOk f.base f.lo f.hi
 six:b.six.any far6=false
 ok:b.ok=true
def nmStep {α:Type}(hit:α→Bool)(nm:α→ByteArray)(acc:List ByteArray)(x:α):List ByteArray:=bif hit x then acc ++ [nm x] else acc
theorem nmStep_len {α:Type}(hit:α→Bool)(nm:α→ByteArray)(acc:List ByteArray)(x:α):(nmStep hit nm acc x).length≤acc.length + 1:=by
 unfold nmStep; cases hit x<;>simp
theorem nmStep_all {α:Type}(hit:α→Bool)(nm:α→ByteArray):∀ (l:List α) (acc:List ByteArray),l.foldl (nmStep hit nm) acc=acc ++ (l.filter hit).map nm
 | [],acc=>by simp
 | x :: r,acc=>by
   rw [List.foldl_cons,nmStep_all hit nm r,nmStep,List.filter_cons]
   cases hit x<;>simp
theorem lp_fl (s:Survey)(hF:s.Fit0)(b:Box)(ho:FlawsOk s b)(e:Env)(H:Heap)(h3:Gs.get e 3 = .ptr 3 0)(h8:Gs.get e 8 = .ow 1008)(h25:Gs.get e 25 = .fz false 4 (s.flaws.map Flaw.enc))(h26:Gs.get e 26=int s.flaws.length)(h27:Gs.get e 27=int 0)(hB:hget H 3=some (.box (bxc b) false))(hH:hget H 1008=some (.row true 1 [] 0 true)) :
   Ends T 16009 e H (fun X e' H'=>X = .ex 0∧Gs.get e' 8 = .ow 1008∧hget H' 1008=some (.row true 1 (((s.flaws.filter (fHit b)).map (·.name)).map .str) 0 true)):=by
 have hb:=hF.fl
 refine (loop_fold (T:=T) (key:=16009) (li:=l16009.1) rfl s.flaws (nmStep (fHit b) (·.name)) (fun i a e H=>a.length≤i∧Gs.get e 3 = .ptr 3 0∧Gs.get e 8 = .ow 1008∧Gs.get e 25 = .fz false 4 (s.flaws.map Flaw.enc)∧Gs.get e 26=int s.flaws.length∧Gs.get e 27=int i∧hget H 3=some (.box (bxc b) false)∧hget H 1008=some (.row true 1 (a.map .str) 0 true)) (fun a X e' H'=>X = .ex 0∧Gs.get e' 8 = .ow 1008∧hget H' 1008=some (.row true 1 (a.map .str) 0 true)) ?_ ?_ [] e H ⟨Nat.le_refl _,h3,h8,h25,h26,h27,hB,hH⟩).mono fun X e' H' h=>by rw [nmStep_all] at h; exact h
 · rintro i f a e H hx hi ⟨hal,h3,h8,h25,h26,h27,hB,hH⟩
   have hx':(s.flaws.map Flaw.enc)[i]?=some f.enc:=by simp [hx]
   have hpr:=e_prOverlaps (ho.pr f (List.mem_of_getElem? hx)) ho.six ho.ok
   have hsl:=nmStep_len (fHit b) (·.name) a f
   have hfit:fits (a.length + (0 + 1)) 16=true:=fits_of (by omega)
   have hfit':fits (a.length + 1) 16=true:=fits_of (by omega)
   cases hc:fHit b f with
   | true=>
     have hc':=hc; simp only [fHit] at hc'
     have hm:List.map D.str a ++ [.str f.name]=List.map D.str (nmStep (fHit b) (·.name) a f):=by simp [nmStep,hc]
     simp only [↓eA,eB,seval,l16009,h3,h8,h25,h26,h27,hB,hH,hi,hx',hpr,hc',hfit,hfit',hm,wrap_succ (show i < 4611686018427387904 by omega)]
     refine ⟨trivial,by omega,?_⟩
     and_intros<;>first | trivial | rfl
   | false=>
     have hc':=hc; simp only [fHit] at hc'
     have hm:nmStep (fHit b) (·.name) a f=a:=by simp [nmStep,hc]
     simp only [↓eA,eB,seval,l16009,h3,h8,h25,h26,h27,hB,hH,hi,hx',hpr,hc',hm,wrap_succ (show i < 4611686018427387904 by omega)]
     refine ⟨trivial,by omega,?_⟩
     and_intros<;>first | trivial | rfl
 · rintro a e H ⟨hal,h3,h8,h25,h26,h27,hB,hH⟩
   simp only [↓eA,eB,seval,l16009,h3,h8,h25,h26,h27,hB,hH,Nat.lt_irrefl]
   and_intros<;>first | trivial | rfl
def sbErr (s:Survey)(b:Box):Int:=bif decide (surveyErr s=0) then boxedErr s b else surveyErr s
def flawsR (s:Survey)(b:Box):List ByteArray:=bif decide (sbErr s b=0) then (s.flaws.filter (fHit b)).map (·.name) else []
theorem e_flaws (s:Survey)(hF:s.Fit)(b:Box)(ho:sbErr s b=0→FlawsOk s b):L.call 16 [s.enc,b.enc] []=some (.tup [.fz true 1 ((flawsR s b).map .str),int (sbErr s b)],[]):=by
 unfold flawsR
 cases h1:decide (surveyErr s=0) with
 | false=>
   have h1':sbErr s b=surveyErr s:=by simp only [sbErr,h1,cond_false]
   rw [h1',h1]
   exact call_eq rfl rfl (by simp only [↓eA,eB,seval,c16,e_pCheck s hF,h1]; rfl)
 | true=>
   have h0:=of_decide_eq_true h1
   have h1':sbErr s b=boxedErr s b:=by simp only [sbErr,h1,cond_true]
   rw [h1'] at ho ⊢
   cases h2:decide (boxedErr s b=0) with
   | false=>exact call_eq rfl rfl (by simp only [↓eA,eB,seval,c16,e_pCheck s hF,h1,e_boxed,h2]; rfl)
   | true=>
     have h02:=of_decide_eq_true h2
     exact call_eq rfl rfl (by
       simp only [↓eA,eB,seval,c16,e_pCheck s hF,h1,e_boxed,h2]
       generalize hE:(lim T).loop 16009 _ _=R
       obtain ⟨X,e',H',rfl,rfl,g8,gH⟩:=Ends.at hE (lp_fl s hF.toFit0 b (ho h02) _ _ rfl rfl rfl rfl rfl rfl rfl)
       simp only [↓eA,eB,seval,g8,gH]
       rw [h02])
end Tz
set_option maxHeartbeats 2000000
set_option maxRecDepth 100000
set_option maxRecDepth 100000
open Gs Go
namespace Tz
def bHit (b:Box)(x:Bed):Bool:=decide (b.z0 < x.z) && decide (x.z < b.z1)
def jtHit (b:Box)(j:Joint):Bool:=((decide (b.lo j.axis < j.at_) && decide (j.at_ < b.hi j.axis)) && decide (j.lo < b.z1)) && decide (b.z0 < j.hi)
theorem lp_t1 (s:Survey)(hF:s.Fit0)(b:Box)(e:Env)(H:Heap)(h2:Gs.get e 2 = .ptr 2 0)(h3:Gs.get e 3 = .ptr 3 0)(h8:Gs.get e 8 = .ow 1008)(h25:Gs.get e 27 = .fz false 2 (s.beds.map Bed.enc))(h26:Gs.get e 28=int s.beds.length)(h27:Gs.get e 29=int 0)(hS:hget H 2=some (.box s.cells false))(hB:hget H 3=some (.box (bxc b) false))(hH:hget H 1008=some (.row true 1 [] 0 true)) :
   Ends T 15009 e H (fun X e' H'=>X = .ex 0∧Gs.get e' 2 = .ptr 2 0∧Gs.get e' 3 = .ptr 3 0∧Gs.get e' 8 = .ow 1008∧H'=[(2,.box s.cells false),(3,.box (bxc b) false),(1008,.row true 1 (((s.beds.filter (bHit b)).map (·.name)).map .str) 0 true)]):=by
 have hb:=hF.bl
 refine (loop_fold (T:=T) (key:=15009) (li:=l15009.1) rfl s.beds (nmStep (bHit b) (·.name)) (fun i a e H=>a.length≤i∧Gs.get e 2 = .ptr 2 0∧Gs.get e 3 = .ptr 3 0∧Gs.get e 8 = .ow 1008∧Gs.get e 27 = .fz false 2 (s.beds.map Bed.enc)∧Gs.get e 28=int s.beds.length∧Gs.get e 29=int i∧hget H 2=some (.box s.cells false)∧hget H 3=some (.box (bxc b) false)∧hget H 1008=some (.row true 1 (a.map .str) 0 true)) (fun a X e' H'=>X = .ex 0∧Gs.get e' 2 = .ptr 2 0∧Gs.get e' 3 = .ptr 3 0∧Gs.get e' 8 = .ow 1008∧H'=[(2,.box s.cells false),(3,.box (bxc b) false),(1008,.row true 1 (a.map .str) 0 true)]) ?_ ?_ [] e H ⟨Nat.le_refl _,h2,h3,h8,h25,h26,h27,hS,hB,hH⟩).mono fun X e' H' h=>by rw [nmStep_all] at h; exact h
 · rintro i f a e H hx hi ⟨hal,h2,h3,h8,h25,h26,h27,hS,hB,hH⟩
   have hx':(s.beds.map Bed.enc)[i]?=some f.enc:=by simp [hx]
   have hsl:=nmStep_len (bHit b) (·.name) a f
   have hfit:fits (a.length + (0 + 1)) 16=true:=fits_of (by omega)
   have hfit':fits (a.length + 1) 16=true:=fits_of (by omega)
   cases hc:bHit b f with
   | true=>
     have hc':=hc; simp only [bHit,Bool.and_eq_true] at hc'
     have hm:List.map D.str a ++ [.str f.name]=List.map D.str (nmStep (bHit b) (·.name) a f):=by simp [nmStep,hc]
     simp only [↓eA,eB,seval,l15009,h2,h3,h8,h25,h26,h27,hS,hB,hH,hi,hx',hc'.1,hc'.2,hfit,hfit',hm,wrap_succ (show i < 4611686018427387904 by omega)]
     refine ⟨trivial,by omega,?_⟩
     and_intros<;>first | trivial | rfl
   | false=>
     have hm:nmStep (bHit b) (·.name) a f=a:=by simp [nmStep,hc]
     have hc':=hc; simp only [bHit] at hc'
     cases d1:decide (b.z0 < f.z)<;>rw [d1] at hc'<;>simp only [Bool.true_and,Bool.false_and] at hc' <;>
     simp only [↓eA,eB,seval,l15009,h2,h3,h8,h25,h26,h27,hS,hB,hH,hi,hx',d1,hc',hm,wrap_succ (show i < 4611686018427387904 by omega)] <;>
     refine ⟨trivial,by omega,?_⟩ <;>
     and_intros<;>first | trivial | rfl
 · rintro a e H ⟨hal,h2,h3,h8,h25,h26,h27,hS,hB,hH⟩
   simp only [↓eA,eB,seval,l15009,h2,h3,h8,h25,h26,h27,hS,hB,hH,Nat.lt_irrefl]
   and_intros<;>first | trivial | rfl
theorem lp_t2 (s:Survey)(hF:s.Fit0)(b:Box)(acc:List ByteArray)(hacc:acc.length≤1000000000)(e:Env)(H:Heap)(h3:Gs.get e 3 = .ptr 3 0)(h8:Gs.get e 8 = .ow 1008)(h25:Gs.get e 54 = .fz false 5 (s.joints.map Joint.enc))(h26:Gs.get e 55=int s.joints.length)(h27:Gs.get e 56=int 0)(hB:hget H 3=some (.box (bxc b) false))(hH:hget H 1008=some (.row true 1 (acc.map .str) 0 true)) :
   Ends T 15015 e H (fun X e' H'=>X = .ex 2∧e'=[(3,.ptr 3 0),(8,.ow 1008),(54,.fz false 5 (s.joints.map Joint.enc)),(55,int s.joints.length),(56,int s.joints.length),(57,.bool false)]∧H'=[(3,.box (bxc b) false),(1008,.row true 1 ((acc ++ (s.joints.filter (jtHit b)).map (·.name)).map .str) 0 true)]):=by
 have hb:=hF.jl
 refine (loop_fold (T:=T) (key:=15015) (li:=l15015.1) rfl s.joints (nmStep (jtHit b) (·.name)) (fun i a e H=>a.length≤acc.length + i∧Gs.get e 3 = .ptr 3 0∧Gs.get e 8 = .ow 1008∧Gs.get e 54 = .fz false 5 (s.joints.map Joint.enc)∧Gs.get e 55=int s.joints.length∧Gs.get e 56=int i∧hget H 3=some (.box (bxc b) false)∧hget H 1008=some (.row true 1 (a.map .str) 0 true)) (fun a X e' H'=>X = .ex 2∧e'=[(3,.ptr 3 0),(8,.ow 1008),(54,.fz false 5 (s.joints.map Joint.enc)),(55,int s.joints.length),(56,int s.joints.length),(57,.bool false)]∧H'=[(3,.box (bxc b) false),(1008,.row true 1 (a.map .str) 0 true)]) ?_ ?_ acc e H ⟨Nat.le_refl _,h3,h8,h25,h26,h27,hB,hH⟩).mono fun X e' H' h=>by rw [nmStep_all] at h; exact h
 · rintro i f a e H hx hi ⟨hal,h3,h8,h25,h26,h27,hB,hH⟩
   have hx':(s.joints.map Joint.enc)[i]?=some f.enc:=by simp [hx]
   have hsl:=nmStep_len (jtHit b) (·.name) a f
   have hfit:fits (a.length + (0 + 1)) 16=true:=fits_of (by omega)
   have hfit':fits (a.length + 1) 16=true:=fits_of (by omega)
   cases hc:jtHit b f with
   | true=>
     have hc':=hc; simp only [jtHit,Bool.and_eq_true] at hc'
     have hm:List.map D.str a ++ [.str f.name]=List.map D.str (nmStep (jtHit b) (·.name) a f):=by simp [nmStep,hc]
     simp only [↓eA,eB,seval,l15015,h3,h8,h25,h26,h27,hB,hH,hi,hx',e_ends b f.axis,hc'.1.1.1,hc'.1.1.2,hc'.1.2,hc'.2,hfit,hfit',hm,wrap_succ (show i < 4611686018427387904 by omega)]
     refine ⟨trivial,by omega,?_⟩
     and_intros<;>first | trivial | rfl
   | false=>
     have hm:nmStep (jtHit b) (·.name) a f=a:=by simp [nmStep,hc]
     have hc':=hc; simp only [jtHit] at hc'
     cases d1:decide (b.lo f.axis < f.at_)<;>cases d2:decide (f.at_ < b.hi f.axis)<;>cases d3:decide (f.lo < b.z1)<;>rw [d1,d2,d3] at hc'<;>simp only [Bool.true_and,Bool.false_and] at hc' <;>
     simp only [↓eA,eB,seval,l15015,h3,h8,h25,h26,h27,hB,hH,hi,hx',e_ends b f.axis,d1,d2,d3,hc',hm,wrap_succ (show i < 4611686018427387904 by omega)] <;>
     refine ⟨trivial,by omega,?_⟩ <;>
     and_intros<;>first | trivial | rfl
 · rintro a e H ⟨hal,h3,h8,h25,h26,h27,hB,hH⟩
   simp only [↓eA,eB,seval,l15015,h3,h8,h25,h26,h27,hB,hH,Nat.lt_irrefl]
   and_intros<;>first | trivial | rfl
def thrL (s:Survey)(b:Box):List ByteArray:=(s.beds.filter (bHit b)).map (·.name) ++ (s.joints.filter (jtHit b)).map (·.name)
theorem thrL_len (s:Survey)(b:Box):(thrL s b).length≤s.beds.length + s.joints.length:=by
 have h1:=List.length_filter_le (bHit b) s.beds
 have h2:=List.length_filter_le (jtHit b) s.joints
 simp [thrL]; omega
def thrR (s:Survey)(b:Box):List ByteArray:=bif decide (sbErr s b=0) then sortB (thrL s b) else []
theorem e_through (s:Survey)(hF:s.Fit)(b:Box):L.call 15 [s.enc,b.enc] []=some (.tup [.fz true 1 ((thrR s b).map .str),int (sbErr s b)],[]):=by
 unfold thrR
 have hb:=hF.bl; have hj:=hF.jl
 cases h1:decide (surveyErr s=0) with
 | false=>
   have h1':sbErr s b=surveyErr s:=by simp only [sbErr,h1,cond_false]
   rw [h1',h1]
   exact call_eq rfl rfl (by simp only [↓eA,eB,seval,c15,e_pCheck s hF,h1]; rfl)
 | true=>
   have h1':sbErr s b=boxedErr s b:=by simp only [sbErr,h1,cond_true]
   rw [h1']
   cases h2:decide (boxedErr s b=0) with
   | false=>exact call_eq rfl rfl (by simp only [↓eA,eB,seval,c15,e_pCheck s hF,h1,e_boxed,h2]; rfl)
   | true=>
     have h02:=of_decide_eq_true h2
     exact call_eq rfl rfl (by
       simp only [↓eA,eB,seval,c15,e_pCheck s hF,h1,e_boxed,h2]
       generalize hE:(lim T).loop 15009 _ _=R
       obtain ⟨X,e',H',rfl,rfl,g2,g3,g8,rfl⟩:=Ends.at hE (lp_t1 s hF.toFit0 b _ _ rfl rfl rfl rfl rfl rfl rfl rfl rfl)
       simp only [↓eA,eB,seval,g2,g3,g8]
       generalize hE:(lim T).loop 15015 _ _=R
       obtain ⟨X,e',H',rfl,rfl,rfl,rfl⟩:=Ends.at hE (lp_t2 s hF.toFit0 b _ (by have:=List.length_filter_le (bHit b) s.beds; simp; omega) _ _ (by simp only [↓eA,eB,seval,g3]) (by simp only [↓eA,eB,seval,g8]) (by simp only [↓eA,eB,seval]) (by simp only [↓eA,eB,seval]) (by simp only [↓eA,eB,seval]) rfl rfl)
       have hs:=e_sort true (thrL s b) (by have:=thrL_len s b; omega)
       unfold thrL at hs
       simp only [↓eA,eB,seval,hs]
       rw [h02]; rfl)
end Tz
set_option maxHeartbeats 2000000
set_option maxRecDepth 100000
set_option maxRecDepth 100000
open Gs Go
namespace Tz
abbrev strL (l:List ByteArray):List D:=l.map .str
end Tz
set_option maxHeartbeats 2000000
set_option maxRecDepth 100000
set_option maxRecDepth 100000
open Gs Go
namespace Tz
end Tz
set_option maxHeartbeats 2000000
set_option maxRecDepth 100000
set_option maxRecDepth 100000
open Gs Go
namespace Tz
end Tz
set_option maxHeartbeats 2000000
set_option maxRecDepth 100000
set_option maxRecDepth 100000
open Gs Go
namespace Tz
end Tz
