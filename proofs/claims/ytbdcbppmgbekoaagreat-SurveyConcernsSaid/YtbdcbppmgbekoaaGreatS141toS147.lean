/- part S141; part S142; part S143; part S144; part S145; part S146; part S147; no conditions. -/
import Derived.Test.YtbdcbppmgbekoaaGreatS12toS16
set_option linter.all false
set_option maxHeartbeats 2000000
set_option maxRecDepth 100000
set_option maxRecDepth 100000
open Gs Go
namespace Tz
abbrev prc (p:List Pt)(lo hi:Int):List D:=[poly p,int lo,int hi]
theorem far6_in {n:Int}(h1 : -1000000≤n)(h2:n≤1000000):far6 n=false:=by
 simp only [far6,Bool.or_eq_false_iff,decide_eq_false_iff_not]; omega
theorem lp_pc (p:List Pt)(lo hi:Int)(hl:p.length < 1000000000)(ha:AllIn p)(e:Env)(H:Heap)(h1:Gs.get e 1 = .ptr 1 0)(h25:Gs.get e 25=poly p)(h26:Gs.get e 26=int p.length)(h27:Gs.get e 27=int 0)(hH:hget H 1=some (.box (prc p lo hi) false)) :
   Ends T 116008 e H (fun X e' H'=>X = .ex 1∧e'=[(1,.ptr 1 0),(25,poly p),(26,int p.length),(27,int p.length),(28,.bool false)]∧H'=[(1,.box (prc p lo hi) false)]):=by
 have hf:p.any (fun _=>false)=false:=by rw [List.any_eq_false]; simp
 refine (loop_anyH (T:=T) (key:=116008) (li:=l116008.1) rfl p (fun _=>false) (fun i e H=>Gs.get e 1 = .ptr 1 0∧Gs.get e 25=poly p∧Gs.get e 26=int p.length∧Gs.get e 27=int i∧hget H 1=some (.box (prc p lo hi) false)) (fun X e' _=>True) (fun X e' H'=>X = .ex 1∧e'=[(1,.ptr 1 0),(25,poly p),(26,int p.length),(27,int p.length),(28,.bool false)]∧H'=[(1,.box (prc p lo hi) false)]) ?_ ?_ e H ⟨h1,h25,h26,h27,hH⟩).mono fun X e' H' h=>by rw [hf] at h; exact h
 · rintro i a e H hx hi ⟨h1,h23,h24,h25,hH⟩
   have hx':(p.map Pt.enc)[i]?=some a.enc:=by simp [hx]
   have hin:=ha a (List.mem_of_getElem? hx)
   have f1:=far6_in hin.x0 hin.x1
   have f2:=far6_in hin.y0 hin.y1
   simp only [↓eA,eB,seval,l116008,h1,h23,h24,h25,hH,hi,hx',e_prFar,f1,f2,wrap_succ (show i < 4611686018427387904 by omega)]
   and_intros<;>first | trivial | rfl
 · rintro e H ⟨h1,h23,h24,h25,hH⟩
   simp only [↓eA,eB,seval,l116008,h1,h23,h24,h25,hH,Nat.lt_irrefl]
   and_intros<;>first | trivial | rfl
structure PrOk (p:List Pt) (lo hi:Int):Prop where
 n3:3≤p.length
 n64:p.length≤64
 all:AllIn p
 l0 : -1000000≤lo
 h0:hi≤1000000
 lt:lo < hi
 cv:gconv (prs p)=true
theorem e_prCheck {p:List Pt}{lo hi:Int}(h:PrOk p lo hi):L.call 116 [.agg (prc p lo hi)] []=some (int 0,[]):=
 call_eq rfl rfl (by
   have h1:=h.n3; have h2:=h.n64; have h3:=h.l0; have h4:=h.h0; have h5:=h.lt
   have d1:decide ((p.length:Int) > 64)=false:=by rw [decide_eq_false_iff_not]; omega
   have d1':decide ((64:Int) < p.length)=false:=by rw [decide_eq_false_iff_not]; omega
   have d2:decide ((p.length:Int) < 3)=false:=by rw [decide_eq_false_iff_not]; omega
   have d3:=far6_in (n:=lo) h3 (by omega)
   have d4:=far6_in (n:=hi) (by omega) h4
   have d5:decide (hi≤lo)=false:=by rw [decide_eq_false_iff_not]; omega
   simp only [↓eA,eB,seval,c116,d1,d1',d2,e_prFar,d3,d4]
   generalize hE:(lim T).loop 116008 _ _=R
   obtain ⟨X,e',H',rfl,rfl,rfl,rfl⟩:=Ends.at hE (lp_pc p lo hi (by omega) h.all _ _ rfl rfl rfl rfl rfl)
   simp only [↓eA,eB,seval,d5,e_prConvex (show 0 < p.length by omega) (by omega) h.all,h.cv])
def rect (b:Box):List Pt:=[⟨b.x0,b.y0⟩,⟨b.x1,b.y0⟩,⟨b.x1,b.y1⟩,⟨b.x0,b.y1⟩]
theorem e_prOf (b:Box):L.call 74 [b.enc] []=some (.agg (prc (rect b) b.z0 b.z1),[]):=
 call_eq rfl rfl (by simp only [↓eA,eB,seval,c74]; rfl)
def pMeets (p:List Pt)(lo hi:Int)(q:List Pt)(l h:Int):Bool:=((decide (lo < h) && decide (l < hi)) && decide (gedge (prs p) (prs q) < 0)) && decide (gedge (prs q) (prs p) < 0)
theorem e_prMeets {p q:List Pt}{lo hi l h:Int}(h1:0 < p.length)(h2:p.length < 1000000)(ha:AllIn p)(h3:0 < q.length)(h4:q.length < 1000000)(hb:AllIn q):L.call 73 [.agg (prc p lo hi),.agg (prc q l h)] []=some (.bool (pMeets p lo hi q l h),[]):=
 call_eq rfl rfl (by
   unfold pMeets
   cases d1:decide (lo < h) with
   | false=>simp only [↓eA,eB,seval,c73,d1]
   | true=>
   cases d2:decide (l < hi) with
   | false=>simp only [↓eA,eB,seval,c73,d1,d2]
   | true=>
   cases d3:decide (gedge (prs p) (prs q) < 0) with
   | false=>simp only [↓eA,eB,seval,c73,d1,d2,e_prEdge h1 h2 ha h3 h4 hb,d3]
   | true=>simp only [↓eA,eB,seval,c73,d1,d2,e_prEdge h1 h2 ha h3 h4 hb,d3,e_prEdge h3 h4 hb h1 h2 ha])
theorem rect_in {b:Box}(h:b.six.any far6=false):AllIn (rect b):=by
 have h6:=fun n hn=>far6_no (n:=n) (by simpa using List.any_eq_false.1 h n hn)
 simp only [Box.six,List.mem_cons,List.not_mem_nil,or_false,forall_eq_or_imp,forall_eq] at h6
 intro a ha
 simp only [rect,List.mem_cons,List.not_mem_nil,or_false] at ha
 rcases ha with rfl | rfl | rfl | rfl<;>constructor<;>simp only<;>omega
theorem e_prOverlaps {p:List Pt}{lo hi:Int}(h:PrOk p lo hi){b:Box}(h6:b.six.any far6=false)(hok:b.ok=true):L.call 42 [.agg (prc p lo hi),b.enc] []=some (.tup [.bool (pMeets p lo hi (rect b) b.z0 b.z1),int 0],[]):=by
 have hb:L.call 72 [.agg (prc p lo hi),b.enc] []=some (int 0,[]):=call_eq rfl rfl (by simp only [↓eA,eB,seval,c72,e_prCheck h,e_prBoxed b h6 hok])
 have h1:=h.n3; have h2:=h.n64
 exact call_eq rfl rfl (by simp only [↓eA,eB,seval,c42,hb,e_prOf,e_prMeets (show 0 < p.length by omega) (show p.length < 1000000 by omega) h.all (show 0 < (rect b).length from Nat.zero_lt_succ _) (show (rect b).length < 1000000 by simp [rect]) (rect_in h6)])
end Tz
set_option maxHeartbeats 2000000
set_option maxRecDepth 100000
set_option maxRecDepth 100000
open Gs Go
namespace Tz
theorem e_bd1 (z:Int)(b:Bed):L.call 44 [b.enc,.fp [int z] 0] []=some (.bool (decide (b.z=z)),[]):=call_eq rfl rfl (by simp only [↓eA,eB,seval,c44])
theorem e_bedded (s:Survey)(hF:s.Fit0)(z:Int):L.call 17 [s.enc,int z] []=some (.bool (s.beds.any fun b=>decide (b.z=z)),[]):=
 call_eq rfl rfl (by
   have hb:=hF.bl
   simp only [↓eA,eB,seval,c17,e_con_bed (fun b=>decide (b.z=z)) 44 [.fp [int z] 0] false s.beds hb rfl (fun x _=>e_bd1 z x)])
def fHit (b:Box)(f:Flaw):Bool:=pMeets f.base f.lo f.hi (rect b) b.z0 b.z1
structure FlawsOk (s:Survey) (b:Box):Prop where
 pr:∀ f∈s.flaws,PrOk f.base f.lo f.hi
 six:b.six.any far6=false
 ok:b.ok=true
def nmStep {α:Type}(hit:α→Bool)(nm:α→ByteArray)(acc:List ByteArray)(x:α):List ByteArray:=bif hit x then acc ++ [nm x] else acc
theorem nmStep_len {α:Type}(hit:α→Bool)(nm:α→ByteArray)(acc:List ByteArray)(x:α):(nmStep hit nm acc x).length≤acc.length + 1:=by
 unfold nmStep; cases hit x<;>simp
theorem nmStep_all {α:Type}(hit:α→Bool)(nm:α→ByteArray):∀ (l:List α) (acc:List ByteArray),l.foldl (nmStep hit nm) acc=acc ++ (l.filter hit).map nm
 | [],acc=>by simp
 | x :: r,acc=>by
   rw [List.foldl_cons,nmStep_all hit nm r,nmStep,List.filter_cons]
   cases hit x<;>simp
theorem lp_fl (s:Survey)(hF:s.Fit0)(b:Box)(ho:FlawsOk s b)(e:Env)(H:Heap)(h3:Gs.get e 3 = .ptr 3 0)(h8:Gs.get e 8 = .ow 1008)(h25:Gs.get e 25 = .fz false 4 (s.flaws.map Flaw.enc))(h26:Gs.get e 26=int s.flaws.length)(h27:Gs.get e 27=int 0)(hB:hget H 3=some (.box (bxc b) false))(hH:hget H 1008=some (.row true 1 [] 0 true)) :
   Ends T 16009 e H (fun X e' H'=>X = .ex 0∧Gs.get e' 8 = .ow 1008∧hget H' 1008=some (.row true 1 (((s.flaws.filter (fHit b)).map (·.name)).map .str) 0 true)):=by
 have hb:=hF.fl
 refine (loop_fold (T:=T) (key:=16009) (li:=l16009.1) rfl s.flaws (nmStep (fHit b) (·.name)) (fun i a e H=>a.length≤i∧Gs.get e 3 = .ptr 3 0∧Gs.get e 8 = .ow 1008∧Gs.get e 25 = .fz false 4 (s.flaws.map Flaw.enc)∧Gs.get e 26=int s.flaws.length∧Gs.get e 27=int i∧hget H 3=some (.box (bxc b) false)∧hget H 1008=some (.row true 1 (a.map .str) 0 true)) (fun a X e' H'=>X = .ex 0∧Gs.get e' 8 = .ow 1008∧hget H' 1008=some (.row true 1 (a.map .str) 0 true)) ?_ ?_ [] e H ⟨Nat.le_refl _,h3,h8,h25,h26,h27,hB,hH⟩).mono fun X e' H' h=>by rw [nmStep_all] at h; exact h
 · rintro i f a e H hx hi ⟨hal,h3,h8,h25,h26,h27,hB,hH⟩
   have hx':(s.flaws.map Flaw.enc)[i]?=some f.enc:=by simp [hx]
   have hpr:=e_prOverlaps (ho.pr f (List.mem_of_getElem? hx)) ho.six ho.ok
   have hsl:=nmStep_len (fHit b) (·.name) a f
   have hfit:fits (a.length + (0 + 1)) 16=true:=fits_of (by omega)
   have hfit':fits (a.length + 1) 16=true:=fits_of (by omega)
   cases hc:fHit b f with
   | true=>
     have hc':=hc; simp only [fHit] at hc'
     have hm:List.map D.str a ++ [.str f.name]=List.map D.str (nmStep (fHit b) (·.name) a f):=by simp [nmStep,hc]
     simp only [↓eA,eB,seval,l16009,h3,h8,h25,h26,h27,hB,hH,hi,hx',hpr,hc',hfit,hfit',hm,wrap_succ (show i < 4611686018427387904 by omega)]
     refine ⟨trivial,by omega,?_⟩
     and_intros<;>first | trivial | rfl
   | false=>
     have hc':=hc; simp only [fHit] at hc'
     have hm:nmStep (fHit b) (·.name) a f=a:=by simp [nmStep,hc]
     simp only [↓eA,eB,seval,l16009,h3,h8,h25,h26,h27,hB,hH,hi,hx',hpr,hc',hm,wrap_succ (show i < 4611686018427387904 by omega)]
     refine ⟨trivial,by omega,?_⟩
     and_intros<;>first | trivial | rfl
 · rintro a e H ⟨hal,h3,h8,h25,h26,h27,hB,hH⟩
   simp only [↓eA,eB,seval,l16009,h3,h8,h25,h26,h27,hB,hH,Nat.lt_irrefl]
   and_intros<;>first | trivial | rfl
def sbErr (s:Survey)(b:Box):Int:=bif decide (surveyErr s=0) then boxedErr s b else surveyErr s
def flawsR (s:Survey)(b:Box):List ByteArray:=bif decide (sbErr s b=0) then (s.flaws.filter (fHit b)).map (·.name) else []
theorem e_flaws (s:Survey)(hF:s.Fit)(b:Box)(ho:sbErr s b=0→FlawsOk s b):L.call 16 [s.enc,b.enc] []=some (.tup [.fz true 1 ((flawsR s b).map .str),int (sbErr s b)],[]):=by
 unfold flawsR
 cases h1:decide (surveyErr s=0) with
 | false=>
   have h1':sbErr s b=surveyErr s:=by simp only [sbErr,h1,cond_false]
   rw [h1',h1]
   exact call_eq rfl rfl (by simp only [↓eA,eB,seval,c16,e_pCheck s hF,h1]; rfl)
 | true=>
   have h0:=of_decide_eq_true h1
   have h1':sbErr s b=boxedErr s b:=by simp only [sbErr,h1,cond_true]
   rw [h1'] at ho ⊢
   cases h2:decide (boxedErr s b=0) with
   | false=>exact call_eq rfl rfl (by simp only [↓eA,eB,seval,c16,e_pCheck s hF,h1,e_boxed,h2]; rfl)
   | true=>
     have h02:=of_decide_eq_true h2
     exact call_eq rfl rfl (by
       simp only [↓eA,eB,seval,c16,e_pCheck s hF,h1,e_boxed,h2]
       generalize hE:(lim T).loop 16009 _ _=R
       obtain ⟨X,e',H',rfl,rfl,g8,gH⟩:=Ends.at hE (lp_fl s hF.toFit0 b (ho h02) _ _ rfl rfl rfl rfl rfl rfl rfl)
       simp only [↓eA,eB,seval,g8,gH]
       rw [h02])
end Tz
set_option maxHeartbeats 2000000
set_option maxRecDepth 100000
set_option maxRecDepth 100000
open Gs Go
namespace Tz
def bHit (b:Box)(x:Bed):Bool:=decide (b.z0 < x.z) && decide (x.z < b.z1)
def jtHit (b:Box)(j:Joint):Bool:=((decide (b.lo j.axis < j.at_) && decide (j.at_ < b.hi j.axis)) && decide (j.lo < b.z1)) && decide (b.z0 < j.hi)
theorem lp_t1 (s:Survey)(hF:s.Fit0)(b:Box)(e:Env)(H:Heap)(h2:Gs.get e 2 = .ptr 2 0)(h3:Gs.get e 3 = .ptr 3 0)(h8:Gs.get e 8 = .ow 1008)(h25:Gs.get e 27 = .fz false 2 (s.beds.map Bed.enc))(h26:Gs.get e 28=int s.beds.length)(h27:Gs.get e 29=int 0)(hS:hget H 2=some (.box s.cells false))(hB:hget H 3=some (.box (bxc b) false))(hH:hget H 1008=some (.row true 1 [] 0 true)) :
   Ends T 15009 e H (fun X e' H'=>X = .ex 0∧Gs.get e' 2 = .ptr 2 0∧Gs.get e' 3 = .ptr 3 0∧Gs.get e' 8 = .ow 1008∧H'=[(2,.box s.cells false),(3,.box (bxc b) false),(1008,.row true 1 (((s.beds.filter (bHit b)).map (·.name)).map .str) 0 true)]):=by
 have hb:=hF.bl
 refine (loop_fold (T:=T) (key:=15009) (li:=l15009.1) rfl s.beds (nmStep (bHit b) (·.name)) (fun i a e H=>a.length≤i∧Gs.get e 2 = .ptr 2 0∧Gs.get e 3 = .ptr 3 0∧Gs.get e 8 = .ow 1008∧Gs.get e 27 = .fz false 2 (s.beds.map Bed.enc)∧Gs.get e 28=int s.beds.length∧Gs.get e 29=int i∧hget H 2=some (.box s.cells false)∧hget H 3=some (.box (bxc b) false)∧hget H 1008=some (.row true 1 (a.map .str) 0 true)) (fun a X e' H'=>X = .ex 0∧Gs.get e' 2 = .ptr 2 0∧Gs.get e' 3 = .ptr 3 0∧Gs.get e' 8 = .ow 1008∧H'=[(2,.box s.cells false),(3,.box (bxc b) false),(1008,.row true 1 (a.map .str) 0 true)]) ?_ ?_ [] e H ⟨Nat.le_refl _,h2,h3,h8,h25,h26,h27,hS,hB,hH⟩).mono fun X e' H' h=>by rw [nmStep_all] at h; exact h
 · rintro i f a e H hx hi ⟨hal,h2,h3,h8,h25,h26,h27,hS,hB,hH⟩
   have hx':(s.beds.map Bed.enc)[i]?=some f.enc:=by simp [hx]
   have hsl:=nmStep_len (bHit b) (·.name) a f
   have hfit:fits (a.length + (0 + 1)) 16=true:=fits_of (by omega)
   have hfit':fits (a.length + 1) 16=true:=fits_of (by omega)
   cases hc:bHit b f with
   | true=>
     have hc':=hc; simp only [bHit,Bool.and_eq_true] at hc'
     have hm:List.map D.str a ++ [.str f.name]=List.map D.str (nmStep (bHit b) (·.name) a f):=by simp [nmStep,hc]
     simp only [↓eA,eB,seval,l15009,h2,h3,h8,h25,h26,h27,hS,hB,hH,hi,hx',hc'.1,hc'.2,hfit,hfit',hm,wrap_succ (show i < 4611686018427387904 by omega)]
     refine ⟨trivial,by omega,?_⟩
     and_intros<;>first | trivial | rfl
   | false=>
     have hm:nmStep (bHit b) (·.name) a f=a:=by simp [nmStep,hc]
     have hc':=hc; simp only [bHit] at hc'
     cases d1:decide (b.z0 < f.z)<;>rw [d1] at hc'<;>simp only [Bool.true_and,Bool.false_and] at hc' <;>
     simp only [↓eA,eB,seval,l15009,h2,h3,h8,h25,h26,h27,hS,hB,hH,hi,hx',d1,hc',hm,wrap_succ (show i < 4611686018427387904 by omega)] <;>
     refine ⟨trivial,by omega,?_⟩ <;>
     and_intros<;>first | trivial | rfl
 · rintro a e H ⟨hal,h2,h3,h8,h25,h26,h27,hS,hB,hH⟩
   simp only [↓eA,eB,seval,l15009,h2,h3,h8,h25,h26,h27,hS,hB,hH,Nat.lt_irrefl]
   and_intros<;>first | trivial | rfl
theorem lp_t2 (s:Survey)(hF:s.Fit0)(b:Box)(acc:List ByteArray)(hacc:acc.length≤1000000000)(e:Env)(H:Heap)(h3:Gs.get e 3 = .ptr 3 0)(h8:Gs.get e 8 = .ow 1008)(h25:Gs.get e 54 = .fz false 5 (s.joints.map Joint.enc))(h26:Gs.get e 55=int s.joints.length)(h27:Gs.get e 56=int 0)(hB:hget H 3=some (.box (bxc b) false))(hH:hget H 1008=some (.row true 1 (acc.map .str) 0 true)) :
   Ends T 15015 e H (fun X e' H'=>X = .ex 2∧e'=[(3,.ptr 3 0),(8,.ow 1008),(54,.fz false 5 (s.joints.map Joint.enc)),(55,int s.joints.length),(56,int s.joints.length),(57,.bool false)]∧H'=[(3,.box (bxc b) false),(1008,.row true 1 ((acc ++ (s.joints.filter (jtHit b)).map (·.name)).map .str) 0 true)]):=by
 have hb:=hF.jl
 refine (loop_fold (T:=T) (key:=15015) (li:=l15015.1) rfl s.joints (nmStep (jtHit b) (·.name)) (fun i a e H=>a.length≤acc.length + i∧Gs.get e 3 = .ptr 3 0∧Gs.get e 8 = .ow 1008∧Gs.get e 54 = .fz false 5 (s.joints.map Joint.enc)∧Gs.get e 55=int s.joints.length∧Gs.get e 56=int i∧hget H 3=some (.box (bxc b) false)∧hget H 1008=some (.row true 1 (a.map .str) 0 true)) (fun a X e' H'=>X = .ex 2∧e'=[(3,.ptr 3 0),(8,.ow 1008),(54,.fz false 5 (s.joints.map Joint.enc)),(55,int s.joints.length),(56,int s.joints.length),(57,.bool false)]∧H'=[(3,.box (bxc b) false),(1008,.row true 1 (a.map .str) 0 true)]) ?_ ?_ acc e H ⟨Nat.le_refl _,h3,h8,h25,h26,h27,hB,hH⟩).mono fun X e' H' h=>by rw [nmStep_all] at h; exact h
 · rintro i f a e H hx hi ⟨hal,h3,h8,h25,h26,h27,hB,hH⟩
   have hx':(s.joints.map Joint.enc)[i]?=some f.enc:=by simp [hx]
   have hsl:=nmStep_len (jtHit b) (·.name) a f
   have hfit:fits (a.length + (0 + 1)) 16=true:=fits_of (by omega)
   have hfit':fits (a.length + 1) 16=true:=fits_of (by omega)
   cases hc:jtHit b f with
   | true=>
     have hc':=hc; simp only [jtHit,Bool.and_eq_true] at hc'
     have hm:List.map D.str a ++ [.str f.name]=List.map D.str (nmStep (jtHit b) (·.name) a f):=by simp [nmStep,hc]
     simp only [↓eA,eB,seval,l15015,h3,h8,h25,h26,h27,hB,hH,hi,hx',e_ends b f.axis,hc'.1.1.1,hc'.1.1.2,hc'.1.2,hc'.2,hfit,hfit',hm,wrap_succ (show i < 4611686018427387904 by omega)]
     refine ⟨trivial,by omega,?_⟩
     and_intros<;>first | trivial | rfl
   | false=>
     have hm:nmStep (jtHit b) (·.name) a f=a:=by simp [nmStep,hc]
     have hc':=hc; simp only [jtHit] at hc'
     cases d1:decide (b.lo f.axis < f.at_)<;>cases d2:decide (f.at_ < b.hi f.axis)<;>cases d3:decide (f.lo < b.z1)<;>rw [d1,d2,d3] at hc'<;>simp only [Bool.true_and,Bool.false_and] at hc' <;>
     simp only [↓eA,eB,seval,l15015,h3,h8,h25,h26,h27,hB,hH,hi,hx',e_ends b f.axis,d1,d2,d3,hc',hm,wrap_succ (show i < 4611686018427387904 by omega)] <;>
     refine ⟨trivial,by omega,?_⟩ <;>
     and_intros<;>first | trivial | rfl
 · rintro a e H ⟨hal,h3,h8,h25,h26,h27,hB,hH⟩
   simp only [↓eA,eB,seval,l15015,h3,h8,h25,h26,h27,hB,hH,Nat.lt_irrefl]
   and_intros<;>first | trivial | rfl
def thrL (s:Survey)(b:Box):List ByteArray:=(s.beds.filter (bHit b)).map (·.name) ++ (s.joints.filter (jtHit b)).map (·.name)
theorem thrL_len (s:Survey)(b:Box):(thrL s b).length≤s.beds.length + s.joints.length:=by
 have h1:=List.length_filter_le (bHit b) s.beds
 have h2:=List.length_filter_le (jtHit b) s.joints
 simp [thrL]; omega
def thrR (s:Survey)(b:Box):List ByteArray:=bif decide (sbErr s b=0) then sortB (thrL s b) else []
theorem e_through (s:Survey)(hF:s.Fit)(b:Box):L.call 15 [s.enc,b.enc] []=some (.tup [.fz true 1 ((thrR s b).map .str),int (sbErr s b)],[]):=by
 unfold thrR
 have hb:=hF.bl; have hj:=hF.jl
 cases h1:decide (surveyErr s=0) with
 | false=>
   have h1':sbErr s b=surveyErr s:=by simp only [sbErr,h1,cond_false]
   rw [h1',h1]
   exact call_eq rfl rfl (by simp only [↓eA,eB,seval,c15,e_pCheck s hF,h1]; rfl)
 | true=>
   have h1':sbErr s b=boxedErr s b:=by simp only [sbErr,h1,cond_true]
   rw [h1']
   cases h2:decide (boxedErr s b=0) with
   | false=>exact call_eq rfl rfl (by simp only [↓eA,eB,seval,c15,e_pCheck s hF,h1,e_boxed,h2]; rfl)
   | true=>
     have h02:=of_decide_eq_true h2
     exact call_eq rfl rfl (by
       simp only [↓eA,eB,seval,c15,e_pCheck s hF,h1,e_boxed,h2]
       generalize hE:(lim T).loop 15009 _ _=R
       obtain ⟨X,e',H',rfl,rfl,g2,g3,g8,rfl⟩:=Ends.at hE (lp_t1 s hF.toFit0 b _ _ rfl rfl rfl rfl rfl rfl rfl rfl rfl)
       simp only [↓eA,eB,seval,g2,g3,g8]
       generalize hE:(lim T).loop 15015 _ _=R
       obtain ⟨X,e',H',rfl,rfl,rfl,rfl⟩:=Ends.at hE (lp_t2 s hF.toFit0 b _ (by have:=List.length_filter_le (bHit b) s.beds; simp; omega) _ _ (by simp only [↓eA,eB,seval,g3]) (by simp only [↓eA,eB,seval,g8]) (by simp only [↓eA,eB,seval]) (by simp only [↓eA,eB,seval]) (by simp only [↓eA,eB,seval]) rfl rfl)
       have hs:=e_sort true (thrL s b) (by have:=thrL_len s b; omega)
       unfold thrL at hs
       simp only [↓eA,eB,seval,hs]
       rw [h02]; rfl)
end Tz
set_option maxHeartbeats 2000000
set_option maxRecDepth 100000
set_option maxRecDepth 100000
open Gs Go
namespace Tz
def twB (l:List ByteArray)(x:ByteArray):Nat:=(l.takeWhile fun y=>slt y x).length
abbrev strL (l:List ByteArray):List D:=l.map .str
theorem lp_sad (nz:Bool)(l:List ByteArray)(x:ByteArray)(hb:l.length < 4000000000)(e:Env)(H:Heap)(h0:Gs.get e 0 = .fz nz 1 (strL l))(h1:Gs.get e 1 = .str x)(h5:Gs.get e 5=int (0:Nat)) :
   Ends T 45002 e H (fun X e' H'=>X = .ex 0∧Gs.get e' 0 = .fz nz 1 (strL l)∧Gs.get e' 1 = .str x∧Gs.get e' 5=int (twB l x)∧H'=[]):=by
 refine (loop_thru (T:=T) (key:=45002) (li:=l45002.1) rfl (S:=Nat) (R:=Nat) (fun n y=>bif slt y x then .inr (n + 1) else .inl n) l (fun i n e H=>n=i∧Gs.get e 0 = .fz nz 1 (strL l)∧Gs.get e 1 = .str x∧Gs.get e 5=int n) (fun n X e' H'=>X = .ex 0∧Gs.get e' 0 = .fz nz 1 (strL l)∧Gs.get e' 1 = .str x∧Gs.get e' 5=int n∧H'=[]) (fun n X e' H'=>X = .ex 0∧Gs.get e' 0 = .fz nz 1 (strL l)∧Gs.get e' 1 = .str x∧Gs.get e' 5=int n∧H'=[]) ?_ ?_ ?_ l [] 0 e H rfl ⟨rfl,h0,h1,h5⟩).mono ?_
 · rintro i y n n' e H hx ⟨rfl,h0,h1,h5⟩ hf
   have hi:n < l.length:=(List.getElem?_eq_some_iff.1 hx).1
   have hx':(strL l)[n]?=some (.str y):=by simp [strL,hx]
   cases hc:slt y x with
   | false=>rw [hc] at hf; cases hf
   | true=>
     rw [hc] at hf; injection hf with hf; subst hf
     simp only [↓eA,eB,seval,l45002,h0,h1,h5,hi,hx',hc,wrap_succ (show n < 4611686018427387904 by omega)]
     and_intros<;>first | trivial | rfl
 · rintro i y n n' e H hx ⟨rfl,h0,h1,h5⟩ hf
   have hi:n < l.length:=(List.getElem?_eq_some_iff.1 hx).1
   have hx':(strL l)[n]?=some (.str y):=by simp [strL,hx]
   cases hc:slt y x with
   | true=>rw [hc] at hf; cases hf
   | false=>
     rw [hc] at hf; injection hf with hf; subst hf
     simp only [↓eA,eB,seval,l45002,h0,h1,h5,hi,hx',hc]
     and_intros<;>first | trivial | rfl
 · rintro n e H ⟨rfl,h0,h1,h5⟩
   simp only [↓eA,eB,seval,l45002,h0,h1,h5,Nat.lt_irrefl]
   and_intros<;>first | trivial | rfl
 · intro X e' H' h
   have:∀ (l:List ByteArray) (s:Nat),thru (S:=Nat) (R:=Nat) (fun n y=>bif slt y x then .inr (n + 1) else .inl n) l s = .inl (s + twB l x)∨thru (S:=Nat) (R:=Nat) (fun n y=>bif slt y x then .inr (n + 1) else .inl n) l s = .inr (s + twB l x):=by
     intro l
     induction l with
     | nil=>intro s; exact .inr rfl
     | cons y r ih=>
       intro s
       cases hc:slt y x with
       | false=>left; simp [thru,hc,twB,List.takeWhile]
       | true=>
         have h2:s + twB (y :: r) x=s + 1 + twB r x:=by simp [twB,List.takeWhile,hc]; omega
         rw [h2]
         simpa [thru,hc] using ih (s + 1)
   rcases this l 0 with h2 | h2<;>rw [h2] at h<;>simpa using h
theorem twB_le (l:List ByteArray)(x:ByteArray):twB l x≤l.length:=(List.takeWhile_sublist _).length_le
theorem insB_tw (x:ByteArray):∀ l,l.take (twB l x) ++ [x] ++ l.drop (twB l x)=insB x l
 | []=>rfl
 | y :: r=>by
   simp only [insB]
   cases hc:slt y x with
   | true=>
     have h2:twB (y :: r) x=twB r x + 1:=by simp [twB,List.takeWhile,hc]
     rw [h2]
     have:=insB_tw x r
     simpa using this
   | false=>
     have h2:twB (y :: r) x=0:=by simp [twB,List.takeWhile,hc]
     rw [h2]; rfl
theorem e_sadd (nz:Bool)(l:List ByteArray)(x:ByteArray)(hb:l.length < 4000000000):L.call 45 [.fz nz 1 (strL l),.str x] []=some (.fz false 1 (strL (insB x l)),[]):=by
 have htl:=twB_le l x
 have hinc:inc 0 (twB l x)=true:=by simp [inc]
 have hcA:cut (strL l) 0 (twB l x)=strL (l.take (twB l x)):=by simp [cut,strL,List.map_take]
 have hcB:cut (strL l) (twB l x) (l.length - twB l x)=strL (l.drop (twB l x)):=by
   simp only [cut,strL,List.map_drop]
   rw [List.take_of_length_le (by simp)]
 have hAl:(l.take (twB l x)).length=twB l x:=by simp; omega
 have hBl:(l.drop (twB l x)).length=l.length - twB l x:=by simp
 have hlx:(strL (l.take (twB l x)) ++ [D.str x]).length=twB l x + 1:=by simp; omega
 have hf1:fits (0 + twB l x) 16=true:=by simp [fits]; omega
 have hf2:fits (twB l x + 1) 16=true:=by simp [fits]; omega
 have hf3:fits (twB l x + 1 + (l.length - twB l x)) 16=true:=by simp [fits]; omega
 have hmm:strL (l.take (twB l x)) ++ [D.str x] ++ strL (l.drop (twB l x))=strL (insB x l):=by rw [←insB_tw x l]; simp [strL]
 generalize hE:(lim T).loop 45002 [(0,.fz nz 1 (strL l)),(1,.str x),(4,.fz true 1 []),(5,.int .i64 0)] []=R
 obtain ⟨X,e',H',rfl,rfl,g0,g1,g5,rfl⟩:=Ends.at hE (lp_sad nz l x hb _ _ rfl rfl rfl)
 refine call_eq rfl rfl ?_
 simp only [↓eA,eB,seval,c45,hE,g0,g1,g5,get_wipeB,get_killE,killD,htl,hinc,hcA,hcB,hf1,hf2,hf3,hlx,hAl,Nat.sub_zero,Nat.le_refl,hBl]
 rw [hmm]
end Tz
set_option maxHeartbeats 2000000
set_option maxRecDepth 100000
set_option maxRecDepth 100000
open Gs Go
namespace Tz
theorem lp_rbed (s:Survey)(hb:s.beds.length < 1000000000)(z:Int)(e:Env)(H:Heap)(h1:Gs.get e 1=int z)(h2:Gs.get e 2 = .ptr 2 0)(h5:Gs.get e 5=int 0)(hH:hget H 2=some (.box s.cells false)) :
   Ends T 18002 e H (fun X e' H'=>match s.beds.any fun b=>decide (b.z=z) with | true=>X = .ret∧Gs.get e' 4 = .bool true | false=>X = .ex 0):=by
 refine (loop_anyH (T:=T) (key:=18002) (li:=l18002.1) rfl s.beds (fun b=>decide (b.z=z)) (fun i e H=>Gs.get e 1=int z∧Gs.get e 2 = .ptr 2 0∧Gs.get e 5=int i∧hget H 2=some (.box s.cells false))
   (fun X e' H'=>X = .ret∧Gs.get e' 4 = .bool true) (fun X e' H'=>X = .ex 0) ?_ ?_ e H ⟨h1,h2,h5,hH⟩).mono fun X e' H' h=>h
 · rintro i b e H hx hi ⟨h1,h2,h5,hH⟩
   have hx':(s.beds.map Bed.enc)[i]?=some b.enc:=by simp [hx]
   cases hp:decide (b.z=z)<;>simp only [↓eA,eB,seval,l18002,h1,h2,h5,hH,hi,hx',hp,wrap_succ (show i < 4611686018427387904 by omega)]<;>and_intros<;>first | trivial | rfl
 · rintro e H ⟨h1,h2,h5,hH⟩
   simp only [↓eA,eB,seval,l18002,h1,h2,h5,hH,Nat.lt_irrefl]
   and_intros<;>first | trivial | rfl
theorem e_rBedded (s:Survey)(hb:s.beds.length < 1000000000)(z:Int):L.call 18 [s.enc,int z] []=some (.bool (s.beds.any fun b=>decide (b.z=z)),[]):=
 call_eq rfl rfl (by
   simp only [↓eA,eB,seval,c18]
   generalize hE:(lim T).loop 18002 _ _=R
   obtain ⟨X,e1,H1,rfl,hp⟩:=Ends.at hE (lp_rbed s hb z _ _ (by simp only [↓eA,eB,seval]) (by simp only [↓eA,eB,seval]) (by simp only [↓eA,eB,seval]) rfl)
   cases hk:(s.beds.any fun b=>decide (b.z=z)) with
   | true=>rw [hk] at hp; obtain ⟨rfl,g2⟩:=hp; simp only [↓eA,eB,seval,g2]
   | false=>rw [hk] at hp; subst hp; simp only [↓eA,eB,seval])
theorem lp_ssame (n1 n2:Bool)(l:List ByteArray)(hl:l.length < 4000000000)(e:Env)(H:Heap)(h0:Gs.get e 0 = .fz n1 1 (strL l))(h1:Gs.get e 1 = .fz n2 1 (strL l))(h5:Gs.get e 5=int 0)(hH:H=[]) :
   Ends T 19004 e H (fun X e' H'=>X = .ex 0∧H'=[]):=by
 refine (loop_fold (T:=T) (key:=19004) (li:=l19004.1) rfl l (fun (s:Unit) _=>s)
   (fun i s e H=>Gs.get e 0 = .fz n1 1 (strL l)∧Gs.get e 1 = .fz n2 1 (strL l)∧Gs.get e 5=int i∧H=[])
   (fun s X e' H'=>X = .ex 0∧H'=[]) ?_ ?_ () e H ⟨h0,h1,h5,hH⟩).mono fun _ _ _ h=>h
 · rintro i x s e H hx hi ⟨h0,h1,h5,rfl⟩
   have hx':(strL l)[i]?=some (.str x):=by simp [strL,hx]
   have hlen:(strL l).length=l.length:=by simp [strL]
   simp only [↓eA,eB,seval,l19004,h0,h1,h5,hlen,hi,hx',seq_refl,wrap_succ (show i < 4611686018427387904 by omega)]
   and_intros<;>first | trivial | rfl
 · rintro s e H ⟨h0,h1,h5,rfl⟩
   have hlen:(strL l).length=l.length:=by simp [strL]
   simp only [↓eA,eB,seval,l19004,h0,h1,h5,hlen,Nat.lt_irrefl]
   and_intros<;>first | trivial | rfl
theorem e_ssame (n1 n2:Bool)(l:List ByteArray)(hl:l.length < 4000000000):L.call 19 [.fz n1 1 (strL l),.fz n2 1 (strL l)] []=some (.bool true,[]):=
 call_eq rfl rfl (by
   simp only [↓eA,eB,seval,c19]
   generalize hE:(lim T).loop 19004 _ _=R
   obtain ⟨X,e',H',rfl,rfl,rfl⟩:=Ends.at hE (lp_ssame n1 n2 l hl _ _ rfl rfl rfl rfl)
   simp only [↓eA,eB,seval])
def inStep {α:Type}(hit:α→Bool)(nm:α→ByteArray)(acc:List ByteArray)(x:α):List ByteArray:=bif hit x then insB (nm x) acc else acc
theorem inStep_len {α:Type}(hit:α→Bool)(nm:α→ByteArray)(acc:List ByteArray)(x:α):(inStep hit nm acc x).length≤acc.length + 1:=by
 unfold inStep; cases hit x
 · simp
 · have:=(insB_perm (nm x) acc).length_eq; simp only [cond_true,List.length_cons] at *; omega
theorem inStep_all {α:Type}(hit:α→Bool)(nm:α→ByteArray):∀ (l:List α) (acc:List ByteArray),SortedB acc→SortedB (l.foldl (inStep hit nm) acc)∧(l.foldl (inStep hit nm) acc).Perm (acc ++ (l.filter hit).map nm)
 | [],acc,h=>⟨h,by simp⟩
 | x :: r,acc,h=>by
   rw [List.foldl_cons,List.filter_cons]
   cases hc:hit x with
   | true=>
     have h1:inStep hit nm acc x=insB (nm x) acc:=by simp [inStep,hc]
     rw [h1]
     have:=inStep_all hit nm r _ (insB_sorted (x:=nm x) h)
     refine ⟨this.1,this.2.trans ?_⟩
     simp only [if_true,List.map_cons]
     exact ((insB_perm (nm x) acc).append_right _).trans List.perm_middle.symm
   | false=>
     have h1:inStep hit nm acc x=acc:=by simp [inStep,hc]
     rw [h1]
     simpa using inStep_all hit nm r acc h
def rcd (x y z a:Int):Int:=if a=0 then x else if a=1 then y else z
def rjHit (b:Box)(j:Joint):Bool:=((decide (rcd b.x0 b.y0 b.z0 j.axis < j.at_) && decide (j.at_ < rcd b.x1 b.y1 b.z1 j.axis)) && decide (j.lo < b.z1)) && decide (b.z0 < j.hi)
theorem e_rcd (x y z a:Int):L.call 30 [.agg [int x,int y,int z],int a] []=some (int (rcd x y z a),[]):=e_coord x y z a
theorem lp_rt1 (s:Survey)(hF:s.Fit0)(b:Box)(e:Env)(H:Heap)(h2:Gs.get e 2 = .ptr 2 0)(h3:Gs.get e 3 = .ptr 3 0)(h5:Gs.get e 5 = .fz false 1 [])(h6:Gs.get e 6=int 0)(hS:hget H 2=some (.box s.cells false))(hB:hget H 3=some (.box (bxc b) false)) :
   Ends T 20003 e H (fun X e' H'=>X = .ex 0∧Gs.get e' 2 = .ptr 2 0∧Gs.get e' 3 = .ptr 3 0∧Gs.get e' 5 = .fz false 1 (strL (s.beds.foldl (inStep (bHit b) (·.name)) []))∧H'=[(2,.box s.cells false),(3,.box (bxc b) false)]):=by
 have hb:=hF.bl
 refine (loop_fold (T:=T) (key:=20003) (li:=l20003.1) rfl s.beds (inStep (bHit b) (·.name)) (fun i a e H=>a.length≤i∧Gs.get e 2 = .ptr 2 0∧Gs.get e 3 = .ptr 3 0∧Gs.get e 5 = .fz false 1 (strL a)∧Gs.get e 6=int i∧hget H 2=some (.box s.cells false)∧hget H 3=some (.box (bxc b) false)) (fun a X e' H'=>X = .ex 0∧Gs.get e' 2 = .ptr 2 0∧Gs.get e' 3 = .ptr 3 0∧Gs.get e' 5 = .fz false 1 (strL a)∧H'=[(2,.box s.cells false),(3,.box (bxc b) false)]) ?_ ?_ [] e H ⟨Nat.le_refl _,h2,h3,h5,h6,hS,hB⟩).mono fun X e' H' h=>h
 · rintro i f a e H hx hi ⟨hal,h2,h3,h5,h6,hS,hB⟩
   have hx':(s.beds.map Bed.enc)[i]?=some f.enc:=by simp [hx]
   have hsl:=inStep_len (bHit b) (·.name) a f
   have had:=e_sadd false a f.name (by omega)
   cases hc:bHit b f with
   | true=>
     have hc':=hc; simp only [bHit,Bool.and_eq_true] at hc'
     have hm:inStep (bHit b) (·.name) a f=insB f.name a:=by simp [inStep,hc]
     rw [hm] at hsl ⊢
     simp only [↓eA,eB,seval,l20003,h2,h3,h5,h6,hS,hB,hi,hx',hc'.1,hc'.2,had,wrap_succ (show i < 4611686018427387904 by omega)]
     refine ⟨trivial,by omega,?_⟩
     and_intros<;>first | trivial | rfl
   | false=>
     have hm:inStep (bHit b) (·.name) a f=a:=by simp [inStep,hc]
     rw [hm]
     have hc':=hc; simp only [bHit] at hc'
     cases d1:decide (b.z0 < f.z)<;>rw [d1] at hc'<;>simp only [Bool.true_and,Bool.false_and] at hc' <;>
     simp only [↓eA,eB,seval,l20003,h2,h3,h5,h6,hS,hB,hi,hx',d1,hc',wrap_succ (show i < 4611686018427387904 by omega)] <;>
     refine ⟨trivial,by omega,?_⟩ <;>
     and_intros<;>first | trivial | rfl
 · rintro a e H ⟨hal,h2,h3,h5,h6,hS,hB⟩
   simp only [↓eA,eB,seval,l20003,h2,h3,h5,h6,hS,hB,Nat.lt_irrefl]
   and_intros<;>first | trivial | rfl
theorem lp_rt2 (s:Survey)(hF:s.Fit0)(b:Box)(acc:List ByteArray)(hacc:acc.length≤1000000000)(e:Env)(H:Heap)(h2:Gs.get e 2 = .ptr 2 0)(h3:Gs.get e 3 = .ptr 3 0)(h5:Gs.get e 5 = .fz false 1 (strL acc))(h6:Gs.get e 7=int 0)(hS:hget H 2=some (.box s.cells false))(hB:hget H 3=some (.box (bxc b) false)) :
   Ends T 20008 e H (fun X e' H'=>X = .ex 2∧Gs.get e' 5 = .fz false 1 (strL (s.joints.foldl (inStep (rjHit b) (·.name)) acc))∧H'=[(2,.box s.cells false),(3,.box (bxc b) false)]):=by
 have hb:=hF.jl
 refine (loop_fold (T:=T) (key:=20008) (li:=l20008.1) rfl s.joints (inStep (rjHit b) (·.name)) (fun i a e H=>a.length≤acc.length + i∧Gs.get e 2 = .ptr 2 0∧Gs.get e 3 = .ptr 3 0∧Gs.get e 5 = .fz false 1 (strL a)∧Gs.get e 7=int i∧hget H 2=some (.box s.cells false)∧hget H 3=some (.box (bxc b) false)) (fun a X e' H'=>X = .ex 2∧Gs.get e' 5 = .fz false 1 (strL a)∧H'=[(2,.box s.cells false),(3,.box (bxc b) false)]) ?_ ?_ acc e H ⟨Nat.le_refl _,h2,h3,h5,h6,hS,hB⟩).mono fun X e' H' h=>h
 · rintro i f a e H hx hi ⟨hal,h2,h3,h5,h6,hS,hB⟩
   have hx':(s.joints.map Joint.enc)[i]?=some f.enc:=by simp [hx]
   have hsl:=inStep_len (rjHit b) (·.name) a f
   have had:=e_sadd false a f.name (by omega)
   have r1:=e_rcd b.x0 b.y0 b.z0 f.axis
   have r2:=e_rcd b.x1 b.y1 b.z1 f.axis
   cases hc:rjHit b f with
   | true=>
     have hc':=hc; simp only [rjHit,Bool.and_eq_true] at hc'
     have hm:inStep (rjHit b) (·.name) a f=insB f.name a:=by simp [inStep,hc]
     rw [hm] at hsl ⊢
     simp only [↓eA,eB,seval,l20008,h2,h3,h5,h6,hS,hB,hi,hx',r1,r2,hc'.1.1.1,hc'.1.1.2,hc'.1.2,hc'.2,had,wrap_succ (show i < 4611686018427387904 by omega)]
     refine ⟨trivial,by omega,?_⟩
     and_intros<;>first | trivial | rfl
   | false=>
     have hm:inStep (rjHit b) (·.name) a f=a:=by simp [inStep,hc]
     rw [hm]
     have hc':=hc; simp only [rjHit] at hc'
     cases d1:decide (rcd b.x0 b.y0 b.z0 f.axis < f.at_)<;>cases d2:decide (f.at_ < rcd b.x1 b.y1 b.z1 f.axis)<;>cases d3:decide (f.lo < b.z1)<;>rw [d1,d2,d3] at hc'<;>simp only [Bool.true_and,Bool.false_and] at hc' <;>
     simp only [↓eA,eB,seval,l20008,h2,h3,h5,h6,hS,hB,hi,hx',r1,r2,d1,d2,d3,hc',wrap_succ (show i < 4611686018427387904 by omega)] <;>
     refine ⟨trivial,by omega,?_⟩ <;>
     and_intros<;>first | trivial | rfl
 · rintro a e H ⟨hal,h2,h3,h5,h6,hS,hB⟩
   simp only [↓eA,eB,seval,l20008,h2,h3,h5,h6,hS,hB,Nat.lt_irrefl]
   and_intros<;>first | trivial | rfl
def rThr (s:Survey)(b:Box):List ByteArray:=s.joints.foldl (inStep (rjHit b) (·.name)) (s.beds.foldl (inStep (bHit b) (·.name)) [])
theorem e_rThrough (s:Survey)(hF:s.Fit0)(b:Box):L.call 20 [s.enc,b.enc] []=some (.fz false 1 (strL (rThr s b)),[]):=
 call_eq rfl rfl (by
   have hb:=hF.bl
   simp only [↓eA,eB,seval,c20]
   generalize hE:(lim T).loop 20003 _ _=R
   obtain ⟨X,e',H',rfl,rfl,g2,g3,g5,rfl⟩:=Ends.at hE (lp_rt1 s hF b _ _ rfl rfl rfl rfl rfl rfl)
   simp only [↓eA,eB,seval,g2,g3,g5]
   generalize hE:(lim T).loop 20008 _ _=R
   have hl:(s.beds.foldl (inStep (bHit b) (·.name)) []).length≤1000000000:=by
     have:=(inStep_all (bHit b) (·.name) s.beds [] List.Pairwise.nil).2.length_eq
     have h2:=List.length_filter_le (bHit b) s.beds
     rw [this]; simp; omega
   obtain ⟨X,e',H',rfl,rfl,g5,rfl⟩:=Ends.at hE (lp_rt2 s hF b _ hl _ _ (by simp only [↓eA,eB,seval,g2]) (by simp only [↓eA,eB,seval,g3]) (by simp only [↓eA,eB,seval,g5]) (by simp only [↓eA,eB,seval]) rfl rfl)
   simp only [↓eA,eB,seval,g5]
   rfl)
end Tz
set_option maxHeartbeats 2000000
set_option maxRecDepth 100000
set_option maxRecDepth 100000
open Gs Go
namespace Tz
def bStep (a:Pt×Pt)(c:Pt):Pt×Pt:=(⟨min a.1.x c.x,min a.1.y c.y⟩,⟨max a.2.x c.x,max a.2.y c.y⟩)
def bnds (p:List Pt):Pt×Pt:=p.foldl bStep (pt p 0,pt p 0)
abbrev ptc (a:Pt):List D:=[int a.x,int a.y]
abbrev hpB (a:Pt×Pt):Heap:=[(2,.box [int 0,int 0] false),(3,.box [int 0,int 0] false),(4,.box (ptc a.1) false),(5,.box (ptc a.2) false)]
theorem lp_bd (p:List Pt)(hl:p.length < 1000000000)(a0:Pt×Pt)(e:Env)(H:Heap)(h0:Gs.get e 0=poly p)(h2:Gs.get e 2 = .ptr 2 0)(h3:Gs.get e 3 = .ptr 3 0)(h4:Gs.get e 4 = .ptr 4 0)(h5:Gs.get e 5 = .ptr 5 0)(h6:Gs.get e 6=int 0)
   (g2:hget H 2=some (.box [int 0,int 0] false)) (g3:hget H 3=some (.box [int 0,int 0] false)) (g4:hget H 4=some (.box (ptc a0.1) false)) (g5:hget H 5=some (.box (ptc a0.2) false)) :
   Ends T 119004 e H (fun X e' H'=>X = .ex 0∧Gs.get e' 2 = .ptr 2 0∧Gs.get e' 3 = .ptr 3 0∧Gs.get e' 4 = .ptr 4 0∧Gs.get e' 5 = .ptr 5 0∧H'=hpB (p.foldl bStep a0)):=by
 refine (loop_fold (T:=T) (key:=119004) (li:=l119004.1) rfl p bStep (fun i a e H=>Gs.get e 0=poly p∧Gs.get e 2 = .ptr 2 0∧Gs.get e 3 = .ptr 3 0∧Gs.get e 4 = .ptr 4 0∧Gs.get e 5 = .ptr 5 0∧Gs.get e 6=int i∧hget H 2=some (.box [int 0,int 0] false)∧hget H 3=some (.box [int 0,int 0] false)∧hget H 4=some (.box (ptc a.1) false)∧hget H 5=some (.box (ptc a.2) false))
   (fun a X e' H'=>X = .ex 0∧Gs.get e' 2 = .ptr 2 0∧Gs.get e' 3 = .ptr 3 0∧Gs.get e' 4 = .ptr 4 0∧Gs.get e' 5 = .ptr 5 0∧H'=hpB a) ?_ ?_ a0 e H ⟨h0,h2,h3,h4,h5,h6,g2,g3,g4,g5⟩).mono fun X e' H' h=>h
 · rintro i c a e H hx hi ⟨h0,h2,h3,h4,h5,h6,g2,g3,g4,g5⟩
   have hx':(p.map Pt.enc)[i]?=some c.enc:=by simp [hx]
   simp only [↓eA,eB,seval,l119004,h0,h2,h3,h4,h5,h6,g2,g3,g4,g5,hi,hx',wrap_succ (show i < 4611686018427387904 by omega)]
   and_intros<;>first | trivial | rfl
 · rintro a e H ⟨h0,h2,h3,h4,h5,h6,g2,g3,g4,g5⟩
   simp only [↓eA,eB,seval,l119004,h0,h2,h3,h4,h5,h6,g2,g3,g4,g5,Nat.lt_irrefl]
   and_intros<;>first | trivial | rfl
theorem e_rBounds (p:List Pt)(h1:0 < p.length)(hl:p.length < 1000000000):L.call 119 [poly p] []=some (.tup [(bnds p).1.enc,(bnds p).2.enc],[]):=
 call_eq rfl rfl (by
   have hx:(p.map Pt.enc)[0]?=some (pt p 0).enc:=by
     rw [List.getElem?_map,List.getElem?_eq_getElem h1]; simp [pt,h1]
   have hib:inb 0 p.length=true:=by simp [inb]; omega
   simp only [↓eA,eB,seval,c119,h1,hx,hib]
   generalize hE:(lim T).loop 119004 _ _=R
   obtain ⟨X,e',H',rfl,rfl,g2,g3,g4,g5,rfl⟩:=Ends.at hE (lp_bd p hl (pt p 0,pt p 0) _ _ rfl rfl rfl rfl rfl rfl rfl rfl rfl rfl)
   simp only [↓eA,eB,seval,g2,g3,g4,g5]
   rfl)
def sdR (p:List Pt)(b:Box)(i:Nat):Bool:=(rect b).all fun c=>decide (ori (pt p i) (pt p (nx p i)) c≤0)
def rOff (p:List Pt)(b:Box):Bool:=((decide (b.x1≤(bnds p).1.x) || decide ((bnds p).2.x≤b.x0)) || decide (b.y1≤(bnds p).1.y)) || decide ((bnds p).2.y≤b.y0)
def rApart (p:List Pt)(b:Box):Bool:=rOff p b || (List.range p.length).any (sdR p b)
theorem lp_ap1 (p:List Pt)(hl:p.length < 1000000000)(hp:AllIn p)(b:Box)(hr:AllIn (rect b))(i:Nat)(hi:i < p.length)(e:Env)(H:Heap)(h0:Gs.get e 0=poly p)(h7:Gs.get e 7=poly (rect b))(h8:Gs.get e 8=int i)(h9:Gs.get e 9 = .bool true)(h10:Gs.get e 10=int 0) :
   Ends T 76010 e H (fun X e' H'=>X = .ex 2∧e'=[(0,poly p),(7,poly (rect b)),(8,int i),(9,.bool (sdR p b i)),(10,int 4),(81,int 4),(82,.bool false)]∧H'=[]):=by
 have hf:∀ (l:List Pt) (a:Bool),l.foldl (fun (a:Bool) c=>a && decide (ori (pt p i) (pt p (nx p i)) c≤0)) a=(a && l.all fun c=>decide (ori (pt p i) (pt p (nx p i)) c≤0)):=by
   intro l
   induction l with
   | nil=>intro a; simp
   | cons x r ih=>intro a; rw [List.foldl_cons,ih,List.all_cons,Bool.and_assoc]
 have hp0:0 < p.length:=by omega
 have hn:nx p i < p.length:=Nat.mod_lt _ hp0
 have hxi:(p.map Pt.enc)[i]?=some (pt p i).enc:=by rw [List.getElem?_map,List.getElem?_eq_getElem hi]; simp [pt,hi]
 have hxn:(p.map Pt.enc)[nx p i]?=some (pt p (nx p i)).enc:=by rw [List.getElem?_map,List.getElem?_eq_getElem hn]; simp [pt,hn]
 have hne:¬ p.length=0:=by omega
 have hne2:((p.length:Int)=0)=False:=eq_false (by omega)
 have hm:Int.tmod ((i + 1:Nat):Int) (p.length:Int)=(nx p i:Int):=(Int.ofNat_tmod _ _).symm
 have a1:(pt p i).In:=hp _ (by simp [pt,hi])
 have a2:(pt p (nx p i)).In:=hp _ (by simp [pt,hn])
 refine (loop_fold (T:=T) (key:=76010) (li:=l76010.1) rfl (rect b) (fun (a:Bool) c=>a && decide (ori (pt p i) (pt p (nx p i)) c≤0)) (fun k a e H=>Gs.get e 0=poly p∧Gs.get e 7=poly (rect b)∧Gs.get e 8=int i∧Gs.get e 9 = .bool a∧Gs.get e 10=int k)
   (fun a X e' H'=>X = .ex 2∧e'=[(0,poly p),(7,poly (rect b)),(8,int i),(9,.bool a),(10,int 4),(81,int 4),(82,.bool false)]∧H'=[]) ?_ ?_ true e H ⟨h0,h7,h8,h9,h10⟩).mono fun X e' H' h=>by rw [hf] at h; exact h
 · rintro k c a e H hx hk ⟨h0,h7,h8,h9,h10⟩
   have hk4:k < 4:=by simpa [rect] using hk
   have hk5:decide ((k:Int) < 4)=true:=by rw [decide_eq_true_eq]; omega
   have hx':((rect b).map Pt.enc)[k]?=some c.enc:=by simp [hx]
   have hc:c.In:=hr c (List.mem_of_getElem? hx)
   have ho:=e_rOrient (tri a1 a2 hc)
   have hw:=wrap_succ (show i < 4611686018427387904 by omega)
   have hkl:k < (rect b).length:=hk
   cases a with
   | true=>
     simp only [↓eA,eB,seval,l76010,h0,h7,h8,h9,h10,hk4,hk5,hx',ho,hw,hxi,hxn,hm,hne,hne2,hi,hn,hkl,List.length_map,wrap_succ (show k < 4611686018427387904 by omega)]
     and_intros<;>first | trivial | rfl
   | false=>
     simp only [↓eA,eB,seval,l76010,h0,h7,h8,h9,h10,hk4,hk5,wrap_succ (show k < 4611686018427387904 by omega)]
     and_intros<;>first | trivial | rfl
 · rintro a e H ⟨h0,h7,h8,h9,h10⟩
   have h4:(rect b).length=4:=rfl
   rw [h4] at h10
   simp only [↓eA,eB,seval,l76010,h0,h7,h8,h9,h10]
   and_intros<;>first | trivial | rfl
end Tz
set_option maxHeartbeats 2000000
set_option maxRecDepth 100000
set_option maxRecDepth 100000
open Gs Go
namespace Tz
theorem lp_ap2 (p:List Pt)(hl:p.length < 1000000000)(hp:AllIn p)(b:Box)(hr:AllIn (rect b))(e:Env)(H:Heap)(h0:Gs.get e 0=poly p)(h7:Gs.get e 7=poly (rect b))(h8:Gs.get e 8=int 0) :
   Ends T 76006 e H (fun X e' H'=>match (List.range p.length).any (sdR p b) with | true=>X = .ret∧Gs.get e' 4 = .bool true | false=>X = .ex 0):=by
 refine (loop_anyH (T:=T) (key:=76006) (li:=l76006.1) rfl (List.range p.length) (sdR p b) (fun i e H=>Gs.get e 0=poly p∧Gs.get e 7=poly (rect b)∧Gs.get e 8=int i) (fun X e' H'=>X = .ret∧Gs.get e' 4 = .bool true) (fun X e' H'=>X = .ex 0) ?_ ?_ e H ⟨h0,h7,h8⟩).mono fun X e' H' h=>h
 · rintro i k e H hk hi ⟨h0,h7,h8⟩
   rw [List.length_range] at hi
   rw [List.getElem?_range hi] at hk; injection hk with hk; subst hk
   simp only [↓eA,eB,seval,l76006,h0,h7,h8,hi,List.length_map]
   generalize hE:(lim T).loop 76010 _ _=R
   obtain ⟨X,e',H',rfl,rfl,rfl,rfl⟩:=Ends.at hE (lp_ap1 p hl hp b hr i hi _ _ rfl rfl rfl rfl rfl)
   cases hs:sdR p b i<;>simp only [↓eA,eB,seval,hs,wrap_succ (show i < 4611686018427387904 by omega)]<;>and_intros<;>first | trivial | rfl
 · rintro e H ⟨h0,h7,h8⟩
   rw [List.length_range] at h8
   simp only [↓eA,eB,seval,l76006,h0,h7,h8,List.length_map,Nat.lt_irrefl]
   and_intros<;>first | trivial | rfl
theorem e_rApart (p:List Pt)(h1:0 < p.length)(hl:p.length < 1000000000)(hp:AllIn p)(b:Box)(hr:AllIn (rect b)):L.call 76 [poly p,b.enc] []=some (.bool (rApart p b),[]):=
 call_eq rfl rfl (by
   have hB:=e_rBounds p h1 hl
   unfold rApart rOff
   cases d1:decide (b.x1≤(bnds p).1.x) with
   | true=>simp only [↓eA,eB,seval,c76,hB,d1]
   | false=>
   cases d2:decide ((bnds p).2.x≤b.x0) with
   | true=>simp only [↓eA,eB,seval,c76,hB,d1,d2]
   | false=>
   cases d3:decide (b.y1≤(bnds p).1.y) with
   | true=>simp only [↓eA,eB,seval,c76,hB,d1,d2,d3]
   | false=>
   cases d4:decide ((bnds p).2.y≤b.y0) with
   | true=>simp only [↓eA,eB,seval,c76,hB,d1,d2,d3,d4]
   | false=>
     simp only [↓eA,eB,seval,c76,hB,d1,d2,d3,d4]
     generalize hE:(lim T).loop 76006 _ _=R
     obtain ⟨X,e',H',rfl,hP⟩:=Ends.at hE (lp_ap2 p hl hp b hr _ _ rfl rfl rfl)
     cases hs:(List.range p.length).any (sdR p b) with
     | true=>rw [hs] at hP; obtain ⟨rfl,g⟩:=hP; simp only [↓eA,eB,seval,g]
     | false=>rw [hs] at hP; subst hP; simp only [↓eA,eB,seval])
def rOver (b:Box)(f:Flaw):Bool:=(decide (f.lo < b.z1) && decide (b.z0 < f.hi)) && !rApart f.base b
theorem e_rOverlaps (f:Flaw)(h1:0 < f.base.length)(hl:f.base.length < 1000000000)(hp:AllIn f.base)(b:Box)(hr:AllIn (rect b)):L.call 46 [f.enc,b.enc] []=some (.bool (rOver b f),[]):=
 call_eq rfl rfl (by
   have hA:=e_rApart f.base h1 hl hp b hr
   unfold rOver
   cases d1:decide (f.lo < b.z1) with
   | false=>simp only [↓eA,eB,seval,c46,d1]
   | true=>
   cases d2:decide (b.z0 < f.hi) with
   | false=>simp only [↓eA,eB,seval,c46,d1,d2]
   | true=>simp only [↓eA,eB,seval,c46,d1,d2,hA])
theorem lp_rfl (s:Survey)(hF:s.Fit0)(b:Box)(hr:AllIn (rect b))(ho:∀ f∈s.flaws,0 < f.base.length∧f.base.length < 1000000000∧AllIn f.base)(e:Env)(H:Heap)(h2:Gs.get e 2 = .ptr 2 0)(h3:Gs.get e 3 = .ptr 3 0)(h5:Gs.get e 5 = .fz false 1 [])(h6:Gs.get e 6=int 0)(hS:hget H 2=some (.box s.cells false))(hB:hget H 3=some (.box (bxc b) false)) :
   Ends T 21003 e H (fun X e' H'=>X = .ex 0∧Gs.get e' 5 = .fz false 1 (strL (s.flaws.foldl (inStep (rOver b) (·.name)) []))∧H'=[(2,.box s.cells false),(3,.box (bxc b) false)]):=by
 have hb:=hF.fl
 refine (loop_fold (T:=T) (key:=21003) (li:=l21003.1) rfl s.flaws (inStep (rOver b) (·.name)) (fun i a e H=>a.length≤i∧Gs.get e 2 = .ptr 2 0∧Gs.get e 3 = .ptr 3 0∧Gs.get e 5 = .fz false 1 (strL a)∧Gs.get e 6=int i∧hget H 2=some (.box s.cells false)∧hget H 3=some (.box (bxc b) false)) (fun a X e' H'=>X = .ex 0∧Gs.get e' 5 = .fz false 1 (strL a)∧H'=[(2,.box s.cells false),(3,.box (bxc b) false)]) ?_ ?_ [] e H ⟨Nat.le_refl _,h2,h3,h5,h6,hS,hB⟩).mono fun X e' H' h=>h
 · rintro i f a e H hx hi ⟨hal,h2,h3,h5,h6,hS,hB⟩
   have hx':(s.flaws.map Flaw.enc)[i]?=some f.enc:=by simp [hx]
   have hsl:=inStep_len (rOver b) (·.name) a f
   have had:=e_sadd false a f.name (by omega)
   obtain ⟨o1,o2,o3⟩:=ho f (List.mem_of_getElem? hx)
   have hov:=e_rOverlaps f o1 o2 o3 b hr
   cases hc:rOver b f with
   | true=>
     have hm:inStep (rOver b) (·.name) a f=insB f.name a:=by simp [inStep,hc]
     rw [hm] at hsl ⊢
     simp only [↓eA,eB,seval,l21003,h2,h3,h5,h6,hS,hB,hi,hx',hov,hc,had,wrap_succ (show i < 4611686018427387904 by omega)]
     refine ⟨trivial,by omega,?_⟩
     and_intros<;>first | trivial | rfl
   | false=>
     have hm:inStep (rOver b) (·.name) a f=a:=by simp [inStep,hc]
     rw [hm]
     simp only [↓eA,eB,seval,l21003,h2,h3,h5,h6,hS,hB,hi,hx',hov,hc,wrap_succ (show i < 4611686018427387904 by omega)]
     refine ⟨trivial,by omega,?_⟩
     and_intros<;>first | trivial | rfl
 · rintro a e H ⟨hal,h2,h3,h5,h6,hS,hB⟩
   simp only [↓eA,eB,seval,l21003,h2,h3,h5,h6,hS,hB,Nat.lt_irrefl]
   and_intros<;>first | trivial | rfl
def rFlw (s:Survey)(b:Box):List ByteArray:=s.flaws.foldl (inStep (rOver b) (·.name)) []
theorem e_rFlaws (s:Survey)(hF:s.Fit0)(b:Box)(hr:AllIn (rect b))(ho:∀ f∈s.flaws,0 < f.base.length∧f.base.length < 1000000000∧AllIn f.base):L.call 21 [s.enc,b.enc] []=some (.fz false 1 (strL (rFlw s b)),[]):=
 call_eq rfl rfl (by
   simp only [↓eA,eB,seval,c21]
   generalize hE:(lim T).loop 21003 _ _=R
   obtain ⟨X,e',H',rfl,rfl,g5,rfl⟩:=Ends.at hE (lp_rfl s hF b hr ho _ _ rfl rfl rfl rfl rfl rfl)
   simp only [↓eA,eB,seval,g5]
   rfl)
end Tz
