/- part S142; part S143; part S144; part S145; no conditions. -/
import Derived.Test.YtogfagkjndoefaaGreatS163toS141
set_option linter.all false
set_option maxHeartbeats 2000000
set_option maxRecDepth 100000
set_option maxRecDepth 100000
open Gs Go
namespace Tz
def fHit (b:Box)(f:Flaw):Bool:=pMeets f.base f.lo f.hi (rect b) b.z0 b.z1
structure FlawsOk (s:Survey) (b:Box):Prop where
 pr:∀ f∈s.flaws,PrOk f.base f.lo f.hi
 six:b.six.any far6=false
 ok:b.ok=true
def nmStep {α:Type}(hit:α→Bool)(nm:α→ByteArray)(acc:List ByteArray)(x:α):List ByteArray:=bif hit x then acc ++ [nm x] else acc
theorem nmStep_len {α:Type}(hit:α→Bool)(nm:α→ByteArray)(acc:List ByteArray)(x:α):(nmStep hit nm acc x).length≤acc.length + 1:=by
 unfold nmStep; cases hit x<;>simp
theorem nmStep_all {α:Type}(hit:α→Bool)(nm:α→ByteArray):∀ (l:List α) (acc:List ByteArray),l.foldl (nmStep hit nm) acc=acc ++ (l.filter hit).map nm
 | [],acc=>by simp
 | x :: r,acc=>by
   rw [List.foldl_cons,nmStep_all hit nm r,nmStep,List.filter_cons]
   cases hit x<;>simp
theorem lp_fl (s:Survey)(hF:s.Fit0)(b:Box)(ho:FlawsOk s b)(e:Env)(H:Heap)(h3:Gs.get e 3 = .ptr 3 0)(h8:Gs.get e 8 = .ow 1008)(h25:Gs.get e 25 = .fz false 4 (s.flaws.map Flaw.enc))(h26:Gs.get e 26=int s.flaws.length)(h27:Gs.get e 27=int 0)(hB:hget H 3=some (.box (bxc b) false))(hH:hget H 1008=some (.row true 1 [] 0 true)) :
   Ends T 69009 e H (fun X e' H'=>X = .ex 0∧Gs.get e' 8 = .ow 1008∧hget H' 1008=some (.row true 1 (((s.flaws.filter (fHit b)).map (·.name)).map .str) 0 true)):=by
 have hb:=hF.fl
 refine (loop_fold (T:=T) (key:=69009) (li:=l69009.1) rfl s.flaws (nmStep (fHit b) (·.name)) (fun i a e H=>a.length≤i∧Gs.get e 3 = .ptr 3 0∧Gs.get e 8 = .ow 1008∧Gs.get e 25 = .fz false 4 (s.flaws.map Flaw.enc)∧Gs.get e 26=int s.flaws.length∧Gs.get e 27=int i∧hget H 3=some (.box (bxc b) false)∧hget H 1008=some (.row true 1 (a.map .str) 0 true)) (fun a X e' H'=>X = .ex 0∧Gs.get e' 8 = .ow 1008∧hget H' 1008=some (.row true 1 (a.map .str) 0 true)) ?_ ?_ [] e H ⟨Nat.le_refl _,h3,h8,h25,h26,h27,hB,hH⟩).mono fun X e' H' h=>by rw [nmStep_all] at h; exact h
 · rintro i f a e H hx hi ⟨hal,h3,h8,h25,h26,h27,hB,hH⟩
   have hx':(s.flaws.map Flaw.enc)[i]?=some f.enc:=by simp [hx]
   have hpr:=e_prOverlaps (ho.pr f (List.mem_of_getElem? hx)) ho.six ho.ok
   have hsl:=nmStep_len (fHit b) (·.name) a f
   have hfit:fits (a.length + (0 + 1)) 16=true:=fits_of (by omega)
   have hfit':fits (a.length + 1) 16=true:=fits_of (by omega)
   cases hc:fHit b f with
   | true=>
     have hc':=hc; simp only [fHit] at hc'
     have hm:List.map D.str a ++ [.str f.name]=List.map D.str (nmStep (fHit b) (·.name) a f):=by simp [nmStep,hc]
     simp only [↓eA,eB,seval,l69009,h3,h8,h25,h26,h27,hB,hH,hi,hx',hpr,hc',hfit,hfit',hm,wrap_succ (show i < 4611686018427387904 by omega)]
     refine ⟨trivial,by omega,?_⟩
     and_intros<;>first | trivial | rfl
   | false=>
     have hc':=hc; simp only [fHit] at hc'
     have hm:nmStep (fHit b) (·.name) a f=a:=by simp [nmStep,hc]
     simp only [↓eA,eB,seval,l69009,h3,h8,h25,h26,h27,hB,hH,hi,hx',hpr,hc',hm,wrap_succ (show i < 4611686018427387904 by omega)]
     refine ⟨trivial,by omega,?_⟩
     and_intros<;>first | trivial | rfl
 · rintro a e H ⟨hal,h3,h8,h25,h26,h27,hB,hH⟩
   simp only [↓eA,eB,seval,l69009,h3,h8,h25,h26,h27,hB,hH,Nat.lt_irrefl]
   and_intros<;>first | trivial | rfl
def sbErr (s:Survey)(b:Box):Int:=bif decide (surveyErr s=0) then boxedErr s b else surveyErr s
def flawsR (s:Survey)(b:Box):List ByteArray:=bif decide (sbErr s b=0) then (s.flaws.filter (fHit b)).map (·.name) else []
theorem e_flaws (s:Survey)(hF:s.Fit)(b:Box)(ho:sbErr s b=0→FlawsOk s b):L.call 69 [s.enc,b.enc] []=some (.tup [.fz true 1 ((flawsR s b).map .str),int (sbErr s b)],[]):=by
 unfold flawsR
 cases h1:decide (surveyErr s=0) with
 | false=>
   have h1':sbErr s b=surveyErr s:=by simp only [sbErr,h1,cond_false]
   rw [h1',h1]
   exact call_eq rfl rfl (by simp only [↓eA,eB,seval,c69,e_pCheck s hF,h1]; rfl)
 | true=>
   have h0:=of_decide_eq_true h1
   have h1':sbErr s b=boxedErr s b:=by simp only [sbErr,h1,cond_true]
   rw [h1'] at ho ⊢
   cases h2:decide (boxedErr s b=0) with
   | false=>exact call_eq rfl rfl (by simp only [↓eA,eB,seval,c69,e_pCheck s hF,h1,e_boxed,h2]; rfl)
   | true=>
     have h02:=of_decide_eq_true h2
     exact call_eq rfl rfl (by
       simp only [↓eA,eB,seval,c69,e_pCheck s hF,h1,e_boxed,h2]
       generalize hE:(lim T).loop 69009 _ _=R
       obtain ⟨X,e',H',rfl,rfl,g8,gH⟩:=Ends.at hE (lp_fl s hF.toFit0 b (ho h02) _ _ rfl rfl rfl rfl rfl rfl rfl)
       simp only [↓eA,eB,seval,g8,gH]
       rw [h02])
end Tz
set_option maxHeartbeats 2000000
set_option maxRecDepth 100000
set_option maxRecDepth 100000
open Gs Go
namespace Tz
def bHit (b:Box)(x:Bed):Bool:=decide (b.z0 < x.z) && decide (x.z < b.z1)
def jtHit (b:Box)(j:Joint):Bool:=((decide (b.lo j.axis < j.at_) && decide (j.at_ < b.hi j.axis)) && decide (j.lo < b.z1)) && decide (b.z0 < j.hi)
theorem lp_t1 (s:Survey)(hF:s.Fit0)(b:Box)(e:Env)(H:Heap)(h2:Gs.get e 2 = .ptr 2 0)(h3:Gs.get e 3 = .ptr 3 0)(h8:Gs.get e 8 = .ow 1008)(h25:Gs.get e 27 = .fz false 2 (s.beds.map Bed.enc))(h26:Gs.get e 28=int s.beds.length)(h27:Gs.get e 29=int 0)(hS:hget H 2=some (.box s.cells false))(hB:hget H 3=some (.box (bxc b) false))(hH:hget H 1008=some (.row true 1 [] 0 true)) :
   Ends T 90009 e H (fun X e' H'=>X = .ex 0∧Gs.get e' 2 = .ptr 2 0∧Gs.get e' 3 = .ptr 3 0∧Gs.get e' 8 = .ow 1008∧H'=[(2,.box s.cells false),(3,.box (bxc b) false),(1008,.row true 1 (((s.beds.filter (bHit b)).map (·.name)).map .str) 0 true)]):=by
 have hb:=hF.bl
 refine (loop_fold (T:=T) (key:=90009) (li:=l90009.1) rfl s.beds (nmStep (bHit b) (·.name)) (fun i a e H=>a.length≤i∧Gs.get e 2 = .ptr 2 0∧Gs.get e 3 = .ptr 3 0∧Gs.get e 8 = .ow 1008∧Gs.get e 27 = .fz false 2 (s.beds.map Bed.enc)∧Gs.get e 28=int s.beds.length∧Gs.get e 29=int i∧hget H 2=some (.box s.cells false)∧hget H 3=some (.box (bxc b) false)∧hget H 1008=some (.row true 1 (a.map .str) 0 true)) (fun a X e' H'=>X = .ex 0∧Gs.get e' 2 = .ptr 2 0∧Gs.get e' 3 = .ptr 3 0∧Gs.get e' 8 = .ow 1008∧H'=[(2,.box s.cells false),(3,.box (bxc b) false),(1008,.row true 1 (a.map .str) 0 true)]) ?_ ?_ [] e H ⟨Nat.le_refl _,h2,h3,h8,h25,h26,h27,hS,hB,hH⟩).mono fun X e' H' h=>by rw [nmStep_all] at h; exact h
 · rintro i f a e H hx hi ⟨hal,h2,h3,h8,h25,h26,h27,hS,hB,hH⟩
   have hx':(s.beds.map Bed.enc)[i]?=some f.enc:=by simp [hx]
   have hsl:=nmStep_len (bHit b) (·.name) a f
   have hfit:fits (a.length + (0 + 1)) 16=true:=fits_of (by omega)
   have hfit':fits (a.length + 1) 16=true:=fits_of (by omega)
   cases hc:bHit b f with
   | true=>
     have hc':=hc; simp only [bHit,Bool.and_eq_true] at hc'
     have hm:List.map D.str a ++ [.str f.name]=List.map D.str (nmStep (bHit b) (·.name) a f):=by simp [nmStep,hc]
     simp only [↓eA,eB,seval,l90009,h2,h3,h8,h25,h26,h27,hS,hB,hH,hi,hx',hc'.1,hc'.2,hfit,hfit',hm,wrap_succ (show i < 4611686018427387904 by omega)]
     refine ⟨trivial,by omega,?_⟩
     and_intros<;>first | trivial | rfl
   | false=>
     have hm:nmStep (bHit b) (·.name) a f=a:=by simp [nmStep,hc]
     have hc':=hc; simp only [bHit] at hc'
     cases d1:decide (b.z0 < f.z)<;>rw [d1] at hc'<;>simp only [Bool.true_and,Bool.false_and] at hc' <;>
     simp only [↓eA,eB,seval,l90009,h2,h3,h8,h25,h26,h27,hS,hB,hH,hi,hx',d1,hc',hm,wrap_succ (show i < 4611686018427387904 by omega)] <;>
     refine ⟨trivial,by omega,?_⟩ <;>
     and_intros<;>first | trivial | rfl
 · rintro a e H ⟨hal,h2,h3,h8,h25,h26,h27,hS,hB,hH⟩
   simp only [↓eA,eB,seval,l90009,h2,h3,h8,h25,h26,h27,hS,hB,hH,Nat.lt_irrefl]
   and_intros<;>first | trivial | rfl
theorem lp_t2 (s:Survey)(hF:s.Fit0)(b:Box)(acc:List ByteArray)(hacc:acc.length≤1000000000)(e:Env)(H:Heap)(h3:Gs.get e 3 = .ptr 3 0)(h8:Gs.get e 8 = .ow 1008)(h25:Gs.get e 54 = .fz false 5 (s.joints.map Joint.enc))(h26:Gs.get e 55=int s.joints.length)(h27:Gs.get e 56=int 0)(hB:hget H 3=some (.box (bxc b) false))(hH:hget H 1008=some (.row true 1 (acc.map .str) 0 true)) :
   Ends T 90015 e H (fun X e' H'=>X = .ex 2∧e'=[(3,.ptr 3 0),(8,.ow 1008),(54,.fz false 5 (s.joints.map Joint.enc)),(55,int s.joints.length),(56,int s.joints.length),(57,.bool false)]∧H'=[(3,.box (bxc b) false),(1008,.row true 1 ((acc ++ (s.joints.filter (jtHit b)).map (·.name)).map .str) 0 true)]):=by
 have hb:=hF.jl
 refine (loop_fold (T:=T) (key:=90015) (li:=l90015.1) rfl s.joints (nmStep (jtHit b) (·.name)) (fun i a e H=>a.length≤acc.length + i∧Gs.get e 3 = .ptr 3 0∧Gs.get e 8 = .ow 1008∧Gs.get e 54 = .fz false 5 (s.joints.map Joint.enc)∧Gs.get e 55=int s.joints.length∧Gs.get e 56=int i∧hget H 3=some (.box (bxc b) false)∧hget H 1008=some (.row true 1 (a.map .str) 0 true)) (fun a X e' H'=>X = .ex 2∧e'=[(3,.ptr 3 0),(8,.ow 1008),(54,.fz false 5 (s.joints.map Joint.enc)),(55,int s.joints.length),(56,int s.joints.length),(57,.bool false)]∧H'=[(3,.box (bxc b) false),(1008,.row true 1 (a.map .str) 0 true)]) ?_ ?_ acc e H ⟨Nat.le_refl _,h3,h8,h25,h26,h27,hB,hH⟩).mono fun X e' H' h=>by rw [nmStep_all] at h; exact h
 · rintro i f a e H hx hi ⟨hal,h3,h8,h25,h26,h27,hB,hH⟩
   have hx':(s.joints.map Joint.enc)[i]?=some f.enc:=by simp [hx]
   have hsl:=nmStep_len (jtHit b) (·.name) a f
   have hfit:fits (a.length + (0 + 1)) 16=true:=fits_of (by omega)
   have hfit':fits (a.length + 1) 16=true:=fits_of (by omega)
   cases hc:jtHit b f with
   | true=>
     have hc':=hc; simp only [jtHit,Bool.and_eq_true] at hc'
     have hm:List.map D.str a ++ [.str f.name]=List.map D.str (nmStep (jtHit b) (·.name) a f):=by simp [nmStep,hc]
     simp only [↓eA,eB,seval,l90015,h3,h8,h25,h26,h27,hB,hH,hi,hx',e_ends b f.axis,hc'.1.1.1,hc'.1.1.2,hc'.1.2,hc'.2,hfit,hfit',hm,wrap_succ (show i < 4611686018427387904 by omega)]
     refine ⟨trivial,by omega,?_⟩
     and_intros<;>first | trivial | rfl
   | false=>
     have hm:nmStep (jtHit b) (·.name) a f=a:=by simp [nmStep,hc]
     have hc':=hc; simp only [jtHit] at hc'
     cases d1:decide (b.lo f.axis < f.at_)<;>cases d2:decide (f.at_ < b.hi f.axis)<;>cases d3:decide (f.lo < b.z1)<;>rw [d1,d2,d3] at hc'<;>simp only [Bool.true_and,Bool.false_and] at hc' <;>
     simp only [↓eA,eB,seval,l90015,h3,h8,h25,h26,h27,hB,hH,hi,hx',e_ends b f.axis,d1,d2,d3,hc',hm,wrap_succ (show i < 4611686018427387904 by omega)] <;>
     refine ⟨trivial,by omega,?_⟩ <;>
     and_intros<;>first | trivial | rfl
 · rintro a e H ⟨hal,h3,h8,h25,h26,h27,hB,hH⟩
   simp only [↓eA,eB,seval,l90015,h3,h8,h25,h26,h27,hB,hH,Nat.lt_irrefl]
   and_intros<;>first | trivial | rfl
def thrL (s:Survey)(b:Box):List ByteArray:=(s.beds.filter (bHit b)).map (·.name) ++ (s.joints.filter (jtHit b)).map (·.name)
theorem thrL_len (s:Survey)(b:Box):(thrL s b).length≤s.beds.length + s.joints.length:=by
 have h1:=List.length_filter_le (bHit b) s.beds
 have h2:=List.length_filter_le (jtHit b) s.joints
 simp [thrL]; omega
def thrR (s:Survey)(b:Box):List ByteArray:=bif decide (sbErr s b=0) then sortB (thrL s b) else []
theorem e_through (s:Survey)(hF:s.Fit)(b:Box):L.call 90 [s.enc,b.enc] []=some (.tup [.fz true 1 ((thrR s b).map .str),int (sbErr s b)],[]):=by
 unfold thrR
 have hb:=hF.bl; have hj:=hF.jl
 cases h1:decide (surveyErr s=0) with
 | false=>
   have h1':sbErr s b=surveyErr s:=by simp only [sbErr,h1,cond_false]
   rw [h1',h1]
   exact call_eq rfl rfl (by simp only [↓eA,eB,seval,c90,e_pCheck s hF,h1]; rfl)
 | true=>
   have h1':sbErr s b=boxedErr s b:=by simp only [sbErr,h1,cond_true]
   rw [h1']
   cases h2:decide (boxedErr s b=0) with
   | false=>exact call_eq rfl rfl (by simp only [↓eA,eB,seval,c90,e_pCheck s hF,h1,e_boxed,h2]; rfl)
   | true=>
     have h02:=of_decide_eq_true h2
     exact call_eq rfl rfl (by
       simp only [↓eA,eB,seval,c90,e_pCheck s hF,h1,e_boxed,h2]
       generalize hE:(lim T).loop 90009 _ _=R
       obtain ⟨X,e',H',rfl,rfl,g2,g3,g8,rfl⟩:=Ends.at hE (lp_t1 s hF.toFit0 b _ _ rfl rfl rfl rfl rfl rfl rfl rfl rfl)
       simp only [↓eA,eB,seval,g2,g3,g8]
       generalize hE:(lim T).loop 90015 _ _=R
       obtain ⟨X,e',H',rfl,rfl,rfl,rfl⟩:=Ends.at hE (lp_t2 s hF.toFit0 b _ (by have:=List.length_filter_le (bHit b) s.beds; simp; omega) _ _ (by simp only [↓eA,eB,seval,g3]) (by simp only [↓eA,eB,seval,g8]) (by simp only [↓eA,eB,seval]) (by simp only [↓eA,eB,seval]) (by simp only [↓eA,eB,seval]) rfl rfl)
       have hs:=e_sort true (thrL s b) (by have:=thrL_len s b; omega)
       unfold thrL at hs
       simp only [↓eA,eB,seval,hs]
       rw [h02]; rfl)
end Tz
set_option maxHeartbeats 2000000
set_option maxRecDepth 100000
set_option maxRecDepth 100000
open Gs Go
namespace Tz
end Tz
set_option maxHeartbeats 2000000
set_option maxRecDepth 100000
set_option maxRecDepth 100000
open Gs Go
namespace Tz
end Tz
