/- part P7; part P8; part P9; part P10; no conditions. -/
import Derived.Test.YtbdcbppmgbekoaaGreatP5toP6
import Derived.Test.YtbdcbppmgbekoaaGreatS6
set_option linter.all false
open Gs Go
namespace Tz
open Geo (Q Btw Apart)
def qP (v:Pt):Q:=⟨4000001 * v.y + v.x,v.x⟩
theorem D_q (a b c:Pt):Geo.D (qP a) (qP b) (qP c)=4000001 * det a b c:=by unfold Geo.D qP det; grind
def upB (a b:Pt):Bool:=decide (a.y < b.y) || (decide (b.y=a.y) && decide (a.x < b.x))
theorem q_lt {a b:Pt}(ha:a.In)(hb:b.In):(qP a).t < (qP b).t↔upB a b=true:=by
 obtain ⟨h1,h2,h3,h4⟩:=ha
 obtain ⟨h5,h6,h7,h8⟩:=hb
 simp only [qP,upB,Bool.or_eq_true,Bool.and_eq_true,decide_eq_true_eq]
 omega
theorem q_ne {a b:Pt}(ha:a.In)(hb:b.In)(h:(qP a).t=(qP b).t):a.x=b.x∧a.y=b.y:=by
 obtain ⟨h1,h2,h3,h4⟩:=ha
 obtain ⟨h5,h6,h7,h8⟩:=hb
 simp only [qP] at h
 omega
theorem sgn_zero {n:Int}(h:n=0):sgn n=0:=by subst h; rfl
theorem sgn_neg {m n:Int}(h:m * n < 0):sgn m * sgn n < 0:=by
 have key:∀ {m:Int},m=0→m * n=0:=fun h=>by rw [h,Int.zero_mul]
 rcases Int.lt_trichotomy m 0 with h1 | h1 | h1
 · rcases Int.lt_trichotomy n 0 with h2 | h2 | h2
   · have:=Int.mul_pos_of_neg_of_neg h1 h2; omega
   · rw [h2,Int.mul_zero] at h; omega
   · unfold sgn; rw [if_neg (by omega),if_pos h1,if_pos h2]; decide
 · rw [key h1] at h; omega
 · rcases Int.lt_trichotomy n 0 with h2 | h2 | h2
   · unfold sgn; rw [if_pos h1,if_neg (by omega),if_pos h2]; decide
   · rw [h2,Int.mul_zero] at h; omega
   · have:=Int.mul_pos h1 h2; omega
theorem btw_mul {U W e g:Int}(hU:0 < U)(h0:0≤W)(h1:W≤U)(h:e * W=g * U):min 0 e≤g∧g≤max 0 e:=by
 have hg:∀ z:Int,0≤z * U→0≤z:=fun z hz=>by
   rcases Int.lt_or_le z 0 with g | g
   · have:=Int.mul_neg_of_neg_of_pos g hU; omega
   · exact g
 rcases Int.le_total 0 e with he | he
 · have a1:0≤g:=hg g (by rw [←h]; exact Int.mul_nonneg he h0)
   have a2:0≤e - g:=hg (e - g) (by rw [Int.sub_mul,←h]; have:=Int.mul_le_mul_of_nonneg_left h1 he; omega)
   omega
 · have a1:0≤-g:=hg (-g) (by
     rw [Int.neg_mul,←h]
     have:=Int.mul_nonneg (show 0≤-e by omega) h0
     rw [Int.neg_mul] at this; omega)
   have a2:0≤g - e:=hg (g - e) (by
     rw [Int.sub_mul,←h]
     have:=Int.mul_le_mul_of_nonneg_left h1 (show 0≤-e by omega)
     rw [Int.neg_mul,Int.neg_mul] at this; omega)
   omega
structure Hgt (T:Pt→Q) (α β γ κ:Int):Prop where
 t:∀ v,(T v).t=α * v.x + β * v.y + γ
 d:∀ a b c,Geo.D (T a) (T b) (T c)=κ * det a b c
 k:0 < κ
 ne:∀ {a b:Pt},a.In→b.In→(T a).t=(T b).t→a.x=b.x∧a.y=b.y
section
variable {T:Pt→Q} {α β γ κ:Int}
theorem mul_zero_of {k m:Int}(hk:0 < k)(h:k * m=0):m=0:=by
 rcases Int.mul_eq_zero.1 h with h | h
 · omega
 · exact h
theorem on_of (hT:Hgt T α β γ κ){a b c:Pt}(hab:(T a).t≠(T b).t)(hb:Btw (T a) (T b) (T c))(hd:det a b c=0):onS a b c=true:=by
 have h0:(b.x - a.x) * (c.y - a.y) - (b.y - a.y) * (c.x - a.x)=0:=hd
 have hx:(b.x - a.x) * ((T c).t - (T a).t)=(c.x - a.x) * ((T b).t - (T a).t):=by rw [hT.t,hT.t,hT.t]; grind
 have hy:(b.y - a.y) * ((T c).t - (T a).t)=(c.y - a.y) * ((T b).t - (T a).t):=by rw [hT.t,hT.t,hT.t]; grind
 unfold onS
 simp only [Bool.and_eq_true,decide_eq_true_eq]
 rcases Int.lt_or_gt_of_ne hab with hlt | hlt
 · have hb':(T a).t≤(T c).t∧(T c).t≤(T b).t:=by unfold Btw at hb; omega
   have e1:=btw_mul (show 0 < (T b).t - (T a).t by omega) (by omega) (by omega) hx
   have e2:=btw_mul (show 0 < (T b).t - (T a).t by omega) (by omega) (by omega) hy
   exact ⟨⟨⟨⟨sgn_zero hd,by omega⟩,by omega⟩,by omega⟩,by omega⟩
 · have hb':(T b).t≤(T c).t∧(T c).t≤(T a).t:=by unfold Btw at hb; omega
   have hx':(b.x - a.x) * ((T a).t - (T c).t)=(c.x - a.x) * ((T a).t - (T b).t):=by
     rw [←Int.neg_sub (T c).t (T a).t,←Int.neg_sub (T b).t (T a).t,Int.mul_neg,Int.mul_neg,hx]
   have hy':(b.y - a.y) * ((T a).t - (T c).t)=(c.y - a.y) * ((T a).t - (T b).t):=by
     rw [←Int.neg_sub (T c).t (T a).t,←Int.neg_sub (T b).t (T a).t,Int.mul_neg,Int.mul_neg,hy]
   have e1:=btw_mul (show 0 < (T a).t - (T b).t by omega) (by omega) (by omega) hx'
   have e2:=btw_mul (show 0 < (T a).t - (T b).t by omega) (by omega) (by omega) hy'
   exact ⟨⟨⟨⟨sgn_zero hd,by omega⟩,by omega⟩,by omega⟩,by omega⟩
theorem apart_of (hT:Hgt T α β γ κ){a b c d:Pt}(hab:(T a).t≠(T b).t)(hcd:(T c).t≠(T d).t)(hm:meets a b c d=false):Apart (T a) (T b) (T c) (T d):=by
 unfold meets at hm
 simp only [Bool.or_eq_false_iff] at hm
 obtain ⟨⟨⟨⟨h1,h2⟩,h3⟩,h4⟩,h5⟩:=hm
 have z:∀ {a b c:Pt},Geo.D (T a) (T b) (T c)=0→det a b c=0:=by intro a b c h; rw [hT.d] at h; exact mul_zero_of hT.k h
 refine ⟨fun g e=>?_,fun g e=>?_,fun g e=>?_,fun g e=>?_,fun ⟨g1,g2⟩=>?_⟩
 · rw [on_of hT hab g (z e)] at h1; cases h1
 · rw [on_of hT hab g (z e)] at h2; cases h2
 · rw [on_of hT hcd g (z e)] at h3; cases h3
 · rw [on_of hT hcd g (z e)] at h4; cases h4
 · have s:∀ m n:Int,κ * m * (κ * n) < 0→m * n < 0:=by
     intro m n h
     have e:κ * m * (κ * n)=κ * κ * (m * n):=by grind
     rw [e] at h
     exact Geo.neg_of_mul (Int.mul_pos hT.k hT.k) h
   rw [hT.d,hT.d] at g1 g2
   have e1:=sgn_neg (s _ _ g1)
   have e2:=sgn_neg (s _ _ g2)
   unfold ori at h5
   rw [decide_eq_true e1,decide_eq_true e2] at h5
   cases h5
end
theorem hgt_q:Hgt qP 1 4000001 0 4000001:=⟨fun v=>by simp only [qP]; omega,D_q,by decide,q_ne⟩
def swB (p:List Pt)(i:Nat):Bool:=!upB (pt p i) (pt p (nx p i)) && upB (pt p (nx p i)) (pt p (nx p (nx p i)))
section
variable {p:List Pt}
abbrev fT (T:Pt→Q)(p:List Pt)(i:Nat):Q:=T (pt p (i % p.length))
abbrev fP (p:List Pt)(i:Nat):Q:=fT qP p i
theorem mod_succ (p:List Pt)(i:Nat):(i + 1) % p.length=nx p (i % p.length):=by unfold nx; rw [Nat.mod_add_mod]
theorem det_pos (hp:3≤p.length)(hc:convex p=true)(i:Nat):0 < det (pt p (i % p.length)) (pt p (nx p (i % p.length))) (pt p (nx p (nx p (i % p.length)))):=by
 unfold convex at hc
 simp only [Bool.and_eq_true,Bool.not_eq_true'] at hc
 have h:=List.any_eq_false.1 hc.1 (i % p.length) (by simpa using Nat.mod_lt i (show 0 < p.length by omega))
 simp only [Bool.not_eq_true',decide_eq_false_iff_not,Classical.not_not] at h
 unfold ori sgn at h
 split at h
 · assumption
 · split at h<;>omega
theorem sides {T:Pt→Q}{α β γ κ:Int}(hT:Hgt T α β γ κ)(hp:3≤p.length)(ha:AllIn p)(hc:convex p=true) :
   (∀ i,fT T p (i + p.length)=fT T p i)∧(∀ i,(fT T p i).t≠(fT T p (i + 1)).t)∧(∀ i,0 < Geo.D (fT T p i) (fT T p (i + 1)) (fT T p (i + 2)))∧
   ∀ i k,i + 2≤k→k + 1 < i + p.length→Apart (fT T p i) (fT T p (i + 1)) (fT T p k) (fT T p (k + 1)):=by
 have hdet:=det_pos hp hc
 unfold convex at hc
 simp only [Bool.and_eq_true,Bool.not_eq_true'] at hc
 obtain ⟨ht,hx⟩:=hc
 have hn:0 < p.length:=by omega
 have hlt:∀ i,i % p.length < p.length:=fun i=>Nat.mod_lt _ hn
 have hne:∀ i,(fT T p i).t≠(fT T p (i + 1)).t:=by
   intro i h
   obtain ⟨e1,e2⟩:=hT.ne (ha.pt (hlt i)) (ha.pt (hlt (i + 1))) h
   have hd:=hdet i
   rw [mod_succ] at e1 e2
   unfold det at hd
   rw [e1,e2,Int.sub_self,Int.sub_self,Int.zero_mul,Int.zero_mul] at hd
   omega
 have hm:∀ i k,i < p.length→i + 2≤k→k < p.length→nx p k≠i→Apart (T (pt p i)) (T (pt p (nx p i))) (T (pt p k)) (T (pt p (nx p k))):=by
   intro i k hi hik hk hnk
   have h1:=List.any_eq_false.1 hx i (by simpa using hi)
   have h2:=List.any_eq_false.1 (Bool.not_eq_true _ ▸ h1) k (by rw [List.mem_range'_1]; omega)
   unfold crossB at h2
   rw [decide_eq_false (by omega)] at h2
   have n1:=hne i
   have n2:=hne k
   have m1:=mod_succ p i
   have m2:=mod_succ p k
   rw [Nat.mod_eq_of_lt hi] at m1
   rw [Nat.mod_eq_of_lt hk] at m2
   simp only [fT,m1,m2,Nat.mod_eq_of_lt hi,Nat.mod_eq_of_lt hk] at n1 n2
   exact apart_of hT n1 n2 (by simpa using h2)
 refine ⟨fun i=>by unfold fT; rw [Nat.add_mod_right],hne,fun i=>?_,fun i k hik hki=>?_⟩
 · have:=hdet i
   show 0 < Geo.D (T (pt p (i % p.length))) (T (pt p ((i + 1) % p.length))) (T (pt p ((i + 1 + 1) % p.length)))
   rw [mod_succ p (i + 1),mod_succ p i,hT.d]
   exact Int.mul_pos hT.k this
 · obtain ⟨d,rfl⟩:∃ d,k=i + d:=⟨k - i,by omega⟩
   show Apart (T (pt p (i % p.length))) (T (pt p ((i + 1) % p.length))) (T (pt p ((i + d) % p.length))) (T (pt p ((i + d + 1) % p.length)))
   rw [mod_succ p i,mod_succ p (i + d)]
   have hi:=hlt i
   have hk:=hlt (i + d)
   rw [←Nat.mod_add_mod] at hk ⊢
   generalize i % p.length=i' at hi hk ⊢
   rcases Nat.lt_or_ge (i' + d) p.length with h | h
   · rw [Nat.mod_eq_of_lt h]
     refine hm i' (i' + d) hi (by omega) h ?_
     unfold nx
     intro e
     rcases Nat.lt_or_ge (i' + d + 1) p.length with g | g
     · rw [Nat.mod_eq_of_lt g] at e; omega
     · rw [show i' + d + 1=p.length by omega,Nat.mod_self] at e; omega
   · have e:(i' + d) % p.length=i' + d - p.length:=by rw [Nat.mod_eq_sub_mod h,Nat.mod_eq_of_lt (by omega)]
     rw [e]
     refine (hm (i' + d - p.length) i' (by omega) (by omega) hi ?_).symm
     unfold nx
     intro e
     rcases Nat.lt_or_ge (i' + 1) p.length with g | g
     · rw [Nat.mod_eq_of_lt g] at e; omega
     · rw [show i' + 1=p.length by omega,Nat.mod_self] at e; omega
theorem count_one {α:Type}(P:α→Bool):∀ (l:List α),l.Nodup→(∃ x∈l,P x=true)→(∀ x∈l,∀ y∈l,P x=true→P y=true→x=y)→(l.filter P).length=1
 | [],_,⟨x,hx,_⟩,_=>by cases hx
 | a :: r,hn,⟨x,hx,hp⟩,hu=>by
   obtain ⟨h1,h2⟩:=List.nodup_cons.1 hn
   cases ha:P a with
   | true=>
     have hr:r.filter P=[]:=List.filter_eq_nil_iff.2 fun y hy he=>by
       have:=hu a List.mem_cons_self y (List.mem_cons_of_mem _ hy) ha he
       subst this; exact h1 hy
     rw [List.filter_cons,ha,hr]; rfl
   | false=>
     rw [List.filter_cons,ha]
     refine count_one P r h2 ⟨x,?_,hp⟩ (fun y hy z hz=>hu y (List.mem_cons_of_mem _ hy) z (List.mem_cons_of_mem _ hz))
     rcases List.mem_cons.1 hx with rfl | hx
     · rw [ha] at hp; cases hp
     · exact hx
theorem turns_once (hp:3≤p.length)(ha:AllIn p)(hc:convex p=true):((List.range p.length).filter (swB p)).length=1:=by
 obtain ⟨per,ne,turn,ap⟩:=sides hgt_q hp ha hc
 have hn:0 < p.length:=by omega
 have hlt:∀ i,i % p.length < p.length:=fun i=>Nat.mod_lt _ hn
 have hup:∀ i,Geo.Up (fP p) i↔upB (pt p (i % p.length)) (pt p (nx p (i % p.length)))=true:=by
   intro i
   rw [←mod_succ]
   exact q_lt (ha.pt (hlt i)) (ha.pt (hlt (i + 1)))
 have hsw:∀ i,i < p.length→(swB p i=true↔Geo.Sw (fP p) i):=by
   intro i hi
   have h1:=hup i
   have h2:=hup (i + 1)
   rw [mod_succ] at h2
   rw [Nat.mod_eq_of_lt hi] at h1 h2
   unfold swB Geo.Sw
   rw [Bool.and_eq_true,Bool.not_eq_true',h1,h2,Bool.not_eq_true]
 refine count_one _ _ List.nodup_range ?_ ?_
 · obtain ⟨i,hi,hs⟩:=Geo.some_turn hn per ne
   exact ⟨i,by simpa using hi,(hsw i hi).2 hs⟩
 · intro i hi j hj si sj
   have hi':i < p.length:=by simpa using hi
   have hj':j < p.length:=by simpa using hj
   have s1:=(hsw i hi').1 si
   have s2:=(hsw j hj').1 sj
   rcases Nat.lt_trichotomy i j with h | h | h
   · exact (Geo.one_turn hn per ne turn ap h (by omega) s1 s2).elim
   · exact h
   · exact (Geo.one_turn hn per ne turn ap h (by omega) s2 s1).elim
end
end Tz
open Gs Go
namespace Tz
open Geo (Q Btw Apart)
section
variable {p:List Pt}
end
end Tz
open Gs Go
namespace Tz
structure Cvx (p:List Pt):Prop where
 len:3≤p.length
 g:∀ {i k:Nat},i < p.length→k < p.length→0≤det (pt p i) (pt p (nx p i)) (pt p k)
 s:0 < det (pt p 0) (pt p (nx p 0)) (pt p (nx p (nx p 0)))
abbrev Rt (u v:Pt)(x y:Int):Prop:=det u v ⟨x,y⟩≤0
def Edg (p:List Pt)(x0 y0 x1 y1:Int):Prop:=∃ i,i < p.length∧Rt (pt p i) (pt p (nx p i)) x0 y0∧Rt (pt p i) (pt p (nx p i)) x1 y0∧Rt (pt p i) (pt p (nx p i)) x1 y1∧Rt (pt p i) (pt p (nx p i)) x0 y1
def Side (p:List Pt)(x0 y0 x1 y1:Int):Prop:=(∀ c∈p,c.y≤y0)∨(∀ c∈p,x1≤c.x)∨(∀ c∈p,y1≤c.y)∨(∀ c∈p,c.x≤x0)
section
variable {p:List Pt} {x0 a x1 y0 y1:Int}
end
end Tz
open Gs Go
namespace Tz
def rq (v:Pt):Pt:=⟨v.y,-v.x⟩
theorem det_rq (a b c:Pt):det (rq a) (rq b) (rq c)=det a b c:=by unfold det rq; grind
section
variable {p:List Pt} {x0 x1 a y0 y1:Int}
theorem nx_rq (p:List Pt)(i:Nat):nx (p.map rq) i=nx p i:=by unfold nx; rw [List.length_map]
theorem pt_rq {i:Nat}(h:i < p.length):pt (p.map rq) i=rq (pt p i):=by simp [pt,h]
theorem Cvx.rq (h:Cvx p):Cvx (p.map rq):=by
 have hn:0 < p.length:=by have:=h.len; omega
 have l1:=nx_lt (p:=p) (i:=0) hn
 refine ⟨by rw [List.length_map]; exact h.len,fun {i k} hi hk=>?_,?_⟩
 · rw [List.length_map] at hi hk
   rw [nx_rq,pt_rq hi,pt_rq hk,pt_rq (nx_lt hn),det_rq]
   exact h.g hi hk
 · rw [nx_rq,nx_rq,pt_rq hn,pt_rq l1,pt_rq (nx_lt hn),det_rq]
   exact h.s
end
end Tz
