/- part P7; part P8; part P9; part P10; no conditions. -/
import Derived.Test.YtbdcbppmgbekoaaGreatP5toP6
import Derived.Test.YtbdcbppmgbekoaaGreatS1toS6
set_option linter.all false
open Gs Go
namespace Tz
open Geo (Q Btw Apart)
def qP (v:Pt):Q:=⟨4000001 * v.y + v.x,v.x⟩
theorem D_q (a b c:Pt):Geo.D (qP a) (qP b) (qP c)=4000001 * det a b c:=by unfold Geo.D qP det; grind
def upB (a b:Pt):Bool:=decide (a.y < b.y) || (decide (b.y=a.y) && decide (a.x < b.x))
theorem q_lt {a b:Pt}(ha:a.In)(hb:b.In):(qP a).t < (qP b).t↔upB a b=true:=by
 obtain ⟨h1,h2,h3,h4⟩:=ha
 obtain ⟨h5,h6,h7,h8⟩:=hb
 simp only [qP,upB,Bool.or_eq_true,Bool.and_eq_true,decide_eq_true_eq]
 omega
theorem q_ne {a b:Pt}(ha:a.In)(hb:b.In)(h:(qP a).t=(qP b).t):a.x=b.x∧a.y=b.y:=by
 obtain ⟨h1,h2,h3,h4⟩:=ha
 obtain ⟨h5,h6,h7,h8⟩:=hb
 simp only [qP] at h
 omega
theorem sgn_zero {n:Int}(h:n=0):sgn n=0:=by subst h; rfl
theorem sgn_neg {m n:Int}(h:m * n < 0):sgn m * sgn n < 0:=by
 have key:∀ {m:Int},m=0→m * n=0:=fun h=>by rw [h,Int.zero_mul]
 rcases Int.lt_trichotomy m 0 with h1 | h1 | h1
 · rcases Int.lt_trichotomy n 0 with h2 | h2 | h2
   · have:=Int.mul_pos_of_neg_of_neg h1 h2; omega
   · rw [h2,Int.mul_zero] at h; omega
   · unfold sgn; rw [if_neg (by omega),if_pos h1,if_pos h2]; decide
 · rw [key h1] at h; omega
 · rcases Int.lt_trichotomy n 0 with h2 | h2 | h2
   · unfold sgn; rw [if_pos h1,if_neg (by omega),if_pos h2]; decide
   · rw [h2,Int.mul_zero] at h; omega
   · have:=Int.mul_pos h1 h2; omega
theorem btw_mul {U W e g:Int}(hU:0 < U)(h0:0≤W)(h1:W≤U)(h:e * W=g * U):min 0 e≤g∧g≤max 0 e:=by
 have hg:∀ z:Int,0≤z * U→0≤z:=fun z hz=>by
   rcases Int.lt_or_le z 0 with g | g
   · have:=Int.mul_neg_of_neg_of_pos g hU; omega
   · exact g
 rcases Int.le_total 0 e with he | he
 · have a1:0≤g:=hg g (by rw [←h]; exact Int.mul_nonneg he h0)
   have a2:0≤e - g:=hg (e - g) (by rw [Int.sub_mul,←h]; have:=Int.mul_le_mul_of_nonneg_left h1 he; omega)
   omega
 · have a1:0≤-g:=hg (-g) (by
     rw [Int.neg_mul,←h]
     have:=Int.mul_nonneg (show 0≤-e by omega) h0
     rw [Int.neg_mul] at this; omega)
   have a2:0≤g - e:=hg (g - e) (by
     rw [Int.sub_mul,←h]
     have:=Int.mul_le_mul_of_nonneg_left h1 (show 0≤-e by omega)
     rw [Int.neg_mul,Int.neg_mul] at this; omega)
   omega
structure Hgt (T:Pt→Q) (α β γ κ:Int):Prop where
 t:∀ v,(T v).t=α * v.x + β * v.y + γ
 d:∀ a b c,Geo.D (T a) (T b) (T c)=κ * det a b c
 k:0 < κ
 ne:∀ {a b:Pt},a.In→b.In→(T a).t=(T b).t→a.x=b.x∧a.y=b.y
section
variable {T:Pt→Q} {α β γ κ:Int}
theorem mul_zero_of {k m:Int}(hk:0 < k)(h:k * m=0):m=0:=by
 rcases Int.mul_eq_zero.1 h with h | h
 · omega
 · exact h
theorem on_of (hT:Hgt T α β γ κ){a b c:Pt}(hab:(T a).t≠(T b).t)(hb:Btw (T a) (T b) (T c))(hd:det a b c=0):onS a b c=true:=by
 have h0:(b.x - a.x) * (c.y - a.y) - (b.y - a.y) * (c.x - a.x)=0:=hd
 have hx:(b.x - a.x) * ((T c).t - (T a).t)=(c.x - a.x) * ((T b).t - (T a).t):=by rw [hT.t,hT.t,hT.t]; grind
 have hy:(b.y - a.y) * ((T c).t - (T a).t)=(c.y - a.y) * ((T b).t - (T a).t):=by rw [hT.t,hT.t,hT.t]; grind
 unfold onS
 simp only [Bool.and_eq_true,decide_eq_true_eq]
 rcases Int.lt_or_gt_of_ne hab with hlt | hlt
 · have hb':(T a).t≤(T c).t∧(T c).t≤(T b).t:=by unfold Btw at hb; omega
   have e1:=btw_mul (show 0 < (T b).t - (T a).t by omega) (by omega) (by omega) hx
   have e2:=btw_mul (show 0 < (T b).t - (T a).t by omega) (by omega) (by omega) hy
   exact ⟨⟨⟨⟨sgn_zero hd,by omega⟩,by omega⟩,by omega⟩,by omega⟩
 · have hb':(T b).t≤(T c).t∧(T c).t≤(T a).t:=by unfold Btw at hb; omega
   have hx':(b.x - a.x) * ((T a).t - (T c).t)=(c.x - a.x) * ((T a).t - (T b).t):=by
     rw [←Int.neg_sub (T c).t (T a).t,←Int.neg_sub (T b).t (T a).t,Int.mul_neg,Int.mul_neg,hx]
   have hy':(b.y - a.y) * ((T a).t - (T c).t)=(c.y - a.y) * ((T a).t - (T b).t):=by
     rw [←Int.neg_sub (T c).t (T a).t,←Int.neg_sub (T b).t (T a).t,Int.mul_neg,Int.mul_neg,hy]
   have e1:=btw_mul (show 0 < (T a).t - (T b).t by omega) (by omega) (by omega) hx'
   have e2:=btw_mul (show 0 < (T a).t - (T b).t by omega) (by omega) (by omega) hy'
   exact ⟨⟨⟨⟨sgn_zero hd,by omega⟩,by omega⟩,by omega⟩,by omega⟩
theorem apart_of (hT:Hgt T α β γ κ){a b c d:Pt}(hab:(T a).t≠(T b).t)(hcd:(T c).t≠(T d).t)(hm:meets a b c d=false):Apart (T a) (T b) (T c) (T d):=by
 unfold meets at hm
 simp only [Bool.or_eq_false_iff] at hm
 obtain ⟨⟨⟨⟨h1,h2⟩,h3⟩,h4⟩,h5⟩:=hm
 have z:∀ {a b c:Pt},Geo.D (T a) (T b) (T c)=0→det a b c=0:=by intro a b c h; rw [hT.d] at h; exact mul_zero_of hT.k h
 refine ⟨fun g e=>?_,fun g e=>?_,fun g e=>?_,fun g e=>?_,fun ⟨g1,g2⟩=>?_⟩
 · rw [on_of hT hab g (z e)] at h1; cases h1
 · rw [on_of hT hab g (z e)] at h2; cases h2
 · rw [on_of hT hcd g (z e)] at h3; cases h3
 · rw [on_of hT hcd g (z e)] at h4; cases h4
 · have s:∀ m n:Int,κ * m * (κ * n) < 0→m * n < 0:=by
     intro m n h
     have e:κ * m * (κ * n)=κ * κ * (m * n):=by grind
     rw [e] at h
     exact Geo.neg_of_mul (Int.mul_pos hT.k hT.k) h
   rw [hT.d,hT.d] at g1 g2
   have e1:=sgn_neg (s _ _ g1)
   have e2:=sgn_neg (s _ _ g2)
   unfold ori at h5
   rw [decide_eq_true e1,decide_eq_true e2] at h5
   cases h5
end
theorem hgt_q:Hgt qP 1 4000001 0 4000001:=⟨fun v=>by simp only [qP]; omega,D_q,by decide,q_ne⟩
def swB (p:List Pt)(i:Nat):Bool:=!upB (pt p i) (pt p (nx p i)) && upB (pt p (nx p i)) (pt p (nx p (nx p i)))
section
variable {p:List Pt}
abbrev fT (T:Pt→Q)(p:List Pt)(i:Nat):Q:=T (pt p (i % p.length))
abbrev fP (p:List Pt)(i:Nat):Q:=fT qP p i
theorem mod_succ (p:List Pt)(i:Nat):(i + 1) % p.length=nx p (i % p.length):=by unfold nx; rw [Nat.mod_add_mod]
theorem det_pos (hp:3≤p.length)(hc:convex p=true)(i:Nat):0 < det (pt p (i % p.length)) (pt p (nx p (i % p.length))) (pt p (nx p (nx p (i % p.length)))):=by
 unfold convex at hc
 simp only [Bool.and_eq_true,Bool.not_eq_true'] at hc
 have h:=List.any_eq_false.1 hc.1 (i % p.length) (by simpa using Nat.mod_lt i (show 0 < p.length by omega))
 simp only [Bool.not_eq_true',decide_eq_false_iff_not,Classical.not_not] at h
 unfold ori sgn at h
 split at h
 · assumption
 · split at h<;>omega
theorem sides {T:Pt→Q}{α β γ κ:Int}(hT:Hgt T α β γ κ)(hp:3≤p.length)(ha:AllIn p)(hc:convex p=true) :
   (∀ i,fT T p (i + p.length)=fT T p i)∧(∀ i,(fT T p i).t≠(fT T p (i + 1)).t)∧(∀ i,0 < Geo.D (fT T p i) (fT T p (i + 1)) (fT T p (i + 2)))∧
   ∀ i k,i + 2≤k→k + 1 < i + p.length→Apart (fT T p i) (fT T p (i + 1)) (fT T p k) (fT T p (k + 1)):=by
 have hdet:=det_pos hp hc
 unfold convex at hc
 simp only [Bool.and_eq_true,Bool.not_eq_true'] at hc
 obtain ⟨ht,hx⟩:=hc
 have hn:0 < p.length:=by omega
 have hlt:∀ i,i % p.length < p.length:=fun i=>Nat.mod_lt _ hn
 have hne:∀ i,(fT T p i).t≠(fT T p (i + 1)).t:=by
   intro i h
   obtain ⟨e1,e2⟩:=hT.ne (ha.pt (hlt i)) (ha.pt (hlt (i + 1))) h
   have hd:=hdet i
   rw [mod_succ] at e1 e2
   unfold det at hd
   rw [e1,e2,Int.sub_self,Int.sub_self,Int.zero_mul,Int.zero_mul] at hd
   omega
 have hm:∀ i k,i < p.length→i + 2≤k→k < p.length→nx p k≠i→Apart (T (pt p i)) (T (pt p (nx p i))) (T (pt p k)) (T (pt p (nx p k))):=by
   intro i k hi hik hk hnk
   have h1:=List.any_eq_false.1 hx i (by simpa using hi)
   have h2:=List.any_eq_false.1 (Bool.not_eq_true _ ▸ h1) k (by rw [List.mem_range'_1]; omega)
   unfold crossB at h2
   rw [decide_eq_false (by omega)] at h2
   have n1:=hne i
   have n2:=hne k
   have m1:=mod_succ p i
   have m2:=mod_succ p k
   rw [Nat.mod_eq_of_lt hi] at m1
   rw [Nat.mod_eq_of_lt hk] at m2
   simp only [fT,m1,m2,Nat.mod_eq_of_lt hi,Nat.mod_eq_of_lt hk] at n1 n2
   exact apart_of hT n1 n2 (by simpa using h2)
 refine ⟨fun i=>by unfold fT; rw [Nat.add_mod_right],hne,fun i=>?_,fun i k hik hki=>?_⟩
 · have:=hdet i
   show 0 < Geo.D (T (pt p (i % p.length))) (T (pt p ((i + 1) % p.length))) (T (pt p ((i + 1 + 1) % p.length)))
   rw [mod_succ p (i + 1),mod_succ p i,hT.d]
   exact Int.mul_pos hT.k this
 · obtain ⟨d,rfl⟩:∃ d,k=i + d:=⟨k - i,by omega⟩
   show Apart (T (pt p (i % p.length))) (T (pt p ((i + 1) % p.length))) (T (pt p ((i + d) % p.length))) (T (pt p ((i + d + 1) % p.length)))
   rw [mod_succ p i,mod_succ p (i + d)]
   have hi:=hlt i
   have hk:=hlt (i + d)
   rw [←Nat.mod_add_mod] at hk ⊢
   generalize i % p.length=i' at hi hk ⊢
   rcases Nat.lt_or_ge (i' + d) p.length with h | h
   · rw [Nat.mod_eq_of_lt h]
     refine hm i' (i' + d) hi (by omega) h ?_
     unfold nx
     intro e
     rcases Nat.lt_or_ge (i' + d + 1) p.length with g | g
     · rw [Nat.mod_eq_of_lt g] at e; omega
     · rw [show i' + d + 1=p.length by omega,Nat.mod_self] at e; omega
   · have e:(i' + d) % p.length=i' + d - p.length:=by rw [Nat.mod_eq_sub_mod h,Nat.mod_eq_of_lt (by omega)]
     rw [e]
     refine (hm (i' + d - p.length) i' (by omega) (by omega) hi ?_).symm
     unfold nx
     intro e
     rcases Nat.lt_or_ge (i' + 1) p.length with g | g
     · rw [Nat.mod_eq_of_lt g] at e; omega
     · rw [show i' + 1=p.length by omega,Nat.mod_self] at e; omega
theorem count_one {α:Type}(P:α→Bool):∀ (l:List α),l.Nodup→(∃ x∈l,P x=true)→(∀ x∈l,∀ y∈l,P x=true→P y=true→x=y)→(l.filter P).length=1
 | [],_,⟨x,hx,_⟩,_=>by cases hx
 | a :: r,hn,⟨x,hx,hp⟩,hu=>by
   obtain ⟨h1,h2⟩:=List.nodup_cons.1 hn
   cases ha:P a with
   | true=>
     have hr:r.filter P=[]:=List.filter_eq_nil_iff.2 fun y hy he=>by
       have:=hu a List.mem_cons_self y (List.mem_cons_of_mem _ hy) ha he
       subst this; exact h1 hy
     rw [List.filter_cons,ha,hr]; rfl
   | false=>
     rw [List.filter_cons,ha]
     refine count_one P r h2 ⟨x,?_,hp⟩ (fun y hy z hz=>hu y (List.mem_cons_of_mem _ hy) z (List.mem_cons_of_mem _ hz))
     rcases List.mem_cons.1 hx with rfl | hx
     · rw [ha] at hp; cases hp
     · exact hx
theorem turns_once (hp:3≤p.length)(ha:AllIn p)(hc:convex p=true):((List.range p.length).filter (swB p)).length=1:=by
 obtain ⟨per,ne,turn,ap⟩:=sides hgt_q hp ha hc
 have hn:0 < p.length:=by omega
 have hlt:∀ i,i % p.length < p.length:=fun i=>Nat.mod_lt _ hn
 have hup:∀ i,Geo.Up (fP p) i↔upB (pt p (i % p.length)) (pt p (nx p (i % p.length)))=true:=by
   intro i
   rw [←mod_succ]
   exact q_lt (ha.pt (hlt i)) (ha.pt (hlt (i + 1)))
 have hsw:∀ i,i < p.length→(swB p i=true↔Geo.Sw (fP p) i):=by
   intro i hi
   have h1:=hup i
   have h2:=hup (i + 1)
   rw [mod_succ] at h2
   rw [Nat.mod_eq_of_lt hi] at h1 h2
   unfold swB Geo.Sw
   rw [Bool.and_eq_true,Bool.not_eq_true',h1,h2,Bool.not_eq_true]
 refine count_one _ _ List.nodup_range ?_ ?_
 · obtain ⟨i,hi,hs⟩:=Geo.some_turn hn per ne
   exact ⟨i,by simpa using hi,(hsw i hi).2 hs⟩
 · intro i hi j hj si sj
   have hi':i < p.length:=by simpa using hi
   have hj':j < p.length:=by simpa using hj
   have s1:=(hsw i hi').1 si
   have s2:=(hsw j hj').1 sj
   rcases Nat.lt_trichotomy i j with h | h | h
   · exact (Geo.one_turn hn per ne turn ap h (by omega) s1 s2).elim
   · exact h
   · exact (Geo.one_turn hn per ne turn ap h (by omega) s2 s1).elim
end
end Tz
open Gs Go
namespace Tz
open Geo (Q Btw Apart)
def alo (u v c:Pt):Int:=(v.x - u.x) * c.x + (v.y - u.y) * c.y
def qS (u v c:Pt):Q:=⟨8000000000001 * det u v c + alo u v c,alo u v c⟩
theorem D_s (u v a b c:Pt):Geo.D (qS u v a) (qS u v b) (qS u v c)=(8000000000001 * ((v.x - u.x) * (v.x - u.x) + (v.y - u.y) * (v.y - u.y))) * det a b c:=by
 unfold Geo.D qS alo det; grind
theorem alo_bd {u v a b:Pt}(hu:u.In)(hv:v.In)(ha:a.In)(hb:b.In) : -8000000000000≤alo u v b - alo u v a∧alo u v b - alo u v a≤8000000000000:=by
 obtain ⟨u1,u2,u3,u4⟩:=hu
 obtain ⟨v1,v2,v3,v4⟩:=hv
 obtain ⟨a1,a2,a3,a4⟩:=ha
 obtain ⟨b1,b2,b3,b4⟩:=hb
 have h1:=mulb (A:=2000000) (B:=2000000) (x:=v.x - u.x) (y:=b.x - a.x) (by decide) (by decide) (by omega) (by omega) (by omega) (by omega)
 have h2:=mulb (A:=2000000) (B:=2000000) (x:=v.y - u.y) (y:=b.y - a.y) (by decide) (by decide) (by omega) (by omega) (by omega) (by omega)
 have e:alo u v b - alo u v a=(v.x - u.x) * (b.x - a.x) + (v.y - u.y) * (b.y - a.y):=by unfold alo; grind
 rw [e]
 omega
theorem sq_pos {x y:Int}(h:¬ (x=0∧y=0)):0 < x * x + y * y:=by
 have key:∀ z:Int,z≠0→0 < z * z:=fun z hz=>by
   rcases Int.lt_or_gt_of_ne hz with h | h
   · exact Int.mul_pos_of_neg_of_neg h h
   · exact Int.mul_pos h h
 have kk:∀ z:Int,0≤z * z:=fun z=>by
   by_cases e:z=0
   · subst e; decide
   · exact Int.le_of_lt (key z e)
 by_cases hx:x=0
 · have:=key y (fun e=>h ⟨hx,e⟩); have:=kk x; omega
 · have:=key x hx; have:=kk y; omega
theorem hgt_s {u v:Pt}(hu:u.In)(hv:v.In)(hne:¬ (v.x - u.x=0∧v.y - u.y=0)) :
   Hgt (qS u v) ((v.x - u.x) - 8000000000001 * (v.y - u.y)) ((v.y - u.y) + 8000000000001 * (v.x - u.x)) (8000000000001 * ((v.y - u.y) * u.x - (v.x - u.x) * u.y)) (8000000000001 * ((v.x - u.x) * (v.x - u.x) + (v.y - u.y) * (v.y - u.y))):=by
 have hE:=sq_pos hne
 refine ⟨fun c=>by unfold qS alo det; grind,D_s u v,by omega,fun {a b} ha hb h=>?_⟩
 have hbd:=alo_bd hu hv ha hb
 have h':8000000000001 * det u v a + alo u v a=8000000000001 * det u v b + alo u v b:=h
 have e1:det u v a=det u v b:=by omega
 have e2:alo u v a=alo u v b:=by omega
 have f1:(v.x - u.x) * (b.y - a.y) - (v.y - u.y) * (b.x - a.x)=0:=by unfold det at e1; grind
 have f2:(v.x - u.x) * (b.x - a.x) + (v.y - u.y) * (b.y - a.y)=0:=by unfold alo at e2; grind
 have g1:((v.x - u.x) * (v.x - u.x) + (v.y - u.y) * (v.y - u.y)) * (b.x - a.x)=0:=by grind
 have g2:((v.x - u.x) * (v.x - u.x) + (v.y - u.y) * (v.y - u.y)) * (b.y - a.y)=0:=by grind
 have:=mul_zero_of hE g1
 have:=mul_zero_of hE g2
 omega
section
variable {p:List Pt}
theorem left_of (hp:3≤p.length)(ha:AllIn p)(hc:convex p=true){i k:Nat}(hi:i < p.length)(hk:k < p.length):0≤det (pt p i) (pt p (nx p i)) (pt p k):=by
 have hn:0 < p.length:=by omega
 have hlt:∀ j,j % p.length < p.length:=fun j=>Nat.mod_lt _ hn
 have hdp:=det_pos hp hc i
 rw [Nat.mod_eq_of_lt hi] at hdp
 have hne:¬ ((pt p (nx p i)).x - (pt p i).x=0∧(pt p (nx p i)).y - (pt p i).y=0):=by
   rintro ⟨e1,e2⟩
   unfold det at hdp
   rw [e1,e2,Int.zero_mul,Int.zero_mul] at hdp
   omega
 have hu:=ha.pt hi
 have hv:=ha.pt (nx_lt (i:=i) hn)
 have hT:=hgt_s hu hv hne
 have hE:=sq_pos hne
 obtain ⟨per,ne,turn,ap⟩:=sides hT hp ha hc
 rcases Int.lt_or_le (det (pt p i) (pt p (nx p i)) (pt p k)) 0 with hneg | h
 · exfalso
   obtain ⟨m,m1,m2,_,m4⟩:=Geo.low_one (fun j=>(fT (qS (pt p i) (pt p (nx p i))) p j).t) (fun _=>True) (2 * p.length) p.length ⟨2 * p.length,Nat.le_refl _,by omega,trivial⟩
   have hlow:∀ j,(fT (qS (pt p i) (pt p (nx p i))) p m).t≤(fT (qS (pt p i) (pt p (nx p i))) p j).t:=by
     intro j
     obtain ⟨z,z1,z2,z3⟩:=Geo.rep hn (2 * p.length) j
     have:=m4 z z1 z2 trivial
     rw [Geo.per_eq per z3] at this
     exact this
   have s1:Geo.Sw (fT (qS (pt p i) (pt p (nx p i))) p) (m - 1):=by
     have a1:=hlow (m - 1)
     have a2:=hlow (m + 1)
     have b1:=ne (m - 1)
     have b2:=ne m
     have e:m - 1 + 1=m:=by omega
     unfold Geo.Sw Geo.Up
     rw [e] at b1 ⊢
     exact ⟨by omega,by omega⟩
   have hv0:∀ j,(fT (qS (pt p i) (pt p (nx p i))) p j).t=8000000000001 * det (pt p i) (pt p (nx p i)) (pt p (j % p.length)) + alo (pt p i) (pt p (nx p i)) (pt p (j % p.length)):=fun j=>rfl
   have hi2:(i + 2 * p.length) % p.length=i:=by rw [Nat.add_mul_mod_self_right,Nat.mod_eq_of_lt hi]
   have d0:det (pt p i) (pt p (nx p i)) (pt p i)=0:=by unfold det; grind
   have d1:det (pt p i) (pt p (nx p i)) (pt p (nx p i))=0:=by unfold det; grind
   have hal:alo (pt p i) (pt p (nx p i)) (pt p (nx p i)) - alo (pt p i) (pt p (nx p i)) (pt p i)=((pt p (nx p i)).x - (pt p i).x) * ((pt p (nx p i)).x - (pt p i).x) + ((pt p (nx p i)).y - (pt p i).y) * ((pt p (nx p i)).y - (pt p i).y):=by unfold alo; grind
   have t0:(fT (qS (pt p i) (pt p (nx p i))) p (i + 2 * p.length)).t=alo (pt p i) (pt p (nx p i)) (pt p i):=by rw [hv0,hi2,d0]; omega
   have t1:(fT (qS (pt p i) (pt p (nx p i))) p (i + 2 * p.length + 1)).t=alo (pt p i) (pt p (nx p i)) (pt p (nx p i)):=by rw [hv0,mod_succ,hi2,d1]; omega
   have s2:Geo.Sw (fT (qS (pt p i) (pt p (nx p i))) p) (i + 2 * p.length - 1):=by
     have e:i + 2 * p.length - 1 + 1=i + 2 * p.length:=by omega
     have hm1:nx p ((i + 2 * p.length - 1) % p.length)=i:=by rw [←mod_succ,e,hi2]
     have hd:=det_pos hp hc (i + 2 * p.length - 1)
     rw [hm1] at hd
     have hrot:det (pt p i) (pt p (nx p i)) (pt p ((i + 2 * p.length - 1) % p.length))=det (pt p ((i + 2 * p.length - 1) % p.length)) (pt p i) (pt p (nx p i)):=by unfold det; grind
     have hbd:=alo_bd hu hv hu (ha.pt (hlt (i + 2 * p.length - 1)))
     have t2:=hv0 (i + 2 * p.length - 1)
     rw [hrot] at t2
     unfold Geo.Sw Geo.Up
     rw [e,t0,t1,t2]
     exact ⟨by omega,by omega⟩
   have hmi:m=i + 2 * p.length:=by
     rcases Nat.lt_trichotomy (m - 1) (i + 2 * p.length - 1) with h | h | h
     · exact (Geo.one_turn hn per ne turn ap h (by omega) s1 s2).elim
     · omega
     · exact (Geo.one_turn hn per ne turn ap h (by omega) s2 s1).elim
   have hk1:=hlow k
   rw [hmi,t0,hv0 k,Nat.mod_eq_of_lt hk] at hk1
   have hbd:=alo_bd hu hv hu (ha.pt hk)
   omega
 · exact h
end
end Tz
open Gs Go
namespace Tz
structure Cvx (p:List Pt):Prop where
 len:3≤p.length
 g:∀ {i k:Nat},i < p.length→k < p.length→0≤det (pt p i) (pt p (nx p i)) (pt p k)
 s:0 < det (pt p 0) (pt p (nx p 0)) (pt p (nx p (nx p 0)))
theorem cvx_of {p:List Pt}(hp:3≤p.length)(ha:AllIn p)(hc:convex p=true):Cvx p:=by
 refine ⟨hp,fun hi hk=>left_of hp ha hc hi hk,?_⟩
 have:=det_pos hp hc 0
 rwa [Nat.zero_mod] at this
abbrev Rt (u v:Pt)(x y:Int):Prop:=det u v ⟨x,y⟩≤0
def Edg (p:List Pt)(x0 y0 x1 y1:Int):Prop:=∃ i,i < p.length∧Rt (pt p i) (pt p (nx p i)) x0 y0∧Rt (pt p i) (pt p (nx p i)) x1 y0∧Rt (pt p i) (pt p (nx p i)) x1 y1∧Rt (pt p i) (pt p (nx p i)) x0 y1
def Side (p:List Pt)(x0 y0 x1 y1:Int):Prop:=(∀ c∈p,c.y≤y0)∨(∀ c∈p,x1≤c.x)∨(∀ c∈p,y1≤c.y)∨(∀ c∈p,c.x≤x0)
section
variable {p:List Pt} {x0 a x1 y0 y1:Int}
theorem mem_pt {c:Pt}(h:c∈p):∃ k,k < p.length∧pt p k=c:=by
 obtain ⟨k,hk,rfl⟩:=List.getElem_of_mem h
 exact ⟨k,hk,by simp [pt,hk]⟩
theorem det_line (u v:Pt)(x y z:Int):det u v ⟨z,y⟩=det u v ⟨x,y⟩ - (v.y - u.y) * (z - x):=by unfold det; grind
theorem det_off (u v c:Pt)(x y:Int):det u v c=det u v ⟨x,y⟩ + ((v.x - u.x) * (c.y - y) - (v.y - u.y) * (c.x - x)):=by unfold det; grind
theorem not_flat (h:Cvx p){dx dy x y:Int}(hd:dy≠0)(hf:∀ c∈p,dx * (c.y - y)=dy * (c.x - x)):False:=by
 have hn:0 < p.length:=by have:=h.len; omega
 have m0:=hf _ (pt_mem (p:=p) hn)
 have m1:=hf _ (pt_mem (nx_lt (p:=p) (i:=0) hn))
 have m2:=hf _ (pt_mem (nx_lt (p:=p) (i:=nx p 0) hn))
 have hs:=h.s
 generalize pt p 0=A at m0 hs
 generalize pt p (nx p 0)=B at m1 hs
 generalize pt p (nx p (nx p 0))=C at m2 hs
 have e1:dx * (B.y - A.y)=dy * (B.x - A.x):=by grind
 have e2:dx * (C.y - A.y)=dy * (C.x - A.x):=by grind
 have e3:dy * det A B C=0:=by unfold det; grind
 rcases Int.mul_eq_zero.1 e3 with h | h
 · exact hd h
 · omega
theorem off_cut (h:Cvx p){i:Nat}(hi:i < p.length)(r0:Rt (pt p i) (pt p (nx p i)) a y0)(r1:Rt (pt p i) (pt p (nx p i)) a y1){c:Pt}(hc:c∈p) :
   ((pt p (nx p i)).y - (pt p i).y) * (c.x - a)≤((pt p (nx p i)).x - (pt p i).x) * (c.y - y0)∧((pt p (nx p i)).y - (pt p i).y) * (c.x - a)≤((pt p (nx p i)).x - (pt p i).x) * (c.y - y1):=by
 obtain ⟨k,hk,rfl⟩:=mem_pt hc
 have g:=h.g hi hk
 have e0:=det_off (pt p i) (pt p (nx p i)) (pt p k) a y0
 have e1:=det_off (pt p i) (pt p (nx p i)) (pt p k) a y1
 unfold Rt at r0 r1
 omega
theorem updown {dx:Int}(hx:dx≠0)(hh:∀ c∈p,0≤dx * (c.y - y0)∧0≤dx * (c.y - y1)):(∀ c∈p,c.y≤y0)∨(∀ c∈p,y1≤c.y):=by
 rcases Int.lt_or_gt_of_ne hx with h | h
 · refine .inl fun c hc=>?_
   have:=(hh c hc).1
   rcases Int.lt_or_le 0 (c.y - y0) with g | g
   · have:=Int.mul_neg_of_neg_of_pos h g; omega
   · omega
 · refine .inr fun c hc=>?_
   have:=(hh c hc).2
   rcases Int.lt_or_le (c.y - y1) 0 with g | g
   · have:=Geo.mul_pn h g; omega
   · omega
theorem halves (h:Cvx p)(h1:x0 < a)(h2:a < x1)(hL:Side p x0 y0 a y1∨Edg p x0 y0 a y1)(hR:Side p a y0 x1 y1∨Edg p a y0 x1 y1):Side p x0 y0 x1 y1∨Edg p x0 y0 x1 y1:=by
 have eL:∀ i,i < p.length→0≤(pt p (nx p i)).y - (pt p i).y→Rt (pt p i) (pt p (nx p i)) x0 y0→Rt (pt p i) (pt p (nx p i)) a y0→Rt (pt p i) (pt p (nx p i)) a y1→Rt (pt p i) (pt p (nx p i)) x0 y1→Edg p x0 y0 x1 y1:=by
   intro i hi hd r1 r2 r3 r4
   have hm:=Int.mul_nonneg hd (show 0≤x1 - a by omega)
   refine ⟨i,hi,r1,?_,?_,r4⟩
   · have:=det_line (pt p i) (pt p (nx p i)) a y0 x1; unfold Rt at *; omega
   · have:=det_line (pt p i) (pt p (nx p i)) a y1 x1; unfold Rt at *; omega
 have eR:∀ i,i < p.length→(pt p (nx p i)).y - (pt p i).y≤0→Rt (pt p i) (pt p (nx p i)) a y0→Rt (pt p i) (pt p (nx p i)) x1 y0→Rt (pt p i) (pt p (nx p i)) x1 y1→Rt (pt p i) (pt p (nx p i)) a y1→Edg p x0 y0 x1 y1:=by
   intro i hi hd r1 r2 r3 r4
   have hm:=Geo.mul_nn hd (show x0 - a≤0 by omega)
   refine ⟨i,hi,?_,r2,r3,?_⟩
   · have:=det_line (pt p i) (pt p (nx p i)) a y0 x0; unfold Rt at *; omega
   · have:=det_line (pt p i) (pt p (nx p i)) a y1 x0; unfold Rt at *; omega
 have side_of:(∀ c∈p,c.y≤y0)∨(∀ c∈p,y1≤c.y)→Side p x0 y0 x1 y1:=by
   rintro (g | g)
   · exact .inl g
   · exact .inr (.inr (.inl g))
 have one:∀ i,i < p.length→(pt p (nx p i)).y - (pt p i).y≠0→Rt (pt p i) (pt p (nx p i)) a y0→Rt (pt p i) (pt p (nx p i)) a y1→(∀ c∈p,0≤((pt p (nx p i)).y - (pt p i).y) * (c.x - a))→Side p x0 y0 x1 y1:=by
   intro i hi hd r0 r1 hc
   by_cases hx:(pt p (nx p i)).x - (pt p i).x=0
   · exfalso
     refine not_flat h (dx:=0) (x:=a) (y:=y0) hd fun c hcm=>?_
     have o:=(off_cut h hi r0 r1 hcm).1
     have:=hc c hcm
     rw [hx,Int.zero_mul] at o
     rw [Int.zero_mul]; omega
   · exact side_of (updown hx fun c hcm=>by
       have o:=off_cut h hi r0 r1 hcm
       have:=hc c hcm
       omega)
 rcases hL with (g | g | g | g) | ⟨i,hi,r1,r2,r3,r4⟩
 · exact .inl (.inl g)
 · rcases hR with (k | k | k | k) | ⟨j,hj,q1,q2,q3,q4⟩
   · exact .inl (.inl k)
   · exact .inl (.inr (.inl k))
   · exact .inl (.inr (.inr (.inl k)))
   · exact (not_flat h (dx:=0) (dy:=1) (x:=a) (y:=y0) (by decide) fun c hc=>by have:=g c hc; have:=k c hc; omega).elim
   · rcases Int.lt_or_le 0 ((pt p (nx p j)).y - (pt p j).y) with hd | hd
     · exact .inl (one j hj (by omega) q1 q4 fun c hc=>Int.mul_nonneg (Int.le_of_lt hd) (by have:=g c hc; omega))
     · exact .inr (eR j hj hd q1 q2 q3 q4)
 · exact .inl (.inr (.inr (.inl g)))
 · exact .inl (.inr (.inr (.inr g)))
 · rcases Int.lt_or_le ((pt p (nx p i)).y - (pt p i).y) 0 with hd | hd
   · rcases hR with (k | k | k | k) | ⟨j,hj,q1,q2,q3,q4⟩
     · exact .inl (.inl k)
     · exact .inl (.inr (.inl k))
     · exact .inl (.inr (.inr (.inl k)))
     · exact .inl (one i hi (by omega) r2 r3 fun c hc=>Geo.mul_nn (Int.le_of_lt hd) (by have:=k c hc; omega))
     · rcases Int.lt_or_le 0 ((pt p (nx p j)).y - (pt p j).y) with hd' | hd'
       ·
         have o1:∀ c∈p,_:=fun c hc=>off_cut h hi r2 r3 hc
         have o2:∀ c∈p,_:=fun c hc=>off_cut h hj q1 q4 hc
         generalize (pt p (nx p i)).y - (pt p i).y=dy at hd o1
         generalize (pt p (nx p i)).x - (pt p i).x=dx at o1
         generalize (pt p (nx p j)).y - (pt p j).y=ey at hd' o2
         generalize (pt p (nx p j)).x - (pt p j).x=ex at o2
         have key:∀ c∈p,∀ y,dy * (c.x - a)≤dx * (c.y - y)→ey * (c.x - a)≤ex * (c.y - y)→0≤(dx * ey - ex * dy) * (c.y - y)∧((dx * ey - ex * dy)=0→dx * (c.y - y)=dy * (c.x - a)):=by
           intro c hc y k1 k2
           have m1:=Int.mul_nonneg (Int.le_of_lt hd') (show 0≤dx * (c.y - y) - dy * (c.x - a) by omega)
           have m2:=Int.mul_nonneg (show 0≤-dy by omega) (show 0≤ex * (c.y - y) - ey * (c.x - a) by omega)
           have e:(dx * ey - ex * dy) * (c.y - y)=ey * (dx * (c.y - y) - dy * (c.x - a)) + -dy * (ex * (c.y - y) - ey * (c.x - a)):=by grind
           refine ⟨by omega,fun hk=>?_⟩
           rw [hk,Int.zero_mul] at e
           have:=mul_zero_of hd' (show ey * (dx * (c.y - y) - dy * (c.x - a))=0 by omega)
           omega
         by_cases hK:dx * ey - ex * dy=0
         · exact (not_flat h (dx:=dx) (dy:=dy) (x:=a) (y:=y0) (by omega) fun c hc=>(key c hc y0 (o1 c hc).1 (o2 c hc).1).2 hK).elim
         · exact .inl (side_of (updown hK fun c hc=>⟨(key c hc y0 (o1 c hc).1 (o2 c hc).1).1,(key c hc y1 (o1 c hc).2 (o2 c hc).2).1⟩))
       · exact .inr (eR j hj hd' q1 q2 q3 q4)
   · exact .inr (eL i hi hd r1 r2 r3 r4)
theorem part_of {u0 v0 u1 v1:Int}(hu:x0≤u0∧u0≤x1)(hu1:x0≤u1∧u1≤x1)(hv:y0≤v0∧v0≤y1)(hv1:y0≤v1∧v1≤y1)(h:Side p x0 y0 x1 y1∨Edg p x0 y0 x1 y1):Side p u0 v0 u1 v1∨Edg p u0 v0 u1 v1:=by
 rcases h with (g | g | g | g) | ⟨i,hi,r1,r2,r3,r4⟩
 · exact .inl (.inl fun c hc=>by have:=g c hc; omega)
 · exact .inl (.inr (.inl fun c hc=>by have:=g c hc; omega))
 · exact .inl (.inr (.inr (.inl fun c hc=>by have:=g c hc; omega)))
 · exact .inl (.inr (.inr (.inr fun c hc=>by have:=g c hc; omega)))
 · refine .inr ⟨i,hi,?_⟩
   have key:∀ x y,x0≤x→x≤x1→y0≤y→y≤y1→Rt (pt p i) (pt p (nx p i)) x y:=by
     intro x y a1 a2 a3 a4
     have hx:∀ z,Rt (pt p i) (pt p (nx p i)) x0 z→Rt (pt p i) (pt p (nx p i)) x1 z→Rt (pt p i) (pt p (nx p i)) x z:=by
       intro z s1 s2
       rcases Int.le_total 0 ((pt p (nx p i)).y - (pt p i).y) with hd | hd
       · have:=det_line (pt p i) (pt p (nx p i)) x0 z x
         have:=Int.mul_nonneg hd (show 0≤x - x0 by omega)
         unfold Rt at *; omega
       · have:=det_line (pt p i) (pt p (nx p i)) x1 z x
         have:=Geo.mul_nn hd (show x - x1≤0 by omega)
         unfold Rt at *; omega
     have b0:=hx y0 r1 r2
     have b1:=hx y1 r4 r3
     rcases Int.le_total 0 ((pt p (nx p i)).x - (pt p i).x) with hd | hd
     · have e:=det_off (pt p i) (pt p (nx p i)) ⟨x,y⟩ x y1
       have:=Int.mul_nonneg hd (show 0≤y1 - y by omega)
       simp only [Int.sub_self,Int.mul_zero,Int.sub_zero] at e
       have f:((pt p (nx p i)).x - (pt p i).x) * (y - y1) = - (((pt p (nx p i)).x - (pt p i).x) * (y1 - y)):=by grind
       unfold Rt at *; omega
     · have e:=det_off (pt p i) (pt p (nx p i)) ⟨x,y⟩ x y0
       have:=Int.mul_nonneg (show 0≤- ((pt p (nx p i)).x - (pt p i).x) by omega) (show 0≤y - y0 by omega)
       simp only [Int.sub_self,Int.mul_zero,Int.sub_zero] at e
       rw [Int.neg_mul] at this
       unfold Rt at *; omega
   exact ⟨key _ _ hu.1 hu.2 hv.1 hv.2,key _ _ hu1.1 hu1.2 hv.1 hv.2,key _ _ hu1.1 hu1.2 hv1.1 hv1.2,key _ _ hu.1 hu.2 hv1.1 hv1.2⟩
end
end Tz
open Gs Go
namespace Tz
def rq (v:Pt):Pt:=⟨v.y,-v.x⟩
theorem det_rq (a b c:Pt):det (rq a) (rq b) (rq c)=det a b c:=by unfold det rq; grind
section
variable {p:List Pt} {x0 x1 a y0 y1:Int}
theorem nx_rq (p:List Pt)(i:Nat):nx (p.map rq) i=nx p i:=by unfold nx; rw [List.length_map]
theorem pt_rq {i:Nat}(h:i < p.length):pt (p.map rq) i=rq (pt p i):=by simp [pt,h]
theorem Cvx.rq (h:Cvx p):Cvx (p.map rq):=by
 have hn:0 < p.length:=by have:=h.len; omega
 have l1:=nx_lt (p:=p) (i:=0) hn
 refine ⟨by rw [List.length_map]; exact h.len,fun {i k} hi hk=>?_,?_⟩
 · rw [List.length_map] at hi hk
   rw [nx_rq,pt_rq hi,pt_rq hk,pt_rq (nx_lt hn),det_rq]
   exact h.g hi hk
 · rw [nx_rq,nx_rq,pt_rq hn,pt_rq l1,pt_rq (nx_lt hn),det_rq]
   exact h.s
theorem side_rq:Side (p.map rq) y0 (-x1) y1 (-x0)↔Side p x0 y0 x1 y1:=by
 unfold Side
 constructor
 · rintro (g | g | g | g)
   · exact .inr (.inl fun c hc=>by have:=g (rq c) (List.mem_map.2 ⟨c,hc,rfl⟩); simp only [rq] at this; omega)
   · exact .inr (.inr (.inl fun c hc=>by have:=g (rq c) (List.mem_map.2 ⟨c,hc,rfl⟩); simp only [rq] at this; omega))
   · exact .inr (.inr (.inr fun c hc=>by have:=g (rq c) (List.mem_map.2 ⟨c,hc,rfl⟩); simp only [rq] at this; omega))
   · exact .inl fun c hc=>by have:=g (rq c) (List.mem_map.2 ⟨c,hc,rfl⟩); simp only [rq] at this; omega
 · rintro (g | g | g | g)
   · exact .inr (.inr (.inr fun d hd=>by obtain ⟨c,hc,rfl⟩:=List.mem_map.1 hd; have:=g c hc; simp only [rq]; omega))
   · exact .inl fun d hd=>by obtain ⟨c,hc,rfl⟩:=List.mem_map.1 hd; have:=g c hc; simp only [rq]; omega
   · exact .inr (.inl fun d hd=>by obtain ⟨c,hc,rfl⟩:=List.mem_map.1 hd; have:=g c hc; simp only [rq]; omega)
   · exact .inr (.inr (.inl fun d hd=>by obtain ⟨c,hc,rfl⟩:=List.mem_map.1 hd; have:=g c hc; simp only [rq]; omega))
theorem rt_rq (u v:Pt)(x y:Int):Rt (rq u) (rq v) y (-x)↔Rt u v x y:=by
 unfold Rt
 rw [show (⟨y,-x⟩:Pt)=rq ⟨x,y⟩ from rfl,det_rq]
theorem edg_rq:Edg (p.map rq) y0 (-x1) y1 (-x0)↔Edg p x0 y0 x1 y1:=by
 unfold Edg
 rw [List.length_map]
 constructor
 · rintro ⟨i,hi,r1,r2,r3,r4⟩
   have hn:0 < p.length:=by omega
   rw [nx_rq,pt_rq hi,pt_rq (nx_lt hn),rt_rq] at r1 r2 r3 r4
   exact ⟨i,hi,r4,r1,r2,r3⟩
 · rintro ⟨i,hi,r1,r2,r3,r4⟩
   have hn:0 < p.length:=by omega
   refine ⟨i,hi,?_⟩
   rw [nx_rq,pt_rq hi,pt_rq (nx_lt hn),rt_rq,rt_rq,rt_rq,rt_rq]
   exact ⟨r2,r3,r4,r1⟩
theorem halves_y (h:Cvx p)(h1:y0 < a)(h2:a < y1)(hL:Side p x0 y0 x1 a∨Edg p x0 y0 x1 a)(hR:Side p x0 a x1 y1∨Edg p x0 a x1 y1):Side p x0 y0 x1 y1∨Edg p x0 y0 x1 y1:=by
 rw [←side_rq,←edg_rq] at hL hR ⊢
 exact halves h.rq h1 h2 hL hR
end
end Tz
