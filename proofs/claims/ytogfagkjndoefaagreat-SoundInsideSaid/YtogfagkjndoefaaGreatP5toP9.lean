/- part P5; part P6; part P7; part P8; part P9; no conditions. -/
import Derived.Test.YtogfagkjndoefaaGreatS2toS7
set_option linter.all false
namespace Geo
structure Q where
 t:Int
 x:Int
def D (a b c:Q):Int:=(b.x - a.x) * (c.t - a.t) - (c.x - a.x) * (b.t - a.t)
def Btw (a b c:Q):Prop:=(a.t≤c.t∧c.t≤b.t)∨(b.t≤c.t∧c.t≤a.t)
structure Apart (a b c d:Q):Prop where
 h1:Btw a b c→D a b c≠0
 h2:Btw a b d→D a b d≠0
 h3:Btw c d a→D c d a≠0
 h4:Btw c d b→D c d b≠0
 h5:¬ (D a b c * D a b d < 0∧D c d a * D c d b < 0)
theorem D_swap (a b c:Q):D b a c = - D a b c:=by unfold D; grind
theorem D_rot (a b c:Q):D a b c=D b c a:=by unfold D; grind
theorem Btw.swap {a b c:Q}(h:Btw a b c):Btw b a c:=by unfold Btw at *; omega
theorem Apart.symm {a b c d:Q}(h:Apart a b c d):Apart c d a b:=⟨h.h3,h.h4,h.h1,h.h2,fun g=>h.h5 ⟨g.2,g.1⟩⟩
theorem Apart.flip {a b c d:Q}(h:Apart a b c d):Apart b a c d:=by
 refine ⟨fun g=>?_,fun g=>?_,h.h4,h.h3,fun g=>h.h5 ?_⟩
 · rw [D_swap]; have:=h.h1 g.swap; omega
 · rw [D_swap]; have:=h.h2 g.swap; omega
 · rw [D_swap a b c,D_swap a b d,Int.neg_mul_neg,Int.mul_comm (D c d b)] at g; exact g
theorem Apart.flip2 {a b c d:Q}(h:Apart a b c d):Apart a b d c:=h.symm.flip.symm
def neg (q:Q):Q:=⟨-q.t,-q.x⟩
theorem D_neg (a b c:Q):D (neg a) (neg b) (neg c)=D a b c:=by unfold D neg; grind
theorem Apart.neg {a b c d:Q}(h:Apart a b c d):Apart (neg a) (neg b) (neg c) (neg d):=by
 have hb:∀ {a b c:Q},Btw (Geo.neg a) (Geo.neg b) (Geo.neg c)→Btw a b c:=by
   intro a b c g; unfold Btw Geo.neg at *; simp only at g; omega
 refine ⟨fun g=>?_,fun g=>?_,fun g=>?_,fun g=>?_,fun g=>h.h5 ?_⟩
 · rw [D_neg]; exact h.h1 (hb g)
 · rw [D_neg]; exact h.h2 (hb g)
 · rw [D_neg]; exact h.h3 (hb g)
 · rw [D_neg]; exact h.h4 (hb g)
 · simpa only [D_neg] using g
theorem neg_of_mul {u r:Int}(hu:0 < u)(h:u * r < 0):r < 0:=by
 rcases Int.lt_or_le r 0 with h1 | h1
 · exact h1
 · have:=Int.mul_nonneg (Int.le_of_lt hu) h1; omega
theorem pos_of_mul {u r:Int}(hu:0 < u)(h:0 < u * r):0 < r:=by
 rcases Int.lt_or_le 0 r with h1 | h1
 · exact h1
 · have:=Int.mul_nonneg (Int.le_of_lt hu) (show 0≤-r by omega); rw [Int.mul_neg] at this; omega
theorem mul_pn {p q:Int}(hp:0 < p)(hq:q < 0):p * q < 0:=by
 have:=Int.mul_pos hp (show 0 < -q by omega); rw [Int.mul_neg] at this; omega
theorem mul_nn {p q:Int}(hp:p≤0)(hq:q≤0):0≤p * q:=by
 have:=Int.mul_nonneg (show 0≤-p by omega) (show 0≤-q by omega); rwa [Int.neg_mul_neg] at this
theorem num1 {u v w p q r s:Int}(hu:0 < u)(hv:0 < v)(hw:w≤0)(ht:0≤u + w - v)(hp:0 < p)(hq:q≠0)(hs:s=r - (q - p))(he:u * r = - (v * p) - w * (q - p))(h5:¬ (p * q < 0∧r * s < 0)):0 < q:=by
 rcases Int.lt_or_le 0 q with h | h
 · exact h
 · exfalso
   have hq0:q < 0:=by omega
   have hK:q - p < 0:=by omega
   have h1:0≤w * (q - p):=mul_nn hw (by omega)
   have h2:=Int.mul_pos hv hp
   have hr:r < 0:=neg_of_mul hu (by omega)
   have h3:0≤(u + w - v) * (-(q - p)):=Int.mul_nonneg ht (by omega)
   have h4:=Int.mul_pos hv (show 0 < -q by omega)
   have h6:u * s=(u + w - v) * (-(q - p)) + v * (-q):=by rw [hs]; grind
   have hs0:0 < s:=pos_of_mul hu (by omega)
   exact h5 ⟨mul_pn hp hq0,by rw [Int.mul_comm]; exact mul_pn hs0 hr⟩
theorem num2 {u v w p q r s:Int}(hu:0 < u)(hv:0 < v)(hw:w≤0)(hc:0≤u + w)(ht:u + w - v≤0)(hp:0 < p)(hs0:s≠0)(hs:s=r - (q - p))(he:u * r = - (v * p) - w * (q - p))(h5:¬ (p * q < 0∧r * s < 0)):s < 0:=by
 rcases Int.lt_or_le s 0 with h | h
 · exact h
 · exfalso
   have hs1:0 < s:=by omega
   have h1:=Int.mul_pos hu hs1
   have h2:=Int.mul_pos hv hp
   have h3:u * s = - ((u + w) * (q - p)) - v * p:=by rw [hs]; grind
   have hK:q - p < 0:=by
     rcases Int.lt_or_le (q - p) 0 with g | g
     · exact g
     · have:=Int.mul_nonneg hc g; omega
   have h4:0≤w * (q - p):=mul_nn hw (by omega)
   have hr:r < 0:=neg_of_mul hu (by omega)
   have h6:0≤(u + w - v) * (q - p):=mul_nn ht (by omega)
   have h7:v * q = - ((u + w - v) * (q - p)) - (- ((u + w) * (q - p)) - v * p):=by grind
   have hq:q < 0:=neg_of_mul hv (by omega)
   exact h5 ⟨mul_pn hp hq,by rw [Int.mul_comm]; exact mul_pn hs1 hr⟩
def LB (a b c d:Q):Prop:=(a.t≤c.t∧c.t≤b.t∧0 < D a b c)∨(c.t≤a.t∧a.t≤d.t∧D c d a < 0)
def LT (a b c d:Q):Prop:=(d.t≤b.t→0 < D a b d)∧(b.t≤d.t→D c d b < 0)
theorem id1 (a b c d:Q):D c d b=D c d a - (D a b d - D a b c):=by unfold D; grind
theorem id2 (a b c d:Q):(b.t - a.t) * D c d a = - ((d.t - c.t) * D a b c) - (a.t - c.t) * (D a b d - D a b c):=by unfold D; grind
theorem seg {a b c d:Q}(hab:a.t < b.t)(hcd:c.t < d.t)(h:Apart a b c d)(hL:LB a b c d):LT a b c d:=by
 have e1:=id1 a b c d
 have e2:=id2 a b c d
 rcases hL with ⟨l1,l2,l3⟩ | ⟨l1,l2,l3⟩
 · refine ⟨fun g=>?_,fun g=>?_⟩
   · exact num1 (u:=b.t - a.t) (v:=d.t - c.t) (w:=a.t - c.t) (by omega) (by omega) (by omega) (by omega) l3 (h.h2 (.inl ⟨by omega,g⟩)) e1 e2 h.h5
   · exact num2 (u:=b.t - a.t) (v:=d.t - c.t) (w:=a.t - c.t) (by omega) (by omega) (by omega) (by omega) (by omega) l3 (h.h4 (.inl ⟨l2,g⟩)) e1 e2 h.h5
 · have f1 : - D a b d = - D a b c - (- D c d b - - D c d a):=by omega
   have f2:(d.t - c.t) * (- D a b c) = - ((b.t - a.t) * (- D c d a)) - (c.t - a.t) * (- D c d b - - D c d a):=by rw [e1]; grind
   have f5:¬ ((- D c d a) * (- D c d b) < 0∧(- D a b c) * (- D a b d) < 0):=by
     rw [Int.neg_mul_neg,Int.neg_mul_neg]; exact fun g=>h.h5 ⟨g.2,g.1⟩
   refine ⟨fun g=>?_,fun g=>?_⟩
   · have:=num2 (u:=d.t - c.t) (v:=b.t - a.t) (w:=c.t - a.t) (by omega) (by omega) (by omega) (by omega) (by omega) (show 0 < - D c d a by omega) (show - D a b d≠0 by have:=h.h2 (.inl ⟨l2,g⟩); omega) f1 f2 f5
     omega
   · have:=num1 (u:=d.t - c.t) (v:=b.t - a.t) (w:=c.t - a.t) (by omega) (by omega) (by omega) (by omega) (show 0 < - D c d a by omega) (show - D c d b≠0 by have:=h.h4 (.inl ⟨by omega,g⟩); omega) f1 f2 f5
     omega
abbrev Rise (A:Nat→Q)(m:Nat):Prop:=∀ i,i < m→(A i).t < (A (i + 1)).t
theorem rise_le {A:Nat→Q}{m:Nat}(h:Rise A m):∀ {i j:Nat},i≤j→j≤m→(A i).t≤(A j).t:=by
 intro i j hij
 induction j with
 | zero => intro _; have : i = 0 := by omega
           subst this; exact Int.le_refl _
 | succ j ih=>
   intro hj
   by_cases e:i=j + 1
   · subst e; exact Int.le_refl _
   · have:=ih (by omega) (by omega); have:=h j (by omega); omega
def Top (A B:Nat→Q)(m k:Nat):Prop:=
 ((B k).t≤(A m).t→∃ i,i < m∧(A i).t≤(B k).t∧(B k).t≤(A (i + 1)).t∧0 < D (A i) (A (i + 1)) (B k))∧
 ((A m).t≤(B k).t→∃ j,j < k∧(B j).t≤(A m).t∧(A m).t≤(B (j + 1)).t∧D (B j) (B (j + 1)) (A m) < 0)
theorem chain {A B:Nat→Q}{m k:Nat}(hA:Rise A m)(hB:Rise B k):∀ (f i j:Nat),(m - i) + (k - j)≤f→i < m→j < k→LT (A i) (A (i + 1)) (B j) (B (j + 1))→(A i).t≤(B (j + 1)).t→(B j).t≤(A (i + 1)).t→
   (∀ i' j',i≤i'→i' < m→j≤j'→j' < k→i < i'∨j < j'→Apart (A i') (A (i' + 1)) (B j') (B (j' + 1)))→Top A B m k:=by
 intro f
 induction f with
 | zero=>intro i j hf hi hj; omega
 | succ f ih=>
   intro i j hf hi hj hL o1 o2 hap
   by_cases hc:(B (j + 1)).t≤(A (i + 1)).t
   · have l1:=hL.1 hc
     by_cases hk:j + 1=k
     · subst hk
       refine ⟨fun _=>⟨i,hi,o1,hc,l1⟩,fun g=>?_⟩
       have hm:i + 1=m:=by
         rcases Nat.lt_or_ge (i + 1) m with h | h
         · have:=hA (i + 1) h
           have:=rise_le hA (show i + 1 + 1≤m by omega) (Nat.le_refl _)
           omega
         · omega
       subst hm
       exact ⟨j,hj,o2,g,hL.2 g⟩
     · have hj':j + 1 < k:=by omega
       have hn:=hap i (j + 1) (Nat.le_refl _) hi (by omega) hj' (.inr (by omega))
       have hL':=seg (hA i hi) (hB (j + 1) hj') hn (.inl ⟨o1,hc,l1⟩)
       have:=hB (j + 1) hj'
       exact ih i (j + 1) (by omega) hi hj' hL' (by omega) hc (fun i' j' h1 h2 h3 h4 h5=>hap i' j' h1 h2 (by omega) h4 (by omega))
   · have hc':(A (i + 1)).t≤(B (j + 1)).t:=by omega
     have l2:=hL.2 hc'
     by_cases hm:i + 1=m
     · subst hm
       refine ⟨fun g=>?_,fun _=>⟨j,hj,o2,hc',l2⟩⟩
       have:=rise_le hB (show j + 1≤k by omega) (Nat.le_refl _)
       omega
     · have hi':i + 1 < m:=by omega
       have hn:=hap (i + 1) j (by omega) hi' (Nat.le_refl _) hj (.inl (by omega))
       have hL':=seg (hA (i + 1) hi') (hB j hj) hn (.inr ⟨o2,hc',l2⟩)
       have:=hA (i + 1) hi'
       exact ih (i + 1) j (by omega) hi' hj hL' hc' (by omega) (fun i' j' h1 h2 h3 h4 h5=>hap i' j' (by omega) h2 h3 h4 (by omega))
theorem chain_from {A B:Nat→Q}{m k:Nat}(hA:Rise A m)(hB:Rise B k){i j:Nat}(hi:i < m)(hj:j < k)(hL:LB (A i) (A (i + 1)) (B j) (B (j + 1)))
   (hap:∀ i' j',i≤i'→i' < m→j≤j'→j' < k→Apart (A i') (A (i' + 1)) (B j') (B (j' + 1))):Top A B m k:=by
 have h1:=hA i hi
 have h2:=hB j hj
 refine chain hA hB _ i j (Nat.le_refl _) hi hj (seg h1 h2 (hap i j (Nat.le_refl _) hi (Nat.le_refl _) hj) hL) ?_ ?_ (fun i' j' g1 g2 g3 g4 _=>hap i' j' g1 g2 g3 g4)
 · rcases hL with ⟨l1,l2,_⟩ | ⟨l1,l2,_⟩<;>omega
 · rcases hL with ⟨l1,l2,_⟩ | ⟨l1,l2,_⟩<;>omega
theorem vee {A B:Nat→Q}{m k:Nat}(hA:Rise A m)(hB:Rise B k)(hm:0 < m)(hk:0 < k)(h0:B 0=A 0)(ht:0 < D (B 1) (A 0) (A 1))
   (hap:∀ i j,i < m→j < k→0 < i∨0 < j→Apart (A i) (A (i + 1)) (B j) (B (j + 1))):Top A B m k:=by
 have h1:=hA 0 hm
 have h2:=hB 0 hk
 refine chain hA hB _ 0 0 (Nat.le_refl _) hm hk ?_ (by rw [h0] at h2; omega) (by rw [h0]; omega) (fun i' j' _ g2 _ g4 g5=>hap i' j' g2 g4 g5)
 rw [h0]
 have e1:D (A 0) (A 1) (B 1)=D (B 1) (A 0) (A 1):=(D_rot _ _ _).symm
 have e2:D (A 0) (B 1) (A 1) = - D (B 1) (A 0) (A 1):=by unfold D; grind
 exact ⟨fun _=>by rw [e1]; exact ht,fun _=>by rw [e2]; omega⟩
theorem one_side {A:Nat→Q}{m:Nat}(hA:Rise A m){q:Q}{i j:Nat}(hi:i < m)(hj:j < m)(i1:(A i).t≤q.t)(i2:q.t≤(A (i + 1)).t)(i3:0 < D (A i) (A (i + 1)) q)(j1:(A j).t≤q.t)(j2:q.t≤(A (j + 1)).t)(j3:D (A j) (A (j + 1)) q < 0):False:=by
 have key:∀ {i j:Nat},i < j→j < m→q.t≤(A (i + 1)).t→(A j).t≤q.t→j=i + 1∧q.t=(A j).t:=by
   intro i j hij hj h1 h2
   have:=rise_le hA (show i + 1≤j by omega) (by omega)
   refine ⟨?_,by omega⟩
   rcases Nat.lt_or_ge (i + 1) j with h | h
   · have:=hA (i + 1) (by omega)
     have:=rise_le hA (show i + 1 + 1≤j by omega) (by omega)
     omega
   · omega
 have top:∀ a b:Q,q.t=b.t→D a b q=(b.x - q.x) * (b.t - a.t):=by intro a b h; unfold D; rw [h]; grind
 have bot:∀ a b:Q,q.t=a.t→D a b q=(a.x - q.x) * (b.t - a.t):=by intro a b h; unfold D; rw [h]; grind
 rcases Nat.lt_trichotomy i j with h | h | h
 · obtain ⟨rfl,e⟩:=key h hj i2 j1
   rw [top _ _ e] at i3
   rw [bot _ _ e] at j3
   have hA1:=hA i hi
   have hA2:=hA (i + 1) hj
   rw [Int.mul_comm] at i3 j3
   have:=pos_of_mul (by omega) i3
   have:=neg_of_mul (by omega) j3
   omega
 · subst h; omega
 · obtain ⟨rfl,e⟩:=key h hi j2 i1
   rw [bot _ _ e] at i3
   rw [top _ _ e] at j3
   have hA1:=hA j hj
   have hA2:=hA (j + 1) hi
   rw [Int.mul_comm] at i3 j3
   have:=pos_of_mul (by omega) i3
   have:=neg_of_mul (by omega) j3
   omega
end Geo
namespace Geo
theorem no_two {f:Nat→Q}{n a M b c:Nat}(h0a:0 < a)(haM:a < M)(hMb:M < b)(hbc:b < c)(hcn:c≤n)
   (d1:∀ i,i < a→(f (i + 1)).t < (f i).t) (u1:∀ i,a≤i→i < M→(f i).t < (f (i + 1)).t) (d2:∀ i,M≤i→i < b→(f (i + 1)).t < (f i).t) (u2:∀ i,b≤i→i < c→(f i).t < (f (i + 1)).t)
   (turn:∀ i,0 < D (f i) (f (i + 1)) (f (i + 2)))
   (ap:∀ i k,i + 2≤k→k < n→0 < i∨k + 1 < n→Apart (f i) (f (i + 1)) (f k) (f (k + 1)))
   (l0:(f M).t≤(f 0).t) (lc:(f M).t≤(f c).t):False:=by
 have hLp:Rise (fun i=>f (a - i)) a:=fun i hi=>by
   have:=d1 (a - (i + 1)) (by omega)
   rwa [show a - (i + 1) + 1=a - i by omega] at this
 have hU:Rise (fun i=>f (a + i)) (M - a):=fun i hi=>u1 (a + i) (by omega) (by omega)
 have hL:Rise (fun i=>f (b - i)) (b - M):=fun i hi=>by
   have:=d2 (b - (i + 1)) (by omega) (by omega)
   rwa [show b - (i + 1) + 1=b - i by omega] at this
 have hU2:Rise (fun i=>f (b + i)) (c - b):=fun i hi=>u2 (b + i) (by omega) (by omega)
 have hUr:Rise (fun i=>neg (f (M - i))) (M - a):=fun i hi=>by
   have:=u1 (M - (i + 1)) (by omega) (by omega)
   rw [show M - (i + 1) + 1=M - i by omega] at this
   show - (f (M - i)).t < - (f (M - (i + 1))).t
   omega
 have hLr:Rise (fun i=>neg (f (M + i))) (b - M):=fun i hi=>by
   have:=d2 (M + i) (by omega) (by omega)
   show - (f (M + i)).t < - (f (M + (i + 1))).t
   rw [show M + (i + 1)=M + i + 1 by omega]; omega
 have apb:∀ v i j,0 < i∨0 < j→j < v→v + i < n→(0 < v - j - 1∨v + i + 1 < n)→Apart (f (v + i)) (f (v + (i + 1))) (f (v - j)) (f (v - (j + 1))):=by
   intro v i j hij hj hv hc
   have:=ap (v - j - 1) (v + i) (by omega) hv hc
   rw [show v - j - 1 + 1=v - j by omega] at this
   exact this.symm.flip2
 have T1:Top (fun i=>neg (f (M + i))) (fun i=>neg (f (M - i))) (b - M) (M - a):=by
   refine vee hLr hUr (by omega) (by omega) rfl ?_ (fun i j hi hj hij=>(apb M i j hij (by omega) (by omega) (.inr (by omega))).neg)
   show 0 < D (neg (f (M - 1))) (neg (f M)) (neg (f (M + 1)))
   rw [D_neg]
   have:=turn (M - 1)
   rwa [show M - 1 + 1=M by omega,show M - 1 + 2=M + 1 by omega] at this
 by_cases hab:(f b).t≤(f a).t
 · obtain ⟨i,hi,i1,i2,i3⟩:=T1.1 (by
     show - (f (M - (M - a))).t≤- (f (M + (b - M))).t
     rw [show M - (M - a)=a by omega,show M + (b - M)=b by omega]; omega)
   simp only [D_neg] at i3
   simp only [neg] at i1 i2
   rw [show M - (M - a)=a by omega] at i1 i2 i3
   have hj:b - (b - M - i - 1)=M + (i + 1):=by omega
   have hj1:b - (b - M - i - 1 + 1)=M + i:=by omega
   have hTop:Top (fun i=>f (a - i)) (fun i=>f (b - i)) a (b - M):=by
     refine chain_from hLp hL (i:=0) (j:=b - M - i - 1) h0a (by omega) (.inr ?_) (fun i' j' _ h2 _ h4=>?_)
     · simp only [hj,hj1,Nat.sub_zero]
       refine ⟨by omega,by omega,?_⟩
       rw [D_swap]; omega
     · have:=ap (a - i' - 1) (b - j' - 1) (by omega) (by omega) (.inr (by omega))
       rw [show a - i' - 1 + 1=a - i' by omega,show b - j' - 1 + 1=b - j' by omega] at this
       exact this.flip.flip2
   obtain ⟨i',g1,g2,g3,g4⟩:=hTop.1 (by
     show (f (b - (b - M))).t≤(f (a - a)).t
     rw [show b - (b - M)=M by omega,Nat.sub_self]; exact l0)
   have T2:Top (fun i=>f (a + i)) (fun i=>f (a - i)) (M - a) a:=by
     refine vee hU hLp (by omega) h0a rfl ?_ (fun i j hi hj hij=>apb a i j hij (by omega) (by omega) (.inr (by omega)))
     have:=turn (a - 1)
     rwa [show a - 1 + 1=a by omega,show a - 1 + 2=a + 1 by omega] at this
   obtain ⟨j',k1,k2,k3,k4⟩:=T2.2 (by
     show (f (a + (M - a))).t≤(f (a - a)).t
     rw [show a + (M - a)=M by omega,Nat.sub_self]; exact l0)
   simp only [show b - (b - M)=M by omega] at g2 g3 g4
   simp only [show a + (M - a)=M by omega] at k2 k3 k4
   exact one_side hLp g1 k1 g2 g3 g4 k2 k3 k4
 · obtain ⟨j,hj,j1,j2,j3⟩:=T1.2 (by
     show - (f (M + (b - M))).t≤- (f (M - (M - a))).t
     rw [show M - (M - a)=a by omega,show M + (b - M)=b by omega]; omega)
   simp only [D_neg] at j3
   simp only [neg] at j1 j2
   rw [show M + (b - M)=b by omega] at j1 j2 j3
   have hi:a + (M - a - j - 1)=M - (j + 1):=by omega
   have hi1:a + (M - a - j - 1 + 1)=M - j:=by omega
   have hTop:Top (fun i=>f (a + i)) (fun i=>f (b + i)) (M - a) (c - b):=by
     refine chain_from hU hU2 (i:=M - a - j - 1) (j:=0) (by omega) (by omega) (.inl ?_) (fun i' j' _ h2 _ h4=>?_)
     · simp only [hi,hi1,Nat.add_zero]
       refine ⟨by omega,by omega,?_⟩
       rw [D_swap]; omega
     · exact ap (a + i') (b + j') (by omega) (by omega) (.inl (by omega))
   obtain ⟨j',g1,g2,g3,g4⟩:=hTop.2 (by
     show (f (a + (M - a))).t≤(f (b + (c - b))).t
     rw [show a + (M - a)=M by omega,show b + (c - b)=c by omega]; exact lc)
   have T3:Top (fun i=>f (b + i)) (fun i=>f (b - i)) (c - b) (b - M):=by
     refine vee hU2 hL (by omega) (by omega) rfl ?_ (fun i j hi hj hij=>apb b i j hij (by omega) (by omega) (.inl (by omega)))
     have:=turn (b - 1)
     rwa [show b - 1 + 1=b by omega,show b - 1 + 2=b + 1 by omega] at this
   obtain ⟨i',k1,k2,k3,k4⟩:=T3.1 (by
     show (f (b - (b - M))).t≤(f (b + (c - b))).t
     rw [show b - (b - M)=M by omega,show b + (c - b)=c by omega]; exact lc)
   simp only [show a + (M - a)=M by omega] at g2 g3 g4
   simp only [show b - (b - M)=M by omega] at k2 k3 k4
   exact one_side hU2 k1 g1 k2 k3 k4 g2 g3 g4
section
open Classical
theorem fwd (P:Nat→Prop):∀ (k lo:Nat),P lo→¬ P (lo + k)→∃ b,lo < b∧b≤lo + k∧¬ P b∧∀ i,lo≤i→i < b→P i
 | 0,lo,h,hn=>absurd h hn
 | k + 1,lo,h,hn=>by
   by_cases h1:P (lo + 1)
   · obtain ⟨b,b1,b2,b3,b4⟩:=fwd P k (lo + 1) h1 (by rwa [show lo + 1 + k=lo + (k + 1) by omega])
     refine ⟨b,by omega,by omega,b3,fun i i1 i2=>?_⟩
     by_cases e:i=lo
     · subst e; exact h
     · exact b4 i (by omega) i2
   · exact ⟨lo + 1,by omega,by omega,h1,fun i i1 i2=>by rw [show i=lo by omega]; exact h⟩
theorem bwd (P:Nat→Prop):∀ (k lo:Nat),¬ P lo→P (lo + k)→∃ a,lo < a∧a≤lo + k∧¬ P (a - 1)∧∀ i,a≤i→i≤lo + k→P i
 | 0,lo,h,hn=>absurd hn h
 | k + 1,lo,h,hn=>by
   by_cases h1:P (lo + k)
   · by_cases hk:k=0
     · subst hk; exact absurd h1 h
     · obtain ⟨a,a1,a2,a3,a4⟩:=bwd P k lo h h1
       refine ⟨a,a1,by omega,a3,fun i i1 i2=>?_⟩
       by_cases e:i=lo + (k + 1)
       · subst e; exact hn
       · exact a4 i i1 (by omega)
   · exact ⟨lo + k + 1,by omega,by omega,by simpa using h1,fun i i1 i2=>by rw [show i=lo + (k + 1) by omega]; exact hn⟩
theorem rep {n:Nat}(hn:0 < n)(s v:Nat):∃ z,s≤z∧z < s + n∧z % n=v % n:=by
 have hs:s≤n * s:=Nat.le_mul_of_pos_left s hn
 refine ⟨s + (v + n * s - s) % n,by omega,by have:=Nat.mod_lt (v + n * s - s) hn; omega,?_⟩
 rw [Nat.add_mod_mod,show s + (v + n * s - s)=v + n * s by omega,Nat.add_mul_mod_self_left]
theorem low_one (g:Nat→Int)(P:Nat→Prop)(n:Nat):∀ k,(∃ v,n≤v∧v < n + k∧P v)→∃ v,n≤v∧v < n + k∧P v∧∀ w,n≤w→w < n + k→P w→g v≤g w
 | 0,⟨v,h1,h2,_⟩=>by omega
 | k + 1,⟨v,h1,h2,h3⟩=>by
   by_cases he:∃ v,n≤v∧v < n + k∧P v
   · obtain ⟨u,u1,u2,u3,u4⟩:=low_one g P n k he
     by_cases hl:P (n + k)∧g (n + k) < g u
     · refine ⟨n + k,by omega,by omega,hl.1,fun w w1 w2 w3=>?_⟩
       by_cases e:w=n + k
       · subst e; exact Int.le_refl _
       · have:=u4 w w1 (by omega) w3; omega
     · refine ⟨u,u1,by omega,u3,fun w w1 w2 w3=>?_⟩
       by_cases e:w=n + k
       · subst e
         rcases Int.lt_or_le (g (n + k)) (g u) with h | h
         · exact absurd ⟨w3,h⟩ hl
         · exact h
       · exact u4 w w1 (by omega) w3
   · have hv:v=n + k:=by
       rcases Nat.lt_or_ge v (n + k) with h | h
       · exact absurd ⟨v,h1,h,h3⟩ he
       · omega
     subst hv
     refine ⟨n + k,h1,h2,h3,fun w w1 w2 w3=>?_⟩
     by_cases e:w=n + k
     · subst e; exact Int.le_refl _
     · exact absurd ⟨w,w1,by omega,w3⟩ he
variable {f:Nat→Q} {n:Nat}
abbrev Up (f:Nat→Q)(i:Nat):Prop:=(f i).t < (f (i + 1)).t
abbrev Sw (f:Nat→Q)(i:Nat):Prop:=¬ Up f i∧Up f (i + 1)
theorem per_mod (per:∀ i,f (i + n)=f i)(i:Nat):f (i % n)=f i:=by
 have h:∀ k i,f (i + n * k)=f i:=by
   intro k
   induction k with
   | zero=>intro i; rfl
   | succ k ih=>intro i; rw [show i + n * (k + 1)=(i + n) + n * k by rw [Nat.mul_succ]; omega,ih,per]
 have:=h (i / n) (i % n)
 rw [Nat.mod_add_div] at this
 exact this.symm
theorem per_eq (per:∀ i,f (i + n)=f i){i j:Nat}(h:i % n=j % n):f i=f j:=by rw [←per_mod per i,←per_mod per j,h]
theorem per_up (per:∀ i,f (i + n)=f i){i j:Nat}(h:i % n=j % n):Up f i↔Up f j:=by
 have h1:(i + 1) % n=(j + 1) % n:=by rw [Nat.add_mod,h,←Nat.add_mod]
 unfold Up
 rw [per_eq per h,per_eq per h1]
theorem one_turn (hn:0 < n)(per:∀ i,f (i + n)=f i)(ne:∀ i,(f i).t≠(f (i + 1)).t)(turn:∀ i,0 < D (f i) (f (i + 1)) (f (i + 2)))
   (ap:∀ i k,i + 2≤k→k + 1 < i + n→Apart (f i) (f (i + 1)) (f k) (f (k + 1))) {i0 j0:Nat} (hij:i0 < j0) (hjn:j0 < i0 + n) (si:Sw f i0) (sj:Sw f j0):False:=by
 have hmx:∃ v,2 * n≤v∧v < 2 * n + n∧(Up f v∧¬ Up f (v + 1)):=by
   obtain ⟨b,b1,b2,b3,b4⟩:=fwd (Up f) (j0 - (i0 + 1)) (i0 + 1) si.2 (by rw [show i0 + 1 + (j0 - (i0 + 1))=j0 by omega]; exact sj.1)
   obtain ⟨z,z1,z2,z3⟩:=rep hn (2 * n) (b - 1)
   have hz:(z + 1) % n=b % n:=by rw [Nat.add_mod,z3,←Nat.add_mod,show b - 1 + 1=b by omega]
   exact ⟨z,z1,z2,(per_up per z3).2 (b4 (b - 1) (by omega) (by omega)),fun h=>b3 ((per_up per hz).1 h)⟩
 obtain ⟨u,u1,u2,⟨u3,u4⟩,hmin⟩:=low_one (fun v=>(f (v + 1)).t) (fun v=>Up f v∧¬ Up f (v + 1)) (2 * n) n hmx
 have hlow:∀ w,Up f w→¬ Up f (w + 1)→(f (u + 1)).t≤(f (w + 1)).t:=by
   intro w w1 w2
   obtain ⟨z,z1,z2,z3⟩:=rep hn (2 * n) w
   have hz:(z + 1) % n=(w + 1) % n:=by rw [Nat.add_mod,z3,←Nat.add_mod]
   have:=hmin z z1 z2 ⟨(per_up per z3).2 w1,fun h=>w2 ((per_up per hz).1 h)⟩
   simp only [per_eq per hz] at this
   exact this
 obtain ⟨z,z1,z2,z3⟩:=rep hn (u - n) i0
 obtain ⟨a,a1,a2,a3,a4⟩:=bwd (Up f) (u - z) z (fun h=>si.1 ((per_up per z3).1 h)) (by rw [show z + (u - z)=u by omega]; exact u3)
 obtain ⟨y,y1,y2,y3⟩:=rep hn (a - 1 - n) (i0 + 1)
 obtain ⟨m,m1,m2,m3,m4⟩:=bwd (fun i=>¬ Up f i) (a - 1 - y) y (fun h=>h ((per_up per y3).2 si.2)) (by rw [show y + (a - 1 - y)=a - 1 by omega]; exact a3)
 have m3':Up f (m - 1):=Classical.not_not.1 m3
 obtain ⟨z',q1,q2,q3⟩:=rep hn (u + 1) (i0 + 1)
 obtain ⟨b,b1,b2,b3,b4⟩:=fwd (fun i=>¬ Up f i) (z' - (u + 1)) (u + 1) u4 (by rw [show u + 1 + (z' - (u + 1))=z' by omega]; exact fun h=>h ((per_up per q3).2 si.2))
 have b3':Up f b:=Classical.not_not.1 b3
 obtain ⟨z'',r1,r2,r3⟩:=rep hn b i0
 obtain ⟨c,c1,c2,c3,c4⟩:=fwd (Up f) (z'' - b) b b3' (by rw [show b + (z'' - b)=z'' by omega]; exact fun h=>si.1 ((per_up per r3).1 h))
 have hcn:c≤m + n:=by
   rcases Nat.lt_or_ge (m + n) c with h | h
   · exfalso
     have e1:Up f (m + n - 1):=(per_up per (show (m + n - 1) % n=(m - 1) % n by rw [show m + n - 1=m - 1 + n by omega,Nat.add_mod_right])).2 m3'
     have e2:¬ Up f (m + n):=fun g=>m4 m (Nat.le_refl _) (by omega) ((per_up per (Nat.add_mod_right m n)).1 g)
     have hM:m + n=u + 1:=by
       rcases Nat.lt_or_ge (m + n) (u + 1) with h1 | h1
       · exact absurd (a4 (m + n) (by omega) (by omega)) e2
       · rcases Nat.lt_or_ge (m + n) b with h2 | h2
         · by_cases e:m + n=u + 1
           · exact e
           · exact absurd e1 (b4 (m + n - 1) (by omega) (by omega))
         · exact absurd (c4 (m + n) h2 h) e2
     have only:∀ i,Sw f i→i % n=(a - 1) % n:=by
       intro i hs
       obtain ⟨z,z1,z2,z3⟩:=rep hn m i
       have hz:(z + 1) % n=(i + 1) % n:=by rw [Nat.add_mod,z3,←Nat.add_mod]
       have t1:¬ Up f z:=fun h=>hs.1 ((per_up per z3).1 h)
       have t2:Up f (z + 1):=(per_up per hz).2 hs.2
       have:z=a - 1:=by
         rcases Nat.lt_trichotomy z (a - 1) with h3 | h3 | h3
         · exact absurd t2 (m4 (z + 1) (by omega) (by omega))
         · exact h3
         · exact absurd (a4 z (by omega) (by omega)) t1
       rw [←z3,this]
     have e:=Nat.sub_mod_eq_zero_of_mod_eq ((only j0 sj).trans (only i0 si).symm)
     rw [Nat.mod_eq_of_lt (by omega)] at e
     omega
   · exact h
 have dn:∀ i,¬ Up f i→(f (i + 1)).t < (f i).t:=fun i h=>by have:=ne i; unfold Up at h; omega
 refine no_two (f:=fun i=>f (m + i)) (n:=n) (a:=a - m) (M:=u + 1 - m) (b:=b - m) (c:=c - m) (by omega) (by omega) (by omega) (by omega) (by omega) (fun i hi=>dn (m + i) (m4 (m + i) (by omega) (by omega))) (fun i h1 h2=>a4 (m + i) (by omega) (by omega)) (fun i h1 h2=>dn (m + i) (b4 (m + i) (by omega) (by omega))) (fun i h1 h2=>c4 (m + i) (by omega) (by omega)) (fun i=>turn (m + i)) (fun i k h1 h2 h3=>ap (m + i) (m + k) (by omega) (by omega)) ?_ ?_
 · show (f (m + (u + 1 - m))).t≤(f (m + 0)).t
   rw [show m + (u + 1 - m)=u + 1 by omega]
   have:=hlow (m - 1) m3' (by rw [show m - 1 + 1=m by omega]; exact m4 m (Nat.le_refl _) (by omega))
   rwa [show m - 1 + 1=m + 0 by omega] at this
 · show (f (m + (u + 1 - m))).t≤(f (m + (c - m))).t
   rw [show m + (u + 1 - m)=u + 1 by omega,show m + (c - m)=c by omega]
   have:=hlow (c - 1) (c4 (c - 1) (by omega) (by omega)) (by rw [show c - 1 + 1=c by omega]; exact c3)
   rwa [show c - 1 + 1=c by omega] at this
theorem some_turn (hn:0 < n)(per:∀ i,f (i + n)=f i)(ne:∀ i,(f i).t≠(f (i + 1)).t):∃ i,i < n∧Sw f i:=by
 have hd:∃ i,¬ Up f i:=by
   rcases Classical.em (∃ i,¬ Up f i) with h | h
   · exact h
   · exfalso
     have hr:Rise f n:=fun i _=>Classical.not_not.1 fun g=>h ⟨i,g⟩
     have h1:=rise_le hr (show 1≤n by omega) (Nat.le_refl _)
     have h2:=hr 0 hn
     have h3:=per 0
     simp only [Nat.zero_add] at h2 h3
     rw [h3] at h1; omega
 have hu:∃ i,Up f i:=by
   rcases Classical.em (∃ i,Up f i) with h | h
   · exact h
   · exfalso
     have hr:Rise (fun i=>neg (f i)) n:=fun i _=>by
       have:¬ Up f i:=fun g=>h ⟨i,g⟩
       have:=ne i
       show - (f i).t < - (f (i + 1)).t
       unfold Up at *; omega
     have h1:=rise_le hr (show 1≤n by omega) (Nat.le_refl _)
     have h2:=hr 0 hn
     have h3:=per 0
     simp only [Nat.zero_add] at h2 h3
     simp only [neg,h3] at h1 h2
     omega
 obtain ⟨d,hd⟩:=hd
 obtain ⟨w,hw⟩:=hu
 obtain ⟨z,z1,z2,z3⟩:=rep hn d w
 obtain ⟨b,b1,b2,b3,b4⟩:=fwd (fun i=>¬ Up f i) (z - d) d hd (by rw [show d + (z - d)=z by omega]; exact fun h=>h ((per_up per z3).2 hw))
 obtain ⟨y,y1,y2,y3⟩:=rep hn 0 (b - 1)
 have hy:(y + 1) % n=b % n:=by rw [Nat.add_mod,y3,←Nat.add_mod,show b - 1 + 1=b by omega]
 exact ⟨y,by omega,fun h=>b4 (b - 1) (by omega) (by omega) ((per_up per y3).1 h),(per_up per hy).2 (Classical.not_not.1 b3)⟩
end
end Geo
open Gs Go
namespace Tz
open Geo (Q Btw Apart)
def qP (v:Pt):Q:=⟨4000001 * v.y + v.x,v.x⟩
theorem D_q (a b c:Pt):Geo.D (qP a) (qP b) (qP c)=4000001 * det a b c:=by unfold Geo.D qP det; grind
def upB (a b:Pt):Bool:=decide (a.y < b.y) || (decide (b.y=a.y) && decide (a.x < b.x))
theorem q_lt {a b:Pt}(ha:a.In)(hb:b.In):(qP a).t < (qP b).t↔upB a b=true:=by
 obtain ⟨h1,h2,h3,h4⟩:=ha
 obtain ⟨h5,h6,h7,h8⟩:=hb
 simp only [qP,upB,Bool.or_eq_true,Bool.and_eq_true,decide_eq_true_eq]
 omega
theorem q_ne {a b:Pt}(ha:a.In)(hb:b.In)(h:(qP a).t=(qP b).t):a.x=b.x∧a.y=b.y:=by
 obtain ⟨h1,h2,h3,h4⟩:=ha
 obtain ⟨h5,h6,h7,h8⟩:=hb
 simp only [qP] at h
 omega
theorem sgn_zero {n:Int}(h:n=0):sgn n=0:=by subst h; rfl
theorem sgn_neg {m n:Int}(h:m * n < 0):sgn m * sgn n < 0:=by
 have key:∀ {m:Int},m=0→m * n=0:=fun h=>by rw [h,Int.zero_mul]
 rcases Int.lt_trichotomy m 0 with h1 | h1 | h1
 · rcases Int.lt_trichotomy n 0 with h2 | h2 | h2
   · have:=Int.mul_pos_of_neg_of_neg h1 h2; omega
   · rw [h2,Int.mul_zero] at h; omega
   · unfold sgn; rw [if_neg (by omega),if_pos h1,if_pos h2]; decide
 · rw [key h1] at h; omega
 · rcases Int.lt_trichotomy n 0 with h2 | h2 | h2
   · unfold sgn; rw [if_pos h1,if_neg (by omega),if_pos h2]; decide
   · rw [h2,Int.mul_zero] at h; omega
   · have:=Int.mul_pos h1 h2; omega
theorem btw_mul {U W e g:Int}(hU:0 < U)(h0:0≤W)(h1:W≤U)(h:e * W=g * U):min 0 e≤g∧g≤max 0 e:=by
 have hg:∀ z:Int,0≤z * U→0≤z:=fun z hz=>by
   rcases Int.lt_or_le z 0 with g | g
   · have:=Int.mul_neg_of_neg_of_pos g hU; omega
   · exact g
 rcases Int.le_total 0 e with he | he
 · have a1:0≤g:=hg g (by rw [←h]; exact Int.mul_nonneg he h0)
   have a2:0≤e - g:=hg (e - g) (by rw [Int.sub_mul,←h]; have:=Int.mul_le_mul_of_nonneg_left h1 he; omega)
   omega
 · have a1:0≤-g:=hg (-g) (by
     rw [Int.neg_mul,←h]
     have:=Int.mul_nonneg (show 0≤-e by omega) h0
     rw [Int.neg_mul] at this; omega)
   have a2:0≤g - e:=hg (g - e) (by
     rw [Int.sub_mul,←h]
     have:=Int.mul_le_mul_of_nonneg_left h1 (show 0≤-e by omega)
     rw [Int.neg_mul,Int.neg_mul] at this; omega)
   omega
structure Hgt (T:Pt→Q) (α β γ κ:Int):Prop where
 t:∀ v,(T v).t=α * v.x + β * v.y + γ
 d:∀ a b c,Geo.D (T a) (T b) (T c)=κ * det a b c
 k:0 < κ
 ne:∀ {a b:Pt},a.In→b.In→(T a).t=(T b).t→a.x=b.x∧a.y=b.y
section
variable {T:Pt→Q} {α β γ κ:Int}
theorem mul_zero_of {k m:Int}(hk:0 < k)(h:k * m=0):m=0:=by
 rcases Int.mul_eq_zero.1 h with h | h
 · omega
 · exact h
theorem on_of (hT:Hgt T α β γ κ){a b c:Pt}(hab:(T a).t≠(T b).t)(hb:Btw (T a) (T b) (T c))(hd:det a b c=0):onS a b c=true:=by
 have h0:(b.x - a.x) * (c.y - a.y) - (b.y - a.y) * (c.x - a.x)=0:=hd
 have hx:(b.x - a.x) * ((T c).t - (T a).t)=(c.x - a.x) * ((T b).t - (T a).t):=by rw [hT.t,hT.t,hT.t]; grind
 have hy:(b.y - a.y) * ((T c).t - (T a).t)=(c.y - a.y) * ((T b).t - (T a).t):=by rw [hT.t,hT.t,hT.t]; grind
 unfold onS
 simp only [Bool.and_eq_true,decide_eq_true_eq]
 rcases Int.lt_or_gt_of_ne hab with hlt | hlt
 · have hb':(T a).t≤(T c).t∧(T c).t≤(T b).t:=by unfold Btw at hb; omega
   have e1:=btw_mul (show 0 < (T b).t - (T a).t by omega) (by omega) (by omega) hx
   have e2:=btw_mul (show 0 < (T b).t - (T a).t by omega) (by omega) (by omega) hy
   exact ⟨⟨⟨⟨sgn_zero hd,by omega⟩,by omega⟩,by omega⟩,by omega⟩
 · have hb':(T b).t≤(T c).t∧(T c).t≤(T a).t:=by unfold Btw at hb; omega
   have hx':(b.x - a.x) * ((T a).t - (T c).t)=(c.x - a.x) * ((T a).t - (T b).t):=by
     rw [←Int.neg_sub (T c).t (T a).t,←Int.neg_sub (T b).t (T a).t,Int.mul_neg,Int.mul_neg,hx]
   have hy':(b.y - a.y) * ((T a).t - (T c).t)=(c.y - a.y) * ((T a).t - (T b).t):=by
     rw [←Int.neg_sub (T c).t (T a).t,←Int.neg_sub (T b).t (T a).t,Int.mul_neg,Int.mul_neg,hy]
   have e1:=btw_mul (show 0 < (T a).t - (T b).t by omega) (by omega) (by omega) hx'
   have e2:=btw_mul (show 0 < (T a).t - (T b).t by omega) (by omega) (by omega) hy'
   exact ⟨⟨⟨⟨sgn_zero hd,by omega⟩,by omega⟩,by omega⟩,by omega⟩
theorem apart_of (hT:Hgt T α β γ κ){a b c d:Pt}(hab:(T a).t≠(T b).t)(hcd:(T c).t≠(T d).t)(hm:meets a b c d=false):Apart (T a) (T b) (T c) (T d):=by
 unfold meets at hm
 simp only [Bool.or_eq_false_iff] at hm
 obtain ⟨⟨⟨⟨h1,h2⟩,h3⟩,h4⟩,h5⟩:=hm
 have z:∀ {a b c:Pt},Geo.D (T a) (T b) (T c)=0→det a b c=0:=by intro a b c h; rw [hT.d] at h; exact mul_zero_of hT.k h
 refine ⟨fun g e=>?_,fun g e=>?_,fun g e=>?_,fun g e=>?_,fun ⟨g1,g2⟩=>?_⟩
 · rw [on_of hT hab g (z e)] at h1; cases h1
 · rw [on_of hT hab g (z e)] at h2; cases h2
 · rw [on_of hT hcd g (z e)] at h3; cases h3
 · rw [on_of hT hcd g (z e)] at h4; cases h4
 · have s:∀ m n:Int,κ * m * (κ * n) < 0→m * n < 0:=by
     intro m n h
     have e:κ * m * (κ * n)=κ * κ * (m * n):=by grind
     rw [e] at h
     exact Geo.neg_of_mul (Int.mul_pos hT.k hT.k) h
   rw [hT.d,hT.d] at g1 g2
   have e1:=sgn_neg (s _ _ g1)
   have e2:=sgn_neg (s _ _ g2)
   unfold ori at h5
   rw [decide_eq_true e1,decide_eq_true e2] at h5
   cases h5
end
theorem hgt_q:Hgt qP 1 4000001 0 4000001:=⟨fun v=>by simp only [qP]; omega,D_q,by decide,q_ne⟩
def swB (p:List Pt)(i:Nat):Bool:=!upB (pt p i) (pt p (nx p i)) && upB (pt p (nx p i)) (pt p (nx p (nx p i)))
section
variable {p:List Pt}
abbrev fT (T:Pt→Q)(p:List Pt)(i:Nat):Q:=T (pt p (i % p.length))
abbrev fP (p:List Pt)(i:Nat):Q:=fT qP p i
theorem mod_succ (p:List Pt)(i:Nat):(i + 1) % p.length=nx p (i % p.length):=by unfold nx; rw [Nat.mod_add_mod]
theorem det_pos (hp:3≤p.length)(hc:convex p=true)(i:Nat):0 < det (pt p (i % p.length)) (pt p (nx p (i % p.length))) (pt p (nx p (nx p (i % p.length)))):=by
 unfold convex at hc
 simp only [Bool.and_eq_true,Bool.not_eq_true'] at hc
 have h:=List.any_eq_false.1 hc.1 (i % p.length) (by simpa using Nat.mod_lt i (show 0 < p.length by omega))
 simp only [Bool.not_eq_true',decide_eq_false_iff_not,Classical.not_not] at h
 unfold ori sgn at h
 split at h
 · assumption
 · split at h<;>omega
theorem sides {T:Pt→Q}{α β γ κ:Int}(hT:Hgt T α β γ κ)(hp:3≤p.length)(ha:AllIn p)(hc:convex p=true) :
   (∀ i,fT T p (i + p.length)=fT T p i)∧(∀ i,(fT T p i).t≠(fT T p (i + 1)).t)∧(∀ i,0 < Geo.D (fT T p i) (fT T p (i + 1)) (fT T p (i + 2)))∧
   ∀ i k,i + 2≤k→k + 1 < i + p.length→Apart (fT T p i) (fT T p (i + 1)) (fT T p k) (fT T p (k + 1)):=by
 have hdet:=det_pos hp hc
 unfold convex at hc
 simp only [Bool.and_eq_true,Bool.not_eq_true'] at hc
 obtain ⟨ht,hx⟩:=hc
 have hn:0 < p.length:=by omega
 have hlt:∀ i,i % p.length < p.length:=fun i=>Nat.mod_lt _ hn
 have hne:∀ i,(fT T p i).t≠(fT T p (i + 1)).t:=by
   intro i h
   obtain ⟨e1,e2⟩:=hT.ne (ha.pt (hlt i)) (ha.pt (hlt (i + 1))) h
   have hd:=hdet i
   rw [mod_succ] at e1 e2
   unfold det at hd
   rw [e1,e2,Int.sub_self,Int.sub_self,Int.zero_mul,Int.zero_mul] at hd
   omega
 have hm:∀ i k,i < p.length→i + 2≤k→k < p.length→nx p k≠i→Apart (T (pt p i)) (T (pt p (nx p i))) (T (pt p k)) (T (pt p (nx p k))):=by
   intro i k hi hik hk hnk
   have h1:=List.any_eq_false.1 hx i (by simpa using hi)
   have h2:=List.any_eq_false.1 (Bool.not_eq_true _ ▸ h1) k (by rw [List.mem_range'_1]; omega)
   unfold crossB at h2
   rw [decide_eq_false (by omega)] at h2
   have n1:=hne i
   have n2:=hne k
   have m1:=mod_succ p i
   have m2:=mod_succ p k
   rw [Nat.mod_eq_of_lt hi] at m1
   rw [Nat.mod_eq_of_lt hk] at m2
   simp only [fT,m1,m2,Nat.mod_eq_of_lt hi,Nat.mod_eq_of_lt hk] at n1 n2
   exact apart_of hT n1 n2 (by simpa using h2)
 refine ⟨fun i=>by unfold fT; rw [Nat.add_mod_right],hne,fun i=>?_,fun i k hik hki=>?_⟩
 · have:=hdet i
   show 0 < Geo.D (T (pt p (i % p.length))) (T (pt p ((i + 1) % p.length))) (T (pt p ((i + 1 + 1) % p.length)))
   rw [mod_succ p (i + 1),mod_succ p i,hT.d]
   exact Int.mul_pos hT.k this
 · obtain ⟨d,rfl⟩:∃ d,k=i + d:=⟨k - i,by omega⟩
   show Apart (T (pt p (i % p.length))) (T (pt p ((i + 1) % p.length))) (T (pt p ((i + d) % p.length))) (T (pt p ((i + d + 1) % p.length)))
   rw [mod_succ p i,mod_succ p (i + d)]
   have hi:=hlt i
   have hk:=hlt (i + d)
   rw [←Nat.mod_add_mod] at hk ⊢
   generalize i % p.length=i' at hi hk ⊢
   rcases Nat.lt_or_ge (i' + d) p.length with h | h
   · rw [Nat.mod_eq_of_lt h]
     refine hm i' (i' + d) hi (by omega) h ?_
     unfold nx
     intro e
     rcases Nat.lt_or_ge (i' + d + 1) p.length with g | g
     · rw [Nat.mod_eq_of_lt g] at e; omega
     · rw [show i' + d + 1=p.length by omega,Nat.mod_self] at e; omega
   · have e:(i' + d) % p.length=i' + d - p.length:=by rw [Nat.mod_eq_sub_mod h,Nat.mod_eq_of_lt (by omega)]
     rw [e]
     refine (hm (i' + d - p.length) i' (by omega) (by omega) hi ?_).symm
     unfold nx
     intro e
     rcases Nat.lt_or_ge (i' + 1) p.length with g | g
     · rw [Nat.mod_eq_of_lt g] at e; omega
     · rw [show i' + 1=p.length by omega,Nat.mod_self] at e; omega
theorem count_one {α:Type}(P:α→Bool):∀ (l:List α),l.Nodup→(∃ x∈l,P x=true)→(∀ x∈l,∀ y∈l,P x=true→P y=true→x=y)→(l.filter P).length=1
 | [],_,⟨x,hx,_⟩,_=>by cases hx
 | a :: r,hn,⟨x,hx,hp⟩,hu=>by
   obtain ⟨h1,h2⟩:=List.nodup_cons.1 hn
   cases ha:P a with
   | true=>
     have hr:r.filter P=[]:=List.filter_eq_nil_iff.2 fun y hy he=>by
       have:=hu a List.mem_cons_self y (List.mem_cons_of_mem _ hy) ha he
       subst this; exact h1 hy
     rw [List.filter_cons,ha,hr]; rfl
   | false=>
     rw [List.filter_cons,ha]
     refine count_one P r h2 ⟨x,?_,hp⟩ (fun y hy z hz=>hu y (List.mem_cons_of_mem _ hy) z (List.mem_cons_of_mem _ hz))
     rcases List.mem_cons.1 hx with rfl | hx
     · rw [ha] at hp; cases hp
     · exact hx
theorem turns_once (hp:3≤p.length)(ha:AllIn p)(hc:convex p=true):((List.range p.length).filter (swB p)).length=1:=by
 obtain ⟨per,ne,turn,ap⟩:=sides hgt_q hp ha hc
 have hn:0 < p.length:=by omega
 have hlt:∀ i,i % p.length < p.length:=fun i=>Nat.mod_lt _ hn
 have hup:∀ i,Geo.Up (fP p) i↔upB (pt p (i % p.length)) (pt p (nx p (i % p.length)))=true:=by
   intro i
   rw [←mod_succ]
   exact q_lt (ha.pt (hlt i)) (ha.pt (hlt (i + 1)))
 have hsw:∀ i,i < p.length→(swB p i=true↔Geo.Sw (fP p) i):=by
   intro i hi
   have h1:=hup i
   have h2:=hup (i + 1)
   rw [mod_succ] at h2
   rw [Nat.mod_eq_of_lt hi] at h1 h2
   unfold swB Geo.Sw
   rw [Bool.and_eq_true,Bool.not_eq_true',h1,h2,Bool.not_eq_true]
 refine count_one _ _ List.nodup_range ?_ ?_
 · obtain ⟨i,hi,hs⟩:=Geo.some_turn hn per ne
   exact ⟨i,by simpa using hi,(hsw i hi).2 hs⟩
 · intro i hi j hj si sj
   have hi':i < p.length:=by simpa using hi
   have hj':j < p.length:=by simpa using hj
   have s1:=(hsw i hi').1 si
   have s2:=(hsw j hj').1 sj
   rcases Nat.lt_trichotomy i j with h | h | h
   · exact (Geo.one_turn hn per ne turn ap h (by omega) s1 s2).elim
   · exact h
   · exact (Geo.one_turn hn per ne turn ap h (by omega) s2 s1).elim
end
end Tz
open Gs Go
namespace Tz
open Geo (Q Btw Apart)
section
variable {p:List Pt}
end
end Tz
open Gs Go
namespace Tz
structure Cvx (p:List Pt):Prop where
 len:3≤p.length
 g:∀ {i k:Nat},i < p.length→k < p.length→0≤det (pt p i) (pt p (nx p i)) (pt p k)
 s:0 < det (pt p 0) (pt p (nx p 0)) (pt p (nx p (nx p 0)))
abbrev Rt (u v:Pt)(x y:Int):Prop:=det u v ⟨x,y⟩≤0
def Edg (p:List Pt)(x0 y0 x1 y1:Int):Prop:=∃ i,i < p.length∧Rt (pt p i) (pt p (nx p i)) x0 y0∧Rt (pt p i) (pt p (nx p i)) x1 y0∧Rt (pt p i) (pt p (nx p i)) x1 y1∧Rt (pt p i) (pt p (nx p i)) x0 y1
def Side (p:List Pt)(x0 y0 x1 y1:Int):Prop:=(∀ c∈p,c.y≤y0)∨(∀ c∈p,x1≤c.x)∨(∀ c∈p,y1≤c.y)∨(∀ c∈p,c.x≤x0)
section
variable {p:List Pt} {x0 a x1 y0 y1:Int}
theorem det_line (u v:Pt)(x y z:Int):det u v ⟨z,y⟩=det u v ⟨x,y⟩ - (v.y - u.y) * (z - x):=by unfold det; grind
theorem det_off (u v c:Pt)(x y:Int):det u v c=det u v ⟨x,y⟩ + ((v.x - u.x) * (c.y - y) - (v.y - u.y) * (c.x - x)):=by unfold det; grind
theorem part_of {u0 v0 u1 v1:Int}(hu:x0≤u0∧u0≤x1)(hu1:x0≤u1∧u1≤x1)(hv:y0≤v0∧v0≤y1)(hv1:y0≤v1∧v1≤y1)(h:Side p x0 y0 x1 y1∨Edg p x0 y0 x1 y1):Side p u0 v0 u1 v1∨Edg p u0 v0 u1 v1:=by
 rcases h with (g | g | g | g) | ⟨i,hi,r1,r2,r3,r4⟩
 · exact .inl (.inl fun c hc=>by have:=g c hc; omega)
 · exact .inl (.inr (.inl fun c hc=>by have:=g c hc; omega))
 · exact .inl (.inr (.inr (.inl fun c hc=>by have:=g c hc; omega)))
 · exact .inl (.inr (.inr (.inr fun c hc=>by have:=g c hc; omega)))
 · refine .inr ⟨i,hi,?_⟩
   have key:∀ x y,x0≤x→x≤x1→y0≤y→y≤y1→Rt (pt p i) (pt p (nx p i)) x y:=by
     intro x y a1 a2 a3 a4
     have hx:∀ z,Rt (pt p i) (pt p (nx p i)) x0 z→Rt (pt p i) (pt p (nx p i)) x1 z→Rt (pt p i) (pt p (nx p i)) x z:=by
       intro z s1 s2
       rcases Int.le_total 0 ((pt p (nx p i)).y - (pt p i).y) with hd | hd
       · have:=det_line (pt p i) (pt p (nx p i)) x0 z x
         have:=Int.mul_nonneg hd (show 0≤x - x0 by omega)
         unfold Rt at *; omega
       · have:=det_line (pt p i) (pt p (nx p i)) x1 z x
         have:=Geo.mul_nn hd (show x - x1≤0 by omega)
         unfold Rt at *; omega
     have b0:=hx y0 r1 r2
     have b1:=hx y1 r4 r3
     rcases Int.le_total 0 ((pt p (nx p i)).x - (pt p i).x) with hd | hd
     · have e:=det_off (pt p i) (pt p (nx p i)) ⟨x,y⟩ x y1
       have:=Int.mul_nonneg hd (show 0≤y1 - y by omega)
       simp only [Int.sub_self,Int.mul_zero,Int.sub_zero] at e
       have f:((pt p (nx p i)).x - (pt p i).x) * (y - y1) = - (((pt p (nx p i)).x - (pt p i).x) * (y1 - y)):=by grind
       unfold Rt at *; omega
     · have e:=det_off (pt p i) (pt p (nx p i)) ⟨x,y⟩ x y0
       have:=Int.mul_nonneg (show 0≤- ((pt p (nx p i)).x - (pt p i).x) by omega) (show 0≤y - y0 by omega)
       simp only [Int.sub_self,Int.mul_zero,Int.sub_zero] at e
       rw [Int.neg_mul] at this
       unfold Rt at *; omega
   exact ⟨key _ _ hu.1 hu.2 hv.1 hv.2,key _ _ hu1.1 hu1.2 hv.1 hv.2,key _ _ hu1.1 hu1.2 hv1.1 hv1.2,key _ _ hu.1 hu.2 hv1.1 hv1.2⟩
end
end Tz
