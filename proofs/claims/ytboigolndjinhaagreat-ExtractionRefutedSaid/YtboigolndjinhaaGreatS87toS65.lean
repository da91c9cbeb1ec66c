/- part S87; part S88; part S110; part S130; part S90; The reference: index and Check; no conditions. -/
import Derived.Test.YtboigolndjinhaaGreatS17toS86
import Derived.Test.YtboigolndjinhaaGreatP0
import Derived.Test.YtboigolndjinhaaGreatS13toS64
set_option linter.all false
set_option maxRecDepth 100000
open Gs Go
namespace Tz.C18
structure Near (c:Box):Prop where
 x0 : -1000001≤c.x0∧c.x0≤1000001
 x1 : -1000001≤c.x1∧c.x1≤1000001
 y0 : -1000001≤c.y0∧c.y0≤1000001
 y1 : -1000001≤c.y1∧c.y1≤1000001
 z0 : -1000001≤c.z0∧c.z0≤1000001
 z1 : -1000001≤c.z1∧c.z1≤1000001
theorem near_of {b:Box}(h:BoxIn b):Near b:=by
 obtain ⟨h1,h2,h3,h4,h5,h6,h7,h8,h9⟩:=h
 constructor<;>omega
theorem near_inter {b c:Box}(hb:Near b)(hc:Near c):Near (inter b c):=by
 obtain ⟨a1,a2,a3,a4,a5,a6⟩:=hb
 obtain ⟨b1,b2,b3,b4,b5,b6⟩:=hc
 unfold inter
 constructor<;>simp only<;>omega
theorem mul_le3 {a b c:Int}(ha:0≤a)(hb:0≤b)(hc:0≤c)(ha':a≤2000002)(hb':b≤2000002)(hc':c≤2000002):0≤a * b∧a * b≤4000008000004∧0≤a * b * c∧a * b * c≤8000024000024000008:=by
 have h1:a * b≤2000002 * 2000002:=Int.le_trans (Int.mul_le_mul_of_nonneg_right ha' hb) (Int.mul_le_mul_of_nonneg_left hb' (by omega))
 have h0:=Int.mul_nonneg ha hb
 have h2:a * b * c≤4000008000004 * 2000002:=Int.le_trans (Int.mul_le_mul_of_nonneg_right (by omega) hc) (Int.mul_le_mul_of_nonneg_left hc' (by omega))
 exact ⟨h0,by omega,Int.mul_nonneg h0 hc,by omega⟩
theorem len_in {c:Box}(h:Near c):(0≤len c.x0 c.x1∧len c.x0 c.x1≤2000002)∧(0≤len c.y0 c.y1∧len c.y0 c.y1≤2000002)∧(0≤len c.z0 c.z1∧len c.z0 c.z1≤2000002):=by
 obtain ⟨a1,a2,a3,a4,a5,a6⟩:=h
 unfold len
 omega
theorem vol_in {c:Box}(h:Near c):0≤vol c∧vol c≤8000024000024000008:=by
 obtain ⟨⟨a1,a2⟩,⟨b1,b2⟩,⟨c1,c2⟩⟩:=len_in h
 have:=mul_le3 a1 b1 c1 a2 b2 c2
 exact ⟨this.2.2.1,this.2.2.2⟩
theorem size_vol {c:Box}(h:Near c):sizeB c=vol c:=by
 have hl:=len_in h
 obtain ⟨a1,a2,a3,a4,a5,a6⟩:=h
 have e1:wsub c.x1 c.x0=c.x1 - c.x0:=wsub_in (by omega) (by omega) (by omega) (by omega)
 have e2:wsub c.y1 c.y0=c.y1 - c.y0:=wsub_in (by omega) (by omega) (by omega) (by omega)
 have e3:wsub c.z1 c.z0=c.z1 - c.z0:=wsub_in (by omega) (by omega) (by omega) (by omega)
 unfold sizeB vol
 rw [e1,e2,e3]
 have l0:∀ a b:Int,b - a≤0→len a b=0:=fun a b h=>by unfold len; omega
 have l1:∀ a b:Int,¬ b - a≤0→len a b=b - a:=fun a b h=>by unfold len; omega
 by_cases hx:c.x1 - c.x0≤0
 · rw [decide_eq_true hx,l0 _ _ hx]; simp
 by_cases hy:c.y1 - c.y0≤0
 · rw [decide_eq_true hy,l0 _ _ hy]; simp
 by_cases hz:c.z1 - c.z0≤0
 · rw [decide_eq_true hz,l0 _ _ hz]; simp
 rw [l1 _ _ hx,l1 _ _ hy,l1 _ _ hz] at *
 rw [decide_eq_false hx,decide_eq_false hy,decide_eq_false hz]
 obtain ⟨m1,m2,m3,m4⟩:=mul_le3 hl.1.1 hl.2.1.1 hl.2.2.1 hl.1.2 hl.2.1.2 hl.2.2.2
 have w1:wmul (c.x1 - c.x0) (c.y1 - c.y0)=(c.x1 - c.x0) * (c.y1 - c.y0):=wrap_in (by omega) (by omega)
 simp only [Bool.or_self,cond_false]
 rw [w1]
 exact wrap_in (by omega) (by omega)
abbrev tkB (s:Site)(tk:List ByteArray):List Box:=(s.blocks.filter (taken tk)).map (·.box)
theorem fold_open (tk:List ByteArray){c:Box}(hc:Near c):∀ (l:List Block) (left:Int),(∀ x∈l,Near x.box)→left≤9223372036854775807→vols c ((l.filter (taken tk)).map (·.box))≤left→
   l.foldl (openStep tk c) left=left - vols c ((l.filter (taken tk)).map (·.box))
 | [],left,_,_,_=>by simp [vols]
 | x :: l,left,hl,h1,h2=>by
   have hv:=vol_in (near_inter hc (hl x List.mem_cons_self))
   have hr:0≤vols c ((l.filter (taken tk)).map (·.box)):=by rw [←pts_cnt,←pts_zero c]; exact pts_le fun x y z _=>cnt_nn x y z _
   rw [List.foldl_cons]
   cases ht:taken tk x with
   | false=>
     rw [List.filter_cons_of_neg (by rw [ht]; decide)] at h2 ⊢
     have:openStep tk c left x=left:=by unfold openStep; rw [ht]; rfl
     rw [this]
     exact fold_open tk hc l left (fun y hy=>hl y (List.mem_cons_of_mem _ hy)) h1 h2
   | true=>
     rw [List.filter_cons_of_pos ht] at h2 ⊢
     simp only [List.map_cons,vols] at h2 ⊢
     have:openStep tk c left x=left - vol (inter c x.box):=by
       unfold openStep
       rw [ht,size_vol (near_inter hc (hl x List.mem_cons_self))]
       exact wrap_in (by omega) (by omega)
     rw [this,fold_open tk hc l _ (fun y hy=>hl y (List.mem_cons_of_mem _ hy)) (by omega) (by omega)]
     omega
theorem tk_apart {s:Site}(h:SiteOk s)(tk:List ByteArray):(tkB s tk).Pairwise (fun a b=>apart a b=true):=by
 unfold tkB
 rw [List.pairwise_map]
 exact ((lap_pairs s.blocks [] h.lap).2.filter _).imp fun h=>by rw [apart_symm]; exact h
def Cov (s:Site)(tk:List ByteArray)(x y z:Int):Prop:=∃ b∈s.blocks,taken tk b=true∧In3 b.box x y z
theorem open_iff {s:Site}(h:SiteOk s)(tk:List ByteArray){c:Box}(hc:Near c):openSt s tk c=true↔∀ x y z,In3 c x y z→Cov s tk x y z:=by
 have hv:=vol_in hc
 have hle:=vols_le (tk_apart h tk) c
 unfold openSt
 rw [size_vol hc,fold_open tk hc s.blocks (vol c) (fun x hx=>near_of (box_in h hx)) (by omega) hle,decide_eq_true_eq]
 have hf:=vols_full (tk_apart h tk) c
 constructor
 · intro he x y z hi
   obtain ⟨b,hb,hin⟩:=hf.1 (by unfold tkB; omega) x y z hi
   obtain ⟨b',hb',rfl⟩:=List.mem_map.1 hb
   obtain ⟨h1,h2⟩:=List.mem_filter.1 hb'
   exact ⟨b',h1,h2,hin⟩
 · intro hall
   have:=hf.2 fun x y z hi=>by
     obtain ⟨b,h1,h2,h3⟩:=hall x y z hi
     exact ⟨b.box,List.mem_map.2 ⟨b,List.mem_filter.2 ⟨h1,h2⟩,rfl⟩,h3⟩
   unfold tkB at this
   omega
theorem near_out {b:Box}(h:BoxIn b){d:Int}(hd:d=0∨d=1∨d=2∨d=3):Near (outB b d)∧(outB b d).z0=b.z0∧(outB b d).z1=b.z1:=by
 obtain ⟨h1,h2,h3,h4,h5,h6,h7,h8,h9⟩:=h
 have w1:∀ n:Int,-1000000≤n→n≤1000000→IntKind.i64.wrap (n + 1)=n + 1:=fun n h h'=>wrap_in (by omega) (by omega)
 have w2:∀ n:Int,-1000000≤n→n≤1000000→wsub n 1=n - 1:=fun n h h'=>wrap_in (by omega) (by omega)
 rcases hd with rfl | rfl | rfl | rfl
 · have e:outB b 0=⟨b.x1,b.y0,b.z0,IntKind.i64.wrap (b.x1 + 1),b.y1,b.z1⟩:=rfl
   rw [e,w1 _ (by omega) (by omega)]; exact ⟨by constructor<;>simp only<;>omega,rfl,rfl⟩
 · have e:outB b 1=⟨wsub b.x0 1,b.y0,b.z0,b.x0,b.y1,b.z1⟩:=rfl
   rw [e,w2 _ (by omega) (by omega)]; exact ⟨by constructor<;>simp only<;>omega,rfl,rfl⟩
 · have e:outB b 2=⟨b.x0,b.y1,b.z0,b.x1,IntKind.i64.wrap (b.y1 + 1),b.z1⟩:=rfl
   rw [e,w1 _ (by omega) (by omega)]; exact ⟨by constructor<;>simp only<;>omega,rfl,rfl⟩
 · have e:outB b 3=⟨b.x0,wsub b.y0 1,b.z0,b.x1,b.y0,b.z1⟩:=rfl
   rw [e,w2 _ (by omega) (by omega)]; exact ⟨by constructor<;>simp only<;>omega,rfl,rfl⟩
theorem part_iff {s:Site}(h:SiteOk s)(tk:List ByteArray){c:Box}(hc:Near c){lo hi:Int}(h1 : -1000001≤lo)(h2:lo≤1000001)(h3 : -1000001≤hi)(h4:hi≤1000001) :
   partB s tk c lo hi=true↔∀ x y z,In3 ⟨c.x0,c.y0,lo,c.x1,c.y1,hi⟩ x y z→Cov s tk x y z:=by
 unfold partB
 rw [Bool.or_eq_true,decide_eq_true_eq,open_iff h tk (c:=⟨c.x0,c.y0,lo,c.x1,c.y1,hi⟩) ⟨hc.x0,hc.x1,hc.y0,hc.y1,⟨h1,h2⟩,⟨h3,h4⟩⟩]
 constructor
 · rintro (h | h) x y z hi
   · obtain ⟨a1,a2,b1,b2,c1,c2⟩:=hi; simp only at c1 c2; omega
   · exact h x y z hi
 · exact fun h=>.inr h
theorem scan_iff {s:Site}(h:SiteOk s)(tk:List ByteArray){c:Box}(hc:Near c){top:Int}(ht : -1000000≤top∧top≤1000000):∀ (l:List (Int×Int)) (lo:Int),-1000000≤lo→lo≤top→Norm l→(∀ j∈l,lo≤j.1∧j.2 < top)→
   (scanB s tk c top l lo=true↔∀ x y z,In3 ⟨c.x0,c.y0,lo,c.x1,c.y1,top⟩ x y z→Cov s tk x y z∨Pts l z)
 | [],lo,h1,h2,_,_=>by
   unfold scanB
   rw [part_iff h tk hc (by omega) (by omega) (by omega) (by omega)]
   constructor
   · exact fun h x y z hi=>.inl (h x y z hi)
   · intro h x y z hi
     rcases h x y z hi with h | ⟨p,hp,_⟩
     · exact h
     · cases hp
 | j :: r, lo, h1, h2, hn, hj => by
   have hj0:=hj j List.mem_cons_self
   have hjj:=hn.2 j List.mem_cons_self
   have hnr:=(List.pairwise_cons.1 hn.1).1
   have hw:IntKind.i64.wrap (j.2 + 1)=j.2 + 1:=wrap_in (by omega) (by omega)
   have ih:=scan_iff h tk hc ht r (j.2 + 1) (by omega) (by omega) (norm_tail hn) (fun q hq=>⟨by have:=hnr q hq; omega,(hj q (List.mem_cons_of_mem _ hq)).2⟩)
   unfold scanB
   rw [hw]
   have hp:=part_iff h tk hc (lo:=lo) (hi:=j.1) (by omega) (by omega) (by omega) (by omega)
   cases hb:partB s tk c lo j.1 with
   | false=>
     simp only [cond_false]
     constructor
     · intro h; cases h
     · intro hall
       rw [←hb,hp]
       intro x y z ⟨a1,a2,b1,b2,c1,c2⟩
       simp only at c1 c2
       rcases hall x y z ⟨a1,a2,b1,b2,c1,by simp only; omega⟩ with h | ⟨p,hp,q1,q2⟩
       · exact h
       · rcases List.mem_cons.1 hp with rfl | hp
         · omega
         · have:=hnr p hp; omega
   | true=>
     simp only [cond_true]
     rw [ih]
     have hp':=hp.1 hb
     constructor
     · intro hall x y z ⟨a1,a2,b1,b2,c1,c2⟩
       simp only at a1 a2 b1 b2 c1 c2
       by_cases g1:z < j.1
       · exact .inl (hp' x y z ⟨a1,a2,b1,b2,c1,g1⟩)
       · by_cases g2:z≤j.2
         · exact .inr ⟨j,List.mem_cons_self,by omega,g2⟩
         · rcases hall x y z ⟨a1,a2,b1,b2,by simp only; omega,c2⟩ with h | ⟨p,hp,q⟩
           · exact .inl h
           · exact .inr ⟨p,List.mem_cons_of_mem _ hp,q⟩
     · intro hall x y z ⟨a1,a2,b1,b2,c1,c2⟩
       simp only at a1 a2 b1 b2 c1 c2
       rcases hall x y z ⟨a1,a2,b1,b2,by simp only; omega,c2⟩ with h | ⟨p,hp,q1,q2⟩
       · exact .inl h
       · rcases List.mem_cons.1 hp with rfl | hp
         · omega
         · exact .inr ⟨p,hp,q1,q2⟩
theorem boxed_site {s:Site}(h:SiteOk s){b:Block}(hb:b∈s.blocks):boxedErr s.survey b.box=0:=by
 have hi:=box_in h hb
 obtain ⟨h1,h2,h3,h4,h5,h6,h7,h8,h9⟩:=hi
 have ho:=List.any_eq_false.1 h.out b hb
 simp only [blockOut,insideB,Bool.not_not,Bool.or_eq_true,decide_eq_true_eq,not_or] at ho
 unfold boxedErr
 have e1:b.box.ok=true:=by unfold Box.ok; simp only [Bool.and_eq_true,decide_eq_true_eq]; omega
 have e2:outOf b.box s.survey.pit=false:=by
   unfold outOf
   simp only [Bool.or_eq_false_iff,decide_eq_false_iff_not]
   omega
 rw [e1,e2]; rfl
theorem sided_site {s:Site}(h:SiteOk s){b:Block}(hb:b∈s.blocks){d:Int}(hd:d=0∨d=1∨d=2∨d=3):sidedErr s.survey b.box d=0:=by
 have hs:sideBad d=false:=by unfold sideBad; rcases hd with rfl | rfl | rfl | rfl<;>rfl
 unfold sidedErr
 rw [decide_eq_true h.sv,hs,boxed_site h hb]; rfl
theorem joints_in {s:Survey}{b:Box}{d:Int} : ∀ x∈pJointed s b d,b.z0≤x.1∧x.2 < b.z1∧x.1≤x.2:=by
 unfold pJointed jList
 have:∀ (l:List Joint) (a:List (Int×Int)),(∀ x∈a,b.z0≤x.1∧x.2 < b.z1∧x.1≤x.2)→∀ x∈l.foldl (jStep b (planeAx d) (planeAt b d)) a,b.z0≤x.1∧x.2 < b.z1∧x.1≤x.2:=by
   intro l
   induction l with
   | nil=>exact fun a h=>h
   | cons j r ih=>
     intro a ha
     refine ih _ fun x hx=>?_
     unfold jStep at hx
     cases hj:jHit b (planeAx d) (planeAt b d) j with
     | false=>rw [hj] at hx; exact ha x hx
     | true=>
       rw [hj] at hx
       simp only [cond_true,List.mem_append,List.mem_cons,List.not_mem_nil,or_false] at hx
       rcases hx with hx | rfl
       · exact ha x hx
       · unfold jHit at hj
         simp only [Bool.and_eq_true,decide_eq_true_eq] at hj
         unfold jIv
         simp only
         omega
 exact this s.joints [] (by simp)
theorem jn_ok {s:Survey}{b:Box}{d:Int}(h:SurveyOk s)(hb:boxedErr s b=0):nrmErr (pJointed s b d)=0∧∀ x∈pJointed s b d,x.1≤x.2:=by
 have hJ:=jb_of h hb
 have hlen:=jList_len s b (planeAx d) (planeAt b d)
 have hsz:=h.size
 simp only [sizeBad,Bool.or_eq_false_iff,decide_eq_false_iff_not] at hsz
 have hall:∀ (l:List Joint) (acc:List (Int×Int)),(∀ j∈l,j∈s.joints)→(∀ x∈acc,x.1≤x.2∧-1000000≤x.1∧x.2≤1000000)→∀ x∈l.foldl (jStep b (planeAx d) (planeAt b d)) acc,x.1≤x.2∧-1000000≤x.1∧x.2≤1000000:=by
   intro l
   induction l with
   | nil=>intro acc _ h; exact h
   | cons j r ih=>
     intro acc hm hacc
     refine ih _ (fun y hy=>hm y (by simp [hy])) ?_
     intro x hx
     unfold jStep at hx
     cases hc:jHit b (planeAx d) (planeAt b d) j with
     | false=>rw [hc] at hx; exact hacc x hx
     | true=>
       rw [hc] at hx
       simp only [cond_true,List.mem_append,List.mem_singleton] at hx
       rcases hx with hx | rfl
       · exact hacc x hx
       · simp only [jHit,Bool.and_eq_true,decide_eq_true_eq] at hc
         have:=hJ.z0; have:=hJ.z1
         simp only [jIv]
         refine ⟨hc.2,by omega,by omega⟩
 have hx:=hall s.joints [] (fun j h=>h) (by simp)
 have hl:(pJointed s b d).length≤128:=by unfold pJointed; omega
 have he:ivErr (pJointed s b d)=0:=by
   unfold ivErr
   have h1:(pJointed s b d).any ivFar=false:=by
     rw [List.any_eq_false]
     intro x hm
     have:=hx x hm
     simp only [ivFar,Bool.or_eq_true,Bool.not_eq_true',Bool.and_eq_false_iff,decide_eq_false_iff_not]
     omega
   have h2:(pJointed s b d).any ivRev=false:=by
     rw [List.any_eq_false]
     intro x hm
     have:=hx x hm
     simp only [ivRev,decide_eq_true_eq]
     omega
   rw [h1,h2]; rfl
 refine ⟨?_,fun x hm=>(hx x hm).1⟩
 · unfold nrmErr
   rw [show decide (10000 < ((pJointed s b d).length:Int))=false by rw [decide_eq_false_iff_not]; omega,he]; rfl
theorem jointed_site {s:Site}(h:SiteOk s){b:Block}(hb:b∈s.blocks){d:Int}(hd:d=0∨d=1∨d=2∨d=3) :
   (jointedR s.survey b.box d).1=merged (pJointed s.survey b.box d)∧Norm (merged (pJointed s.survey b.box d))∧∀ n,Pts (merged (pJointed s.survey b.box d)) n↔Pts (pJointed s.survey b.box d) n:=by
 obtain ⟨k1,k3⟩:=jn_ok (d:=d) (surveyOk_of h) (boxed_site h hb)
 obtain ⟨m1,m2⟩:=merged_norm _ k3
 refine ⟨?_,m1,m2⟩
 unfold jointedR
 rw [decide_eq_true (sided_site h hb hd),decide_eq_true k1]; rfl
theorem free_iff {s:Site}(h:SiteOk s)(tk:List ByteArray){b:Block}(hb:b∈s.blocks){d:Int}(hd:d=0∨d=1∨d=2∨d=3) :
   freeB s tk b.box d=true↔openB s.survey b.box d=true∨∀ x y z,In3 (outB b.box d) x y z→Cov s tk x y z∨Pts (pJointed s.survey b.box d) z:=by
 have hi:=box_in h hb
 obtain ⟨hn,e0,e1⟩:=near_out hi hd
 obtain ⟨j1,j2,j3⟩:=jointed_site h hb hd
 unfold freeB
 rw [decide_eq_true (sided_site h hb hd),Bool.true_and,Bool.or_eq_true,j1]
 have hm:∀ j∈merged (pJointed s.survey b.box d),b.box.z0≤j.1∧j.2 < b.box.z1:=by
   intro j hj
   have h12:=j2.2 j hj
   obtain ⟨p,hp,p1,p2⟩:=(j3 j.1).1 ⟨j,hj,by omega,h12⟩
   obtain ⟨q,hq,q1,q2⟩:=(j3 j.2).1 ⟨j,hj,h12,by omega⟩
   have a:=joints_in p hp
   have a':=joints_in q hq
   omega
 obtain ⟨h1,h2,h3,h4,h5,h6,h7,h8,h9⟩:=hi
 rw [scan_iff h tk hn ⟨by omega,by omega⟩ _ b.box.z0 (by omega) (by omega) j2 hm]
 have hbox:(⟨(outB b.box d).x0,(outB b.box d).y0,b.box.z0,(outB b.box d).x1,(outB b.box d).y1,b.box.z1⟩:Box)=outB b.box d:=by rw [←e0,←e1]
 rw [hbox]
 simp only [j3]
end Tz.C18
set_option maxRecDepth 100000
open Gs Go
namespace Tz.C18
theorem cnt_mono {f0 f1 f2 f3 g0 g1 g2 g3:Bool}(h0:f0=true→g0=true)(h1:f1=true→g1=true)(h2:f2=true→g2=true)(h3:f3=true→g3=true):cntB f0 f1 f2 f3≤cntB g0 g1 g2 g3:=by
 have key:∀ f g:Bool,(f=true→g=true)→(bif f then (1:Int) else 0)≤(bif g then (1:Int) else 0):=fun f g h=>by
   cases f<;>cases g<;>simp_all
 have:=key f0 g0 h0
 have:=key f1 g1 h1
 have:=key f2 g2 h2
 have:=key f3 g3 h3
 unfold cntB
 omega
end Tz.C18
set_option maxRecDepth 100000
open Gs Go
namespace Tz.C18
abbrev Sub (s:Site)(tk tk':List ByteArray):Prop:=∀ x∈s.blocks,taken tk x=true→taken tk' x=true
theorem free_sub {s:Site}(h:SiteOk s){tk tk':List ByteArray}(hs:Sub s tk tk'){b:Block}(hb:b∈s.blocks){d:Int}(hd:d=0∨d=1∨d=2∨d=3)(hf:freeB s tk b.box d=true):freeB s tk' b.box d=true:=by
 rw [free_iff h _ hb hd] at hf ⊢
 rcases hf with hf | hf
 · exact .inl hf
 · refine .inr fun x y z hi=>?_
   rcases hf x y z hi with ⟨c,c1,c2,c3⟩ | hp
   · exact .inl ⟨c,c1,hs c c1 c2,c3⟩
   · exact .inr hp
theorem first_sub {s:Site}{tk tk':List ByteArray}(hs:Sub s tk tk'){but:ByteArray}{p:Box→Bool}(h:firstR s tk but p=none):firstR s tk' but p=none:=by
 refine List.find?_eq_none.2 fun x hx hp=>?_
 have:=List.find?_eq_none.1 h x hx
 unfold firstP at this hp
 simp only [Bool.and_eq_true,Bool.not_eq_true'] at hp
 have ht:taken tk x=false:=by
   cases h:taken tk x with
   | false=>rfl
   | true=>have:=hs x hx h; rw [hp.1.2] at this; cases this
 rw [hp.1.1,ht,hp.2] at this
 exact absurd rfl this
theorem possible_sub {s:Site}(h:SiteOk s){tk tk':List ByteArray}(hs:Sub s tk tk'){b:Block}(hb:b∈s.blocks)(hp:possible s tk b=true)(hn:taken tk' b=false):possible s tk' b=true:=by
 obtain ⟨h1,h2,h3,h4,h5⟩:=possible_facts hp
 have hc:=of_decide_eq_false h4
 have hm:∀ d:Int,(d=0∨d=1∨d=2∨d=3)→freeB s tk b.box d=true→freeB s tk' b.box d=true:=fun d hd hf=>free_sub h hs hb hd hf
 have:=cnt_mono (hm 0 (by omega)) (hm 1 (by omega)) (hm 2 (by omega)) (hm 3 (by omega))
 unfold possible whyB
 have e4:decide (cntB (freeB s tk' b.box 0) (freeB s tk' b.box 1) (freeB s tk' b.box 2) (freeB s tk' b.box 3) < 2)=false:=decide_eq_false (by omega)
 have e2:=first_sub hs h2
 have e5:=first_sub hs h5
 rw [hn,e2,h3,e4,e5]
 rfl
def freeN (s:Site)(tk:List ByteArray)(n:ByteArray):Bool:=decide (startErr s tk=0) && match s.blocks.find? (called n) with
 | some b=>possible s tk b
 | none=>false
def firstF (s:Site):List ByteArray→List ByteArray→Nat
 | pre,[]=>pre.length
 | pre,n :: r=>bif freeN s pre n then firstF s (pre ++ [n]) r else pre.length
def possO (s:Site):List ByteArray→List ByteArray→Bool
 | _,[]=>true
 | pre,n :: r=>freeN s pre n && possO s (pre ++ [n]) r
theorem first_ge (s:Site):∀ (r pre:List ByteArray),pre.length≤firstF s pre r∧firstF s pre r≤pre.length + r.length
 | [],pre=>by simp [firstF]
 | n :: r,pre=>by
   unfold firstF
   cases freeN s pre n with
   | true=>have:=first_ge s r (pre ++ [n]); simp only [cond_true,List.length_append,List.length_cons,List.length_nil] at *; omega
   | false=>simp
theorem first_poss (s:Site):∀ (r pre:List ByteArray),decide (firstF s pre r=pre.length + r.length)=possO s pre r
 | [],pre=>by simp [firstF,possO]
 | n :: r,pre=>by
   unfold firstF possO
   cases freeN s pre n with
   | true=>
     have:=first_poss s r (pre ++ [n])
     simp only [cond_true,Bool.true_and,←this,List.length_append,List.length_cons,List.length_nil]
     congr 1
     rw [Nat.add_assoc,Nat.add_comm 1]
   | false=>simp
theorem first_take (s:Site):∀ (r pre:List ByteArray),possO s pre (r.take (firstF s pre r - pre.length))=true
 | [],pre=>by simp [firstF,possO]
 | n :: r,pre=>by
   unfold firstF
   cases h:freeN s pre n with
   | true=>
     have hg:=first_ge s r (pre ++ [n])
     have:=first_take s r (pre ++ [n])
     simp only [List.length_append,List.length_cons,List.length_nil] at this hg
     simp only [cond_true]
     rw [show firstF s (pre ++ [n]) r - pre.length=(firstF s (pre ++ [n]) r - (pre.length + (0 + 1))) + 1 by omega,List.take_succ_cons]
     unfold possO
     rw [h,this]; rfl
   | false=>simp [possO]
theorem free_facts {s:Site}{tk:List ByteArray}{n:ByteArray}(h:freeN s tk n=true):startErr s tk=0∧∃ b∈s.blocks,b.name=n∧possible s tk b=true:=by
 unfold freeN at h
 simp only [Bool.and_eq_true,decide_eq_true_eq] at h
 refine ⟨h.1,?_⟩
 cases hf:s.blocks.find? (called n) with
 | none=>rw [hf] at h; simp at h
 | some b=>
   rw [hf] at h
   have hc:called n b=true:=List.find?_some hf
   exact ⟨b,List.mem_of_find?_eq_some hf,seq_iff.1 hc,h.2⟩
theorem free_of {s:Site}(hok:SiteOk s){tk:List ByteArray}(hst:startErr s tk=0){b:Block}(hb:b∈s.blocks)(hp:possible s tk b=true):freeN s tk b.name=true:=by
 unfold freeN
 rw [decide_eq_true hst,sorted_find (sorted_of hok.srt) hb]
 exact hp
theorem taken_iff {tk:List ByteArray}{b:Block} : taken tk b=true↔b.name∈tk:=by
 unfold taken
 rw [List.any_eq_true]
 constructor
 · rintro ⟨x,hx,he⟩; rw [seq_iff.1 he]; exact hx
 · exact fun h=>⟨_,h,seq_refl _⟩
theorem sub_of {s:Site}{tk tk':List ByteArray}(h:∀ n∈tk,n∈tk'):Sub s tk tk':=fun x _ ht=>taken_iff.2 (h _ (taken_iff.1 ht))
theorem start_nodup {s:Site}{tk:List ByteArray}(h:startErr s tk=0):tk.Nodup:=((dupS_iff tk []).1 (start_ok h).2.2).2
theorem start_known {s:Site}{tk:List ByteArray}(h:startErr s tk=0):∀ n∈tk,∃ b∈s.blocks,b.name=n:=by
 intro n hn
 have:=List.any_eq_false.1 (start_ok h).2.1 n hn
 simp only [unknown,Bool.not_eq_true',Bool.not_eq_false] at this
 obtain ⟨b,hb,he⟩:=List.any_eq_true.1 this
 exact ⟨b,hb,seq_iff.1 he⟩
theorem start_of {s:Site}(h:siteErr s=0){tk:List ByteArray}(hn:tk.Nodup)(hk:∀ n∈tk,∃ b∈s.blocks,b.name=n):startErr s tk=0:=by
 unfold startErr
 have h1:tk.any (unknown s)=false:=List.any_eq_false.2 fun n hx=>by
   obtain ⟨b,hb,he⟩:=hk n hx
   simp only [unknown,Bool.not_eq_true',Bool.not_eq_false]
   exact List.any_eq_true.2 ⟨b,hb,by unfold called; rw [he]; exact seq_refl _⟩
 have h2:dupS [] tk=false:=(dupS_iff tk []).2 ⟨by simp,hn⟩
 rw [decide_eq_true h,h1,h2]; rfl
theorem stuck_all {s:Site}(hok:SiteOk s){l:List ByteArray}(hst:∀ b∈s.blocks,possible s l b=false):∀ (r pre:List ByteArray),(∀ n∈pre,n∈l)→possO s pre r=true→∀ n∈r,n∈l
 | [],_,_,_,n,hn=>by cases hn
 | m :: r,pre,hsub,hp,n,hn=>by
   unfold possO at hp
   simp only [Bool.and_eq_true] at hp
   obtain ⟨_,b,hb,rfl,hpb⟩:=free_facts hp.1
   have hm:b.name∈l:=by
     cases h:taken l b with
     | true=>exact taken_iff.1 h
     | false=>have:=possible_sub hok (sub_of hsub) hb hpb h; rw [hst b hb] at this; cases this
   rcases List.mem_cons.1 hn with rfl | hn
   · exact hm
   · exact stuck_all hok hst r (pre ++ [b.name]) (fun k hk=>by
       rcases List.mem_append.1 hk with hk | hk
       · exact hsub k hk
       · simp only [List.mem_cons,List.not_mem_nil,or_false] at hk; subst hk; exact hm) hp.2 n hn
def greatF (s:Site):Nat→List ByteArray→List ByteArray
 | 0,tk=>tk
 | k + 1,tk=>match s.blocks.find? (possible s tk) with
   | some b=>greatF s k (tk ++ [b.name])
   | none=>tk
def leftN (s:Site)(tk:List ByteArray):Nat:=(s.blocks.filter fun b=>!taken tk b).length
theorem filter_lt {α:Type}{p q:α→Bool} : ∀ {l:List α},(∀ x∈l,p x=true→q x=true)→∀ {a},a∈l→q a=true→p a=false→(l.filter p).length < (l.filter q).length
 | [],_,_,ha,_,_=>by cases ha
 | b :: l,h,a,ha,hq,hp=>by
   have hle:∀ {l:List α},(∀ x∈l,p x=true→q x=true)→(l.filter p).length≤(l.filter q).length:=by
     intro l
     induction l with
     | nil=>intro _; exact Nat.le_refl _
     | cons c r ih=>
       intro h
       have ih:=ih fun x hx=>h x (List.mem_cons_of_mem _ hx)
       have hc:=h c List.mem_cons_self
       cases h1:p c<;>cases h2:q c<;>simp only [List.filter_cons,h1,h2,List.length_cons,if_true,if_false,Bool.false_eq_true]<;>first | omega | (rw [h1,h2] at hc; exact absurd (hc rfl) (by simp))
   have h':∀ x∈l,p x=true→q x=true:=fun x hx=>h x (List.mem_cons_of_mem _ hx)
   rcases List.mem_cons.1 ha with rfl | ha
   · simp only [List.filter_cons,hp,hq,List.length_cons,if_true,if_false,Bool.false_eq_true]
     have:=hle h'
     omega
   · have ih:=filter_lt h' ha hq hp
     have hb:=h b List.mem_cons_self
     cases h1:p b<;>cases h2:q b<;>simp only [List.filter_cons,h1,h2,List.length_cons,if_true,if_false,Bool.false_eq_true]<;>first | omega | (rw [h1,h2] at hb; exact absurd (hb rfl) (by simp))
theorem left_step {s:Site}{tk:List ByteArray}{b:Block}(hb:b∈s.blocks)(hp:possible s tk b=true):leftN s (tk ++ [b.name]) < leftN s tk:=by
 refine filter_lt (fun x _ hx=>?_) hb (by rw [(possible_facts hp).1]; rfl) (by rw [taken_snoc,seq_refl]; simp)
 rw [taken_snoc] at hx
 cases h:taken tk x with
 | true=>rw [h] at hx; simp at hx
 | false=>rfl
theorem great_facts {s:Site}(hok:SiteOk s):∀ (k:Nat) (tk:List ByteArray),Inv s tk→leftN s tk≤k→∃ r,greatF s k tk=tk ++ r∧possO s tk r=true∧Inv s (tk ++ r)∧∀ b∈s.blocks,possible s (tk ++ r) b=false
 | 0,tk,hI,hl=>by
   refine ⟨[],by simp [greatF],rfl,by simpa using hI,fun b hb=>?_⟩
   rw [List.append_nil]
   cases h:possible s tk b with
   | false=>rfl
   | true=>have:=left_step hb h; omega
 | k + 1,tk,hI,hl=>by
   unfold greatF
   cases hf:s.blocks.find? (possible s tk) with
   | none=>
     refine ⟨[],by simp,rfl,by simpa using hI,fun b hb=>?_⟩
     rw [List.append_nil]
     simpa using List.find?_eq_none.1 hf b hb
   | some b=>
     have hb:=List.mem_of_find?_eq_some hf
     have hp:possible s tk b=true:=List.find?_some hf
     have:=left_step hb hp
     obtain ⟨r,h1,h2,h3,h4⟩:=great_facts hok k (tk ++ [b.name]) (inv_step hI hb hp) (by omega)
     refine ⟨b.name :: r,by simp only; rw [h1]; simp,?_,by simpa using h3,by simpa using h4⟩
     unfold possO
     rw [free_of hok hI.st hb hp,h2]; rfl
def great (s:Site):List ByteArray:=greatF s s.blocks.length []
theorem great_ok {s:Site}(hs:siteErr s=0):possO s [] (great s)=true∧Inv s (great s)∧∀ b∈s.blocks,possible s (great s) b=false:=by
 have hst:startErr s []=0:=start_of hs List.nodup_nil (by simp)
 obtain ⟨r,h1,h2,h3,h4⟩:=great_facts (site_ok hs) s.blocks.length [] (inv_nil hst) (List.length_filter_le _ _)
 unfold great
 rw [h1,List.nil_append] at *
 exact ⟨h2,h3,h4⟩
end Tz.C18
set_option maxRecDepth 100000
open Gs Go
namespace Tz.C18
def planF (s:Site):Nat→List ByteArray→List ByteArray
 | 0,o=>o
 | i + 1,o=>planF s i (bif possO s [] (o.eraseIdx i) then o.eraseIdx i else o)
end Tz.C18
set_option maxRecDepth 100000
open Gs Go
namespace Tz.C18
def fullB (b:Box):Bool:=decide (b.x0 < b.x1) && decide (b.y0 < b.y1) && decide (b.z0 < b.z1)
def partsL (a c:Box):List Box:=
 [⟨a.x0,a.y0,a.z0,a.x1,a.y1,c.z0⟩,⟨a.x0,a.y0,c.z1,a.x1,a.y1,a.z1⟩,⟨a.x0,a.y0,c.z0,a.x1,c.y0,c.z1⟩,⟨a.x0,c.y1,c.z0,a.x1,a.y1,c.z1⟩,⟨a.x0,c.y0,c.z0,c.x0,c.y1,c.z1⟩,⟨c.x1,c.y0,c.z0,a.x1,c.y1,c.z1⟩]
def subsL (a b:Box):List Box:=bif fullB (inter a b) then (partsL a (inter a b)).filter fullB else [a]
def restL (out list:List Box):List Box:=list.foldl (fun out b=>out.flatMap fun a=>subsL a b) out
theorem nodup_le {α:Type} [DecidableEq α]:∀ {l m:List α},l.Nodup→(∀ x∈l,x∈m)→l.length≤m.length
 | [],m,_,_=>Nat.zero_le _
 | a :: l,m,h,hs=>by
   obtain ⟨h1,h2⟩:=List.nodup_cons.1 h
   have ha:=hs a List.mem_cons_self
   have hl:=List.length_erase_of_mem ha
   have hp:0 < m.length:=List.length_pos_of_mem ha
   have:=nodup_le (m:=m.erase a) h2 fun x hx=>(List.mem_erase_of_ne (by rintro rfl; exact h1 hx)).2 (hs x (List.mem_cons_of_mem _ hx))
   simp only [List.length_cons]; omega
structure Cor (c:Box) (bs ss:List Box) (q:Box):Prop where
 f:fullB q=true
 x0:c.x0≤q.x0∧q.x1≤c.x1
 y0:c.y0≤q.y0∧q.y1≤c.y1
 z0:c.z0≤q.z0∧q.z1≤c.z1
 x:q.x0∈c.x0 :: bs.flatMap fun b=>[b.x0,b.x1]
 y:q.y0∈c.y0 :: bs.flatMap fun b=>[b.y0,b.y1]
 z:q.z0∈c.z0 :: ((bs.flatMap fun b=>[b.z0,b.z1]) ++ ss.map (·.z1))
end Tz.C18
set_option maxRecDepth 100000
open Gs Go
namespace Tz.C18
end Tz.C18
