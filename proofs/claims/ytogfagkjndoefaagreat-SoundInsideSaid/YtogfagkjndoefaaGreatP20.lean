/- part P20; no conditions. -/
import Derived.Test.YtogfagkjndoefaaGreatS1
set_option linter.all false
open Gs Go
namespace Tz
structure V3 where
 x:Int
 y:Int
 z:Int
structure Ev where
 src:ByteArray
 box:Box
 st:Int
def Box.has (b:Box)(p:V3):Bool:=((((decide (b.x0≤p.x) && decide (p.x < b.x1)) && decide (b.y0≤p.y)) && decide (p.y < b.y1)) && decide (b.z0≤p.z)) && decide (p.z < b.z1)
theorem has_iff {b:Box}{p:V3} : b.has p=true↔b.x0≤p.x∧p.x < b.x1∧b.y0≤p.y∧p.y < b.y1∧b.z0≤p.z∧p.z < b.z1:=by
 simp [Box.has,and_assoc]
def Box.min (b:Box):V3:=⟨b.x0,b.y0,b.z0⟩
def joinS (a b:Int):Int:=if a=0∨a=b then b else if b=0 then a else 3
def stStep (p:V3)(s:Int)(x:Ev):Int:=bif x.box.has p then joinS s x.st else s
def stAt (l:List Ev)(p:V3):Int:=l.foldl (stStep p) 0
def bef (a b:V3):Bool:=if a.z=b.z then (if a.y=b.y then decide (a.x < b.x) else decide (a.y < b.y)) else decide (a.z < b.z)
theorem bef_iff {a b:V3} : bef a b=true↔a.z < b.z∨a.z=b.z∧(a.y < b.y∨a.y=b.y∧a.x < b.x):=by
 unfold bef
 split
 · split<;>simp_all
 · simp only [decide_eq_true_eq]; omega
theorem bef_irr (a:V3):bef a a=false:=by
 cases h:bef a a with
 | false=>rfl
 | true=>rw [bef_iff] at h; omega
theorem bef_tri {a b:V3}(h1:bef a b=false)(h2:bef b a=false):a=b:=by
 have g1:¬(bef a b=true):=by rw [h1]; exact Bool.false_ne_true
 have g2:¬(bef b a=true):=by rw [h2]; exact Bool.false_ne_true
 rw [bef_iff] at g1 g2
 cases a; cases b
 simp only at g1 g2
 simp only [V3.mk.injEq]
 omega
theorem bef_trans {a b c:V3}(h1:bef a b=true)(h2:bef b c=true):bef a c=true:=by
 rw [bef_iff] at *; omega
theorem bef_le {a b:V3}(hx:a.x≤b.x)(hy:a.y≤b.y)(hz:a.z≤b.z):bef b a=false:=by
 cases h:bef b a with
 | false=>rfl
 | true=>rw [bef_iff] at h; omega
structure Least (b:Box) (st:V3→Int) (n:Int) (r:Option V3):Prop where
 no:r=none→∀ p,b.has p=true→st p≠n
 yes:∀ m,r=some m→b.has m=true∧st m=n∧∀ p,b.has p=true→st p=n→bef p m=false
theorem Least.eq {b:Box}{st:V3→Int}{n:Int}{r r':Option V3}(h:Least b st n r)(h':Least b st n r'):r=r':=by
 cases r with
 | none=>
   cases r' with
   | none=>rfl
   | some m=>exact absurd (h'.yes m rfl).2.1 (h.no rfl m (h'.yes m rfl).1)
 | some m=>
   cases r' with
   | none=>exact absurd (h.yes m rfl).2.1 (h'.no rfl m (h.yes m rfl).1)
   | some m'=>
     obtain ⟨a1,a2,a3⟩:=h.yes m rfl
     obtain ⟨b1,b2,b3⟩:=h'.yes m' rfl
     rw [bef_tri (b3 m a1 a2) (a3 m' b1 b2)]
def fstStep (st:V3→Int)(n:Int)(r:Option V3)(p:Box):Option V3:=
 bif decide (st p.min=n) && (match r with | none=>true | some m=>bef p.min m) then some p.min else r
def fstG (st:V3→Int)(n:Int)(ps:List Box):Option V3:=ps.foldl (fstStep st n) none
theorem fst_go (st:V3→Int)(n:Int):∀ (ps done:List Box) (r:Option V3),
   ((r=none→∀ p∈done,st p.min≠n)∧∀ m,r=some m→(∃ p∈done,p.min=m)∧st m=n∧∀ p∈done,st p.min=n→bef p.min m=false)→
   ((ps.foldl (fstStep st n) r=none→∀ p∈done ++ ps,st p.min≠n)∧∀ m,ps.foldl (fstStep st n) r=some m→(∃ p∈done ++ ps,p.min=m)∧st m=n∧∀ p∈done ++ ps,st p.min=n→bef p.min m=false)
 | [],done,r,h=>by simpa using h
 | q :: ps,done,r,h=>by
   have:=fst_go st n ps (done ++ [q]) (fstStep st n r q) ?_
   · rw [List.append_assoc,List.singleton_append] at this
     exact this
   · unfold fstStep
     by_cases hq:st q.min=n
     · rw [decide_eq_true hq,Bool.true_and]
       cases r with
       | none=>
         simp only [cond_true]
         refine ⟨fun hh=>(by cases hh),fun m hm=>?_⟩
         injection hm with hm
         subst hm
         refine ⟨⟨q,by simp,rfl⟩,hq,fun p hp hn=>?_⟩
         rcases List.mem_append.1 hp with hp | hp
         · exact absurd hn (h.1 rfl p hp)
         · rw [List.mem_singleton.1 hp]; exact bef_irr _
       | some m=>
         obtain ⟨g1,g2,g3⟩:=h.2 m rfl
         cases hb:bef q.min m with
         | true=>
           simp only [hb,cond_true]
           refine ⟨fun hh=>(by cases hh),fun m' hm=>?_⟩
           injection hm with hm
           subst hm
           refine ⟨⟨q,by simp,rfl⟩,hq,fun p hp hn=>?_⟩
           rcases List.mem_append.1 hp with hp | hp
           · cases h4:bef p.min q.min with
             | false=>rfl
             | true=>have:=bef_trans h4 hb; rw [g3 p hp hn] at this; cases this
           · rw [List.mem_singleton.1 hp]; exact bef_irr _
         | false=>
           simp only [hb,cond_false]
           refine ⟨fun hh=>(by cases hh),fun m' hm=>?_⟩
           injection hm with hm
           subst hm
           obtain ⟨p,hp,he⟩:=g1
           refine ⟨⟨p,by simp [hp],he⟩,g2,fun p hp hn=>?_⟩
           rcases List.mem_append.1 hp with hp | hp
           · exact g3 p hp hn
           · rw [List.mem_singleton.1 hp]; exact hb
     · rw [decide_eq_false hq,Bool.false_and,cond_false]
       refine ⟨fun hh p hp=>?_,fun m hm=>?_⟩
       · rcases List.mem_append.1 hp with hp | hp
         · exact h.1 hh p hp
         · rw [List.mem_singleton.1 hp]; exact hq
       · obtain ⟨⟨p,hp,he⟩,g2,g3⟩:=h.2 m hm
         refine ⟨⟨p,by simp [hp],he⟩,g2,fun p hp hn=>?_⟩
         rcases List.mem_append.1 hp with hp | hp
         · exact g3 p hp hn
         · rw [List.mem_singleton.1 hp] at hn; exact absurd hn hq
structure Divides (b:Box) (st:V3→Int) (ps:List Box):Prop where
 inn:∀ p∈ps,b.has p.min=true
 cov:∀ c,b.has c=true→∃ p∈ps,p.has c=true∧st c=st p.min
theorem fst_least {b:Box}{st:V3→Int}{n:Int}{ps:List Box}(h:Divides b st ps):Least b st n (fstG st n ps):=by
 obtain ⟨g1,g2⟩:=fst_go st n ps [] none ⟨fun _ p hp=>(List.not_mem_nil hp).elim,fun m hm=>(by cases hm)⟩
 rw [List.nil_append] at g1 g2
 refine ⟨fun hn c hc hs=>?_,fun m hm=>?_⟩
 · obtain ⟨p,hp,hpc,he⟩:=h.cov c hc
   exact g1 hn p hp (he ▸ hs)
 · obtain ⟨⟨p,hp,he⟩,k2,k3⟩:=g2 m hm
   subst he
   refine ⟨h.inn p hp,k2,fun c hc hs=>?_⟩
   obtain ⟨q,hq,hqc,hqe⟩:=h.cov c hc
   have k4:=k3 q hq (hqe ▸ hs)
   have k5:=has_iff.1 hqc
   cases h6:bef c p.min with
   | false=>rfl
   | true=>
     have h7:bef c q.min=false:=bef_le k5.1 k5.2.2.1 k5.2.2.2.2.1
     by_cases h8:bef p.min q.min=true
     · have:=bef_trans h6 h8; rw [h7] at this; cases this
     · have h9:bef p.min q.min=false:=by simpa using h8
       have:=bef_tri k4 h9
       rw [this] at h7; rw [h7] at h6; cases h6
def prsI:List Int→List (Int×Int)
 | a :: b :: r=>(a,b) :: prsI (b :: r)
 | _=>[]
def gridB (xs ys zs:List Int):List Box:=
 (prsI zs).flatMap fun z=>(prsI ys).flatMap fun y=>(prsI xs).map fun x=>⟨x.1,y.1,z.1,x.2,y.2,z.2⟩
theorem mem_gridB {xs ys zs:List Int}{p:Box} : p∈gridB xs ys zs↔(p.x0,p.x1)∈prsI xs∧(p.y0,p.y1)∈prsI ys∧(p.z0,p.z1)∈prsI zs:=by
 simp only [gridB,List.mem_flatMap,List.mem_map]
 constructor
 · rintro ⟨z,hz,y,hy,x,hx,rfl⟩
   exact ⟨hx,hy,hz⟩
 · rintro ⟨hx,hy,hz⟩
   exact ⟨_,hz,_,hy,_,hx,rfl⟩
structure Cuts (lo hi:Int) (l:List Int):Prop where
 inc:l.Pairwise (· < ·)
 fst:l.head?=some lo
 lst:l.getLast?=some hi
 two:lo < hi
theorem prsI_between:∀ {l:List Int},l.Pairwise (· < ·)→∀ {u v:Int},(u,v)∈prsI l→u∈l∧v∈l∧u < v∧∀ n∈l,n≤u∨v≤n
 | [],_,u,v,hm=>by simp [prsI] at hm
 | [a],_,u,v,hm=>by simp [prsI] at hm
 | a :: b :: r,h,u,v,hm=>by
   simp only [prsI,List.mem_cons] at hm
   have h1:=List.pairwise_cons.1 h
   rcases hm with hm | hm
   · injection hm with hu hv
     subst hu; subst hv
     refine ⟨by simp,by simp,h1.1 _ (by simp),fun n hn=>?_⟩
     rcases List.mem_cons.1 hn with hn | hn
     · omega
     · rcases List.mem_cons.1 hn with hn | hn
       · omega
       · have:=(List.pairwise_cons.1 h1.2).1 n hn; omega
   · obtain ⟨k1,k2,k3,k4⟩:=prsI_between h1.2 hm
     refine ⟨List.mem_cons_of_mem _ k1,List.mem_cons_of_mem _ k2,k3,fun n hn=>?_⟩
     rcases List.mem_cons.1 hn with hn | hn
     · have:=h1.1 u k1; omega
     · exact k4 n hn
theorem prsI_find:∀ {l:List Int} {lo hi x:Int},l.head?=some lo→l.getLast?=some hi→lo≤x→x < hi→∃ u v,(u,v)∈prsI l∧u≤x∧x < v
 | [],lo,hi,x,h1,h2,_,_=>by cases h1
 | [a],lo,hi,x,h1,h2,h3,h4=>by
   simp at h1 h2; omega
 | a :: b :: r,lo,hi,x,h1,h2,h3,h4=>by
   simp only [List.head?_cons,Option.some.injEq] at h1
   by_cases h:x < b
   · exact ⟨a,b,by simp [prsI],by omega,h⟩
   · have h2':(b :: r).getLast?=some hi:=by rwa [List.getLast?_cons_cons] at h2
     obtain ⟨u,v,k1,k2,k3⟩:=prsI_find (l:=b :: r) (lo:=b) rfl h2' (by omega) h4
     exact ⟨u,v,by simp [prsI,k1],k2,k3⟩
theorem cuts_range {lo hi:Int}{l:List Int}(h:Cuts lo hi l){n:Int}(hn:n∈l):lo≤n∧n≤hi:=by
 have hinc:=h.inc
 constructor
 · have h1:=h.fst
   cases l with
   | nil=>cases h1
   | cons a r=>
     simp only [List.head?_cons,Option.some.injEq] at h1
     subst h1
     rcases List.mem_cons.1 hn with hn | hn
     · omega
     · have:=(List.pairwise_cons.1 hinc).1 n hn; omega
 · have h1:=h.lst
   obtain ⟨r,hr⟩:=List.getLast?_eq_some_iff.1 h1
   subst hr
   rcases List.mem_append.1 hn with hn | hn
   · have:=(List.pairwise_append.1 hinc).2.2 n hn hi (by simp); omega
   · rw [List.mem_singleton.1 hn]; omega
theorem cut_same {lo hi:Int}{l:List Int}(h:Cuts lo hi l){a b:Int}(ha:lo < a→a < hi→a∈l)(hb:lo < b→b < hi→b∈l){u v x:Int}(hm:(u,v)∈prsI l)(hu:u≤x)(hv:x < v):(a≤x↔a≤u)∧(x < b↔u < b):=by
 obtain ⟨k1,k2,k3,k4⟩:=prsI_between h.inc hm
 have r1:=cuts_range h k1
 have r2:=cuts_range h k2
 constructor
 · constructor
   · intro hax
     by_cases h1:lo < a
     · rcases k4 a (ha h1 (by omega)) with k | k<;>omega
     · omega
   · intro; omega
 · constructor
   · intro; omega
   · intro hub
     by_cases h1:b < hi
     · rcases k4 b (hb (by omega) h1) with k | k<;>omega
     · omega
structure GridOk (l:List Ev) (b:Box) (xs ys zs:List Int):Prop where
 cx:Cuts b.x0 b.x1 xs
 cy:Cuts b.y0 b.y1 ys
 cz:Cuts b.z0 b.z1 zs
 ex:∀ e∈l,(b.x0 < e.box.x0→e.box.x0 < b.x1→e.box.x0∈xs)∧(b.x0 < e.box.x1→e.box.x1 < b.x1→e.box.x1∈xs)
 ey:∀ e∈l,(b.y0 < e.box.y0→e.box.y0 < b.y1→e.box.y0∈ys)∧(b.y0 < e.box.y1→e.box.y1 < b.y1→e.box.y1∈ys)
 ez:∀ e∈l,(b.z0 < e.box.z0→e.box.z0 < b.z1→e.box.z0∈zs)∧(b.z0 < e.box.z1→e.box.z1 < b.z1→e.box.z1∈zs)
theorem stAt_congr {p q:V3} : ∀ {l:List Ev},(∀ e∈l,e.box.has p=e.box.has q)→∀ s,l.foldl (stStep p) s=l.foldl (stStep q) s
 | [],_,s=>rfl
 | e :: r,h,s=>by
   have:stStep p s e=stStep q s e:=by unfold stStep; rw [h e (by simp)]
   rw [List.foldl_cons,List.foldl_cons,this]
   exact stAt_congr (fun x hx=>h x (List.mem_cons_of_mem _ hx)) _
section
variable {l:List Ev} {b:Box} {xs ys zs:List Int}
theorem GridOk.same (h:GridOk l b xs ys zs){p:Box}(hp:p∈gridB xs ys zs){c:V3}(hc:p.has c=true):stAt l c=stAt l p.min:=by
 obtain ⟨hx,hy,hz⟩:=mem_gridB.1 hp
 obtain ⟨c1,c2,c3,c4,c5,c6⟩:=has_iff.1 hc
 refine stAt_congr (fun e he=>?_) 0
 have gx:=cut_same h.cx (h.ex e he).1 (h.ex e he).2 hx c1 c2
 have gy:=cut_same h.cy (h.ey e he).1 (h.ey e he).2 hy c3 c4
 have gz:=cut_same h.cz (h.ez e he).1 (h.ez e he).2 hz c5 c6
 rw [Bool.eq_iff_iff,has_iff,has_iff,gx.1,gx.2,gy.1,gy.2,gz.1,gz.2]
 rfl
theorem GridOk.divides (h:GridOk l b xs ys zs):Divides b (stAt l) (gridB xs ys zs):=by
 refine ⟨fun p hp=>?_,fun c hc=>?_⟩
 · obtain ⟨hx,hy,hz⟩:=mem_gridB.1 hp
   obtain ⟨x1,x2,x3,_⟩:=prsI_between h.cx.inc hx
   obtain ⟨y1,y2,y3,_⟩:=prsI_between h.cy.inc hy
   obtain ⟨z1,z2,z3,_⟩:=prsI_between h.cz.inc hz
   have a1:=cuts_range h.cx x1; have a2:=cuts_range h.cx x2
   have a3:=cuts_range h.cy y1; have a4:=cuts_range h.cy y2
   have a5:=cuts_range h.cz z1; have a6:=cuts_range h.cz z2
   exact has_iff.2 ⟨a1.1,show p.x0 < b.x1 by omega,a3.1,show p.y0 < b.y1 by omega,a5.1,show p.z0 < b.z1 by omega⟩
 · obtain ⟨c1,c2,c3,c4,c5,c6⟩:=has_iff.1 hc
   obtain ⟨xu,xv,x1,x2,x3⟩:=prsI_find h.cx.fst h.cx.lst c1 c2
   obtain ⟨yu,yv,y1,y2,y3⟩:=prsI_find h.cy.fst h.cy.lst c3 c4
   obtain ⟨zu,zv,z1,z2,z3⟩:=prsI_find h.cz.fst h.cz.lst c5 c6
   have hp:(⟨xu,yu,zu,xv,yv,zv⟩:Box)∈gridB xs ys zs:=mem_gridB.2 ⟨x1,y1,z1⟩
   have hh:(⟨xu,yu,zu,xv,yv,zv⟩:Box).has c=true:=has_iff.2 ⟨x2,x3,y2,y3,z2,z3⟩
   exact ⟨_,hp,hh,h.same hp hh⟩
end
theorem stAt_near {l:List Ev}{f:Ev→Bool}{p:V3}(h:∀ e∈l,f e=false→e.box.has p=false):stAt (l.filter f) p=stAt l p:=by
 unfold stAt
 generalize (0:Int)=s
 induction l generalizing s with
 | nil=>rfl
 | cons e r ih=>
   have ih':=fun s=>ih (fun x hx=>h x (List.mem_cons_of_mem _ hx)) s
   cases he:f e with
   | true=>rw [List.filter_cons_of_pos he,List.foldl_cons,List.foldl_cons]; exact ih' _
   | false=>
     rw [List.filter_cons_of_neg (by simp [he]),List.foldl_cons]
     have:stStep p s e=s:=by unfold stStep; rw [h e (by simp) he]; rfl
     rw [this]
     exact ih' s
def sumI (f:Int→Int):Int→Nat→Int
 | _,0=>0
 | a,k + 1=>f a + sumI f (a + 1) k
theorem sumI_add (f:Int→Int):∀ (j k:Nat) (a:Int),sumI f a (j + k)=sumI f a j + sumI f (a + j) k
 | 0,k,a=>by simp [sumI]
 | j + 1,k,a=>by
   rw [show j + 1 + k=(j + k) + 1 by omega]
   simp only [sumI]
   rw [sumI_add f j k (a + 1),show a + 1 + (j:Int)=a + ((j + 1:Nat):Int) by omega]
   omega
theorem sumI_const {f:Int→Int}{c:Int} : ∀ (k:Nat) (a:Int),(∀ x,a≤x→x < a + k→f x=c)→sumI f a k=k * c
 | 0,a,_=>by simp [sumI]
 | k + 1,a,h=>by
   simp only [sumI]
   rw [h a (by omega) (by omega),sumI_const k (a + 1) fun x h1 h2=>h x (by omega) (by omega)]
   rw [show ((k + 1:Nat):Int)=(k:Int) + 1 by omega,Int.add_mul]
   omega
theorem sumI_le {f g:Int→Int} : ∀ (k:Nat) (a:Int),(∀ x,a≤x→x < a + k→f x≤g x)→sumI f a k≤sumI g a k
 | 0,a,_=>by simp [sumI]
 | k + 1,a,h=>by
   simp only [sumI]
   have:=h a (by omega) (by omega)
   have:=sumI_le k (a + 1) fun x h1 h2=>h x (by omega) (by omega)
   omega
theorem sumI_congr {f g:Int→Int}(k:Nat)(a:Int)(h:∀ x,a≤x→x < a + k→f x=g x):sumI f a k=sumI g a k:=
 Int.le_antisymm (sumI_le k a fun x h1 h2=>Int.le_of_eq (h x h1 h2)) (sumI_le k a fun x h1 h2=>Int.le_of_eq (h x h1 h2).symm)
def sumL {α:Type}(f:α→Int):List α→Int
 | []=>0
 | a :: r=>f a + sumL f r
theorem sumL_append {α:Type}(f:α→Int):∀ (l m:List α),sumL f (l ++ m)=sumL f l + sumL f m
 | [],m=>by simp [sumL]
 | a :: l,m=>by simp only [List.cons_append,sumL,sumL_append f l m]; omega
theorem sumL_flatMap {α β:Type}(f:β→Int)(g:α→List β):∀ l:List α,sumL f (l.flatMap g)=sumL (fun a=>sumL f (g a)) l
 | []=>rfl
 | a :: l=>by rw [List.flatMap_cons,sumL_append,sumL_flatMap f g l]; rfl
theorem sumL_map {α β:Type}(f:β→Int)(g:α→β):∀ l:List α,sumL f (l.map g)=sumL (fun a=>f (g a)) l
 | []=>rfl
 | a :: l=>by rw [List.map_cons,sumL,sumL_map f g l]; rfl
theorem sumL_congr {α:Type}{f g:α→Int} : ∀ {l:List α},(∀ a∈l,f a=g a)→sumL f l=sumL g l
 | [],_=>rfl
 | a :: l,h=>by
   simp only [sumL]
   rw [h a (by simp),sumL_congr fun x hx=>h x (List.mem_cons_of_mem _ hx)]
theorem sumL_mul {α:Type}(f:α→Int)(c:Int):∀ l:List α,sumL (fun a=>f a * c) l=sumL f l * c
 | []=>by simp [sumL]
 | a :: l=>by simp only [sumL,sumL_mul f c l,Int.add_mul]
theorem sum_parts {f:Int→Int} : ∀ {l:List Int} {lo hi:Int},l.Pairwise (· < ·)→l.head?=some lo→l.getLast?=some hi→(∀ u v,(u,v)∈prsI l→∀ x,u≤x→x < v→f x=f u)→sumL (fun p=>(p.2 - p.1) * f p.1) (prsI l)=sumI f lo (hi - lo).toNat
 | [],lo,hi,_,h1,_,_=>by cases h1
 | [a],lo,hi,_,h1,h2,_=>by
   simp at h1 h2
   subst h1; subst h2
   simp [prsI,sumL,sumI]
 | a :: b :: r,lo,hi,hp,h1,h2,h=>by
   simp only [List.head?_cons,Option.some.injEq] at h1
   subst h1
   have hp':=List.pairwise_cons.1 hp
   have h2':(b :: r).getLast?=some hi:=by rwa [List.getLast?_cons_cons] at h2
   have ih:=sum_parts (f:=f) (l:=b :: r) (lo:=b) hp'.2 rfl h2' fun u v hm=>h u v (by simp [prsI,hm])
   have hab:=hp'.1 b (by simp)
   have hbh:b≤hi:=by
     obtain ⟨s,hs⟩:=List.getLast?_eq_some_iff.1 h2'
     have:hi∈b :: r:=by rw [hs]; simp
     rcases List.mem_cons.1 this with k | k
     · omega
     · have:=(List.pairwise_cons.1 hp'.2).1 hi k; omega
   simp only [prsI,sumL]
   rw [ih,show (hi - a).toNat=(b - a).toNat + (hi - b).toNat by omega,sumI_add,sumI_const (c:=f a) _ _ fun x h3 h4=>h a b (by simp [prsI]) x h3 (by omega),show a + ((b - a).toNat:Int)=b by omega,show (((b - a).toNat:Nat):Int)=b - a by omega]
def boxVol (p:Box):Int:=(p.x1 - p.x0) * (p.y1 - p.y0) * (p.z1 - p.z0)
def isN (st:V3→Int)(n:Int)(c:V3):Int:=if st c=n then 1 else 0
def cellsN (st:V3→Int)(n:Int)(b:Box):Int:=sumI (fun z=>sumI (fun y=>sumI (fun x=>isN st n ⟨x,y,z⟩) b.x0 (b.x1 - b.x0).toNat) b.y0 (b.y1 - b.y0).toNat) b.z0 (b.z1 - b.z0).toNat
def volG (st:V3→Int)(n:Int)(ps:List Box):Int:=sumL (fun p=>boxVol p * isN st n p.min) ps
theorem vol_cells {l:List Ev}{b:Box}{xs ys zs:List Int}(h:GridOk l b xs ys zs)(n:Int):volG (stAt l) n (gridB xs ys zs)=cellsN (stAt l) n b:=by
 unfold volG cellsN gridB
 have same:∀ {x y z:Int×Int},x∈prsI xs→y∈prsI ys→z∈prsI zs→∀ a b c,x.1≤a→a < x.2→y.1≤b→b < y.2→z.1≤c→c < z.2→isN (stAt l) n ⟨a,b,c⟩=isN (stAt l) n ⟨x.1,y.1,z.1⟩:=by
   intro x y z hx hy hz a b c h1 h2 h3 h4 h5 h6
   have hp:(⟨x.1,y.1,z.1,x.2,y.2,z.2⟩:Box)∈gridB xs ys zs:=mem_gridB.2 ⟨hx,hy,hz⟩
   have hh:(⟨x.1,y.1,z.1,x.2,y.2,z.2⟩:Box).has ⟨a,b,c⟩=true:=has_iff.2 ⟨h1,h2,h3,h4,h5,h6⟩
   unfold isN
   rw [h.same hp hh]
   rfl
 have lt:∀ {lo hi:Int} {l:List Int},Cuts lo hi l→∀ {p:Int×Int},p∈prsI l→p.1 < p.2:=fun {_ _ _} hc {p} hp=>(prsI_between hc.inc (u:=p.1) (v:=p.2) hp).2.2.1
 rw [sumL_flatMap,←sum_parts (f:=fun z=>sumI (fun y=>sumI (fun x=>isN (stAt l) n ⟨x,y,z⟩) b.x0 (b.x1 - b.x0).toNat) b.y0 (b.y1 - b.y0).toNat) h.cz.inc h.cz.fst h.cz.lst]
 · refine sumL_congr fun z hz=>?_
   rw [sumL_flatMap,←sum_parts (f:=fun y=>sumI (fun x=>isN (stAt l) n ⟨x,y,z.1⟩) b.x0 (b.x1 - b.x0).toNat) h.cy.inc h.cy.fst h.cy.lst]
   · rw [Int.mul_comm,←sumL_mul]
     refine sumL_congr fun y hy=>?_
     rw [sumL_map,←sum_parts (f:=fun x=>isN (stAt l) n ⟨x,y.1,z.1⟩) h.cx.inc h.cx.fst h.cx.lst]
     · rw [Int.mul_assoc,Int.mul_comm,Int.mul_assoc,←sumL_mul]
       refine sumL_congr fun x hx=>?_
       simp only [boxVol,Box.min]
       grind
     · intro u v hm x h1 h2
       exact same hm hy hz x y.1 z.1 h1 h2 (by omega) (lt h.cy hy) (by omega) (lt h.cz hz)
   · intro u v hm y h1 h2
     refine sumI_congr _ _ fun x hx1 hx2=>?_
     obtain ⟨a,c,k1,k2,k3⟩:=prsI_find h.cx.fst h.cx.lst (x:=x) hx1 (by have:=h.cx.two; omega)
     rw [same k1 hm hz x y z.1 k2 k3 h1 h2 (by omega) (lt h.cz hz),same k1 hm hz x u z.1 k2 k3 (by omega) (lt h.cy hm) (by omega) (lt h.cz hz)]
 · intro u v hm z h1 h2
   refine sumI_congr _ _ fun y hy1 hy2=>sumI_congr _ _ fun x hx1 hx2=>?_
   obtain ⟨a,c,k1,k2,k3⟩:=prsI_find h.cx.fst h.cx.lst (x:=x) hx1 (by have:=h.cx.two; omega)
   obtain ⟨a',c',j1,j2,j3⟩:=prsI_find h.cy.fst h.cy.lst (x:=y) hy1 (by have:=h.cy.two; omega)
   rw [same k1 j1 hm x y z k2 k3 j2 j3 h1 h2,same k1 j1 hm x y u k2 k3 j2 j3 (by omega) (lt h.cz hm)]
theorem isN_nn (st:V3→Int)(n:Int)(c:V3):0≤isN st n c:=by unfold isN; split<;>omega
theorem cells_le {st st':V3→Int}{n:Int}{b:Box}(h:∀ c,b.has c=true→st c=n→st' c=n)(hb:b.x0 < b.x1∧b.y0 < b.y1∧b.z0 < b.z1):cellsN st n b≤cellsN st' n b:=by
 refine sumI_le _ _ fun z h1 h2=>sumI_le _ _ fun y h3 h4=>sumI_le _ _ fun x h5 h6=>?_
 unfold isN
 by_cases k:st ⟨x,y,z⟩=n
 · rw [if_pos k,if_pos (h ⟨x,y,z⟩ (has_iff.2 ⟨h5,by simp only; omega,h3,by simp only; omega,h1,by simp only; omega⟩) k)]
   omega
 · rw [if_neg k]; split<;>omega
theorem sumI_nn {f:Int→Int}(h:∀ x,0≤f x):∀ (k:Nat) (a:Int),0≤sumI f a k
 | 0,a=>by simp [sumI]
 | k + 1,a=>by simp only [sumI]; have:=h a; have:=sumI_nn h k (a + 1); omega
theorem cells_zero {st:V3→Int}{n:Int}{b:Box}(h:∀ c,b.has c=true→st c≠n)(hb:b.x0 < b.x1∧b.y0 < b.y1∧b.z0 < b.z1):cellsN st n b=0:=by
 have h1:=cells_le (st':=fun _=>n + 1) (n:=n) (fun c hc hs=>absurd hs (h c hc)) hb
 have h2:cellsN (fun _=>n + 1) n b=0:=by
   unfold cellsN
   have:∀ c:V3,isN (fun _=>n + 1) n c=0:=fun c=>by unfold isN; rw [if_neg (by show ¬ (n + 1=n); omega)]
   rw [sumI_const (c:=0) _ _ fun z _ _=>?_]
   · exact Int.mul_zero _
   · rw [sumI_const (c:=0) _ _ fun y _ _=>?_]
     · exact Int.mul_zero _
     · rw [sumI_const (c:=0) _ _ fun x _ _=>this _]
       exact Int.mul_zero _
 have h3:0≤cellsN st n b:=sumI_nn (fun z=>sumI_nn (fun y=>sumI_nn (fun x=>isN_nn _ _ _) _ _) _ _) _ _
 omega
end Tz
