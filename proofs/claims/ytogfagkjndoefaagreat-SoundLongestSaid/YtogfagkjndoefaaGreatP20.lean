/- part P20; no conditions. -/
import Derived.Test.YtogfagkjndoefaaGreatS1
set_option linter.all false
open Gs Go
namespace Tz
structure V3 where
 x:Int
 y:Int
 z:Int
structure Ev where
 src:ByteArray
 box:Box
 st:Int
def Box.has (b:Box)(p:V3):Bool:=((((decide (b.x0≤p.x) && decide (p.x < b.x1)) && decide (b.y0≤p.y)) && decide (p.y < b.y1)) && decide (b.z0≤p.z)) && decide (p.z < b.z1)
theorem has_iff {b:Box}{p:V3} : b.has p=true↔b.x0≤p.x∧p.x < b.x1∧b.y0≤p.y∧p.y < b.y1∧b.z0≤p.z∧p.z < b.z1:=by
 simp [Box.has,and_assoc]
def Box.min (b:Box):V3:=⟨b.x0,b.y0,b.z0⟩
def joinS (a b:Int):Int:=if a=0∨a=b then b else if b=0 then a else 3
def stStep (p:V3)(s:Int)(x:Ev):Int:=bif x.box.has p then joinS s x.st else s
def stAt (l:List Ev)(p:V3):Int:=l.foldl (stStep p) 0
def bef (a b:V3):Bool:=if a.z=b.z then (if a.y=b.y then decide (a.x < b.x) else decide (a.y < b.y)) else decide (a.z < b.z)
theorem bef_iff {a b:V3} : bef a b=true↔a.z < b.z∨a.z=b.z∧(a.y < b.y∨a.y=b.y∧a.x < b.x):=by
 unfold bef
 split
 · split<;>simp_all
 · simp only [decide_eq_true_eq]; omega
theorem bef_tri {a b:V3}(h1:bef a b=false)(h2:bef b a=false):a=b:=by
 have g1:¬(bef a b=true):=by rw [h1]; exact Bool.false_ne_true
 have g2:¬(bef b a=true):=by rw [h2]; exact Bool.false_ne_true
 rw [bef_iff] at g1 g2
 cases a; cases b
 simp only at g1 g2
 simp only [V3.mk.injEq]
 omega
structure Least (b:Box) (st:V3→Int) (n:Int) (r:Option V3):Prop where
 no:r=none→∀ p,b.has p=true→st p≠n
 yes:∀ m,r=some m→b.has m=true∧st m=n∧∀ p,b.has p=true→st p=n→bef p m=false
theorem Least.eq {b:Box}{st:V3→Int}{n:Int}{r r':Option V3}(h:Least b st n r)(h':Least b st n r'):r=r':=by
 cases r with
 | none=>
   cases r' with
   | none=>rfl
   | some m=>exact absurd (h'.yes m rfl).2.1 (h.no rfl m (h'.yes m rfl).1)
 | some m=>
   cases r' with
   | none=>exact absurd (h.yes m rfl).2.1 (h'.no rfl m (h.yes m rfl).1)
   | some m'=>
     obtain ⟨a1,a2,a3⟩:=h.yes m rfl
     obtain ⟨b1,b2,b3⟩:=h'.yes m' rfl
     rw [bef_tri (b3 m a1 a2) (a3 m' b1 b2)]
structure Divides (b:Box) (st:V3→Int) (ps:List Box):Prop where
 inn:∀ p∈ps,b.has p.min=true
 cov:∀ c,b.has c=true→∃ p∈ps,p.has c=true∧st c=st p.min
def prsI:List Int→List (Int×Int)
 | a :: b :: r=>(a,b) :: prsI (b :: r)
 | _=>[]
def gridB (xs ys zs:List Int):List Box:=
 (prsI zs).flatMap fun z=>(prsI ys).flatMap fun y=>(prsI xs).map fun x=>⟨x.1,y.1,z.1,x.2,y.2,z.2⟩
theorem mem_gridB {xs ys zs:List Int}{p:Box} : p∈gridB xs ys zs↔(p.x0,p.x1)∈prsI xs∧(p.y0,p.y1)∈prsI ys∧(p.z0,p.z1)∈prsI zs:=by
 simp only [gridB,List.mem_flatMap,List.mem_map]
 constructor
 · rintro ⟨z,hz,y,hy,x,hx,rfl⟩
   exact ⟨hx,hy,hz⟩
 · rintro ⟨hx,hy,hz⟩
   exact ⟨_,hz,_,hy,_,hx,rfl⟩
structure Cuts (lo hi:Int) (l:List Int):Prop where
 inc:l.Pairwise (· < ·)
 fst:l.head?=some lo
 lst:l.getLast?=some hi
 two:lo < hi
theorem prsI_between:∀ {l:List Int},l.Pairwise (· < ·)→∀ {u v:Int},(u,v)∈prsI l→u∈l∧v∈l∧u < v∧∀ n∈l,n≤u∨v≤n
 | [],_,u,v,hm=>by simp [prsI] at hm
 | [a],_,u,v,hm=>by simp [prsI] at hm
 | a :: b :: r,h,u,v,hm=>by
   simp only [prsI,List.mem_cons] at hm
   have h1:=List.pairwise_cons.1 h
   rcases hm with hm | hm
   · injection hm with hu hv
     subst hu; subst hv
     refine ⟨by simp,by simp,h1.1 _ (by simp),fun n hn=>?_⟩
     rcases List.mem_cons.1 hn with hn | hn
     · omega
     · rcases List.mem_cons.1 hn with hn | hn
       · omega
       · have:=(List.pairwise_cons.1 h1.2).1 n hn; omega
   · obtain ⟨k1,k2,k3,k4⟩:=prsI_between h1.2 hm
     refine ⟨List.mem_cons_of_mem _ k1,List.mem_cons_of_mem _ k2,k3,fun n hn=>?_⟩
     rcases List.mem_cons.1 hn with hn | hn
     · have:=h1.1 u k1; omega
     · exact k4 n hn
theorem cuts_range {lo hi:Int}{l:List Int}(h:Cuts lo hi l){n:Int}(hn:n∈l):lo≤n∧n≤hi:=by
 have hinc:=h.inc
 constructor
 · have h1:=h.fst
   cases l with
   | nil=>cases h1
   | cons a r=>
     simp only [List.head?_cons,Option.some.injEq] at h1
     subst h1
     rcases List.mem_cons.1 hn with hn | hn
     · omega
     · have:=(List.pairwise_cons.1 hinc).1 n hn; omega
 · have h1:=h.lst
   obtain ⟨r,hr⟩:=List.getLast?_eq_some_iff.1 h1
   subst hr
   rcases List.mem_append.1 hn with hn | hn
   · have:=(List.pairwise_append.1 hinc).2.2 n hn hi (by simp); omega
   · rw [List.mem_singleton.1 hn]; omega
theorem cut_same {lo hi:Int}{l:List Int}(h:Cuts lo hi l){a b:Int}(ha:lo < a→a < hi→a∈l)(hb:lo < b→b < hi→b∈l){u v x:Int}(hm:(u,v)∈prsI l)(hu:u≤x)(hv:x < v):(a≤x↔a≤u)∧(x < b↔u < b):=by
 obtain ⟨k1,k2,k3,k4⟩:=prsI_between h.inc hm
 have r1:=cuts_range h k1
 have r2:=cuts_range h k2
 constructor
 · constructor
   · intro hax
     by_cases h1:lo < a
     · rcases k4 a (ha h1 (by omega)) with k | k<;>omega
     · omega
   · intro; omega
 · constructor
   · intro; omega
   · intro hub
     by_cases h1:b < hi
     · rcases k4 b (hb (by omega) h1) with k | k<;>omega
     · omega
structure GridOk (l:List Ev) (b:Box) (xs ys zs:List Int):Prop where
 cx:Cuts b.x0 b.x1 xs
 cy:Cuts b.y0 b.y1 ys
 cz:Cuts b.z0 b.z1 zs
 ex:∀ e∈l,(b.x0 < e.box.x0→e.box.x0 < b.x1→e.box.x0∈xs)∧(b.x0 < e.box.x1→e.box.x1 < b.x1→e.box.x1∈xs)
 ey:∀ e∈l,(b.y0 < e.box.y0→e.box.y0 < b.y1→e.box.y0∈ys)∧(b.y0 < e.box.y1→e.box.y1 < b.y1→e.box.y1∈ys)
 ez:∀ e∈l,(b.z0 < e.box.z0→e.box.z0 < b.z1→e.box.z0∈zs)∧(b.z0 < e.box.z1→e.box.z1 < b.z1→e.box.z1∈zs)
theorem stAt_congr {p q:V3} : ∀ {l:List Ev},(∀ e∈l,e.box.has p=e.box.has q)→∀ s,l.foldl (stStep p) s=l.foldl (stStep q) s
 | [],_,s=>rfl
 | e :: r,h,s=>by
   have:stStep p s e=stStep q s e:=by unfold stStep; rw [h e (by simp)]
   rw [List.foldl_cons,List.foldl_cons,this]
   exact stAt_congr (fun x hx=>h x (List.mem_cons_of_mem _ hx)) _
section
variable {l:List Ev} {b:Box} {xs ys zs:List Int}
theorem GridOk.same (h:GridOk l b xs ys zs){p:Box}(hp:p∈gridB xs ys zs){c:V3}(hc:p.has c=true):stAt l c=stAt l p.min:=by
 obtain ⟨hx,hy,hz⟩:=mem_gridB.1 hp
 obtain ⟨c1,c2,c3,c4,c5,c6⟩:=has_iff.1 hc
 refine stAt_congr (fun e he=>?_) 0
 have gx:=cut_same h.cx (h.ex e he).1 (h.ex e he).2 hx c1 c2
 have gy:=cut_same h.cy (h.ey e he).1 (h.ey e he).2 hy c3 c4
 have gz:=cut_same h.cz (h.ez e he).1 (h.ez e he).2 hz c5 c6
 rw [Bool.eq_iff_iff,has_iff,has_iff,gx.1,gx.2,gy.1,gy.2,gz.1,gz.2]
 rfl
end
end Tz
