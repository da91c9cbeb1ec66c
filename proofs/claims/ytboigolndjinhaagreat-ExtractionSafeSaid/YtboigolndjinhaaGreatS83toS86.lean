/- part S83; part S84; part S85; part S86; no conditions. -/
import Derived.Test.YtboigolndjinhaaGreatS77toS82
import Derived.Test.YtboigolndjinhaaGreatS0A
set_option linter.all false
set_option maxRecDepth 100000
open Gs Go
namespace Tz.C18
abbrev gl (s:Site)(tk:List ByteArray):List D:=s.blocks.map fun b=>.bool (taken tk b)
structure EnvS (s:Site) (ch:List Int) (tk:List ByteArray) (i p:Nat) (g:List D) (e:Env) (H:Heap):Prop where
 h1:Gs.get e 1 = .fz false 1 (ch.map int)
 h2:Gs.get e 2 = .ptr 2 0
 h5:Gs.get e 5 = .ow 1005
 h6:Gs.get e 6 = .ow 1034
 h7:Gs.get e 7=int i
 H2:hget H 2=some (.box s.cells false)
 H5:hget H 1005=some (.row true 1 (tk.map .str) p true)
 H6:hget H 1034=some (.row false 1 g 0 true)
variable (s:Site) (ch:List Int) (tk:List ByteArray) (i p:Nat)
end Tz.C18
set_option maxRecDepth 100000
open Gs Go
namespace Tz.C18
variable (s:Site) (ch:List Int) (tk:List ByteArray) (i p:Nat)
end Tz.C18
set_option maxRecDepth 100000
open Gs Go
namespace Tz.C18
abbrev lNm (s:Site)(tk:List ByteArray):List ByteArray:=namesOf (possible s tk) s.blocks
def pick (s:Site)(tk:List ByteArray)(c:Int):Nat:=(IntKind.u64.wrap c).toNat % (lNm s tk).length
theorem hang_none {s:Site}{tk:List ByteArray}(h:Inv s tk):hangR s tk=none:=by
 refine List.find?_eq_none.2 fun x hx hp=>?_
 unfold firstP at hp
 simp only [Bool.and_eq_true,Bool.not_eq_true'] at hp
 rw [h.hang x hx hp.1.2] at hp
 exact absurd hp.2 (by simp)
end Tz.C18
set_option maxRecDepth 100000
open Gs Go
namespace Tz.C18
def sumR (lo:Int):Nat→(Int→Int)→Int
 | 0,_=>0
 | n + 1,f=>sumR lo n f + f (lo + n)
theorem sumR_mulL (lo c:Int)(f:Int→Int):∀ n,sumR lo n (fun i=>c * f i)=c * sumR lo n f
 | 0=>by simp [sumR]
 | n + 1=>by simp only [sumR]; rw [sumR_mulL lo c f n,Int.mul_add]
theorem sumR_one (lo:Int):∀ n:Nat,sumR lo n (fun _=>1)=n
 | 0=>rfl
 | n + 1=>by simp only [sumR]; rw [sumR_one lo n]; omega
abbrev F3:=Int→Int→Int→Int
def pts (c:Box)(f:F3):Int:=sumR c.x0 (c.x1 - c.x0).toNat fun x=>sumR c.y0 (c.y1 - c.y0).toNat fun y=>sumR c.z0 (c.z1 - c.z0).toNat fun z=>f x y z
structure In3 (c:Box) (x y z:Int):Prop where
 x0:c.x0≤x
 x1:x < c.x1
 y0:c.y0≤y
 y1:y < c.y1
 z0:c.z0≤z
 z1:z < c.z1
def len (a b:Int):Int:=max 0 (b - a)
def vol (c:Box):Int:=len c.x0 c.x1 * len c.y0 c.y1 * len c.z0 c.z1
theorem pts_one (c:Box):pts c (fun _ _ _=>1)=vol c:=by
 unfold pts
 simp only [sumR_one]
 have h1:∀ k:Int,(fun _:Int=>k)=fun i=>k * (fun _=>1:Int→Int) i:=fun k=>by funext i; simp
 rw [h1 ((c.z1 - c.z0).toNat:Int),sumR_mulL,sumR_one,h1,sumR_mulL,sumR_one]
 have h2:∀ a b:Int,(((b - a).toNat:Nat):Int)=len a b:=fun a b=>by unfold len; omega
 rw [h2,h2,h2]
 unfold vol
 rw [Int.mul_comm,Int.mul_comm (len c.z0 c.z1),←Int.mul_assoc]
end Tz.C18
