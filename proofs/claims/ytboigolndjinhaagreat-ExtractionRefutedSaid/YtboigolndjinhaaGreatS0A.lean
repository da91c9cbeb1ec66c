/- A closed run of the evaluator; no conditions. -/
import Derived.Test.YtboigolndjinhaaGreatGsF
import Derived.Test.YtboigolndjinhaaGreatTab
import Derived.ProofKit
set_option linter.all false
set_option maxRecDepth 100000
open Gs Go
namespace Tz.Aw
def site:D:=.agg [.int .i64 0,.int .i64 0,.int .i64 0,.int .i64 100,.int .i64 100,.int .i64 40,.bool true,.bool false,.bool false,.bool false,.fz false 2 [.agg [.str ⟨#[108,111,119]⟩,.int .i64 0],.agg [.str ⟨#[104,105,103,104]⟩,.int .i64 20]],.fz false 5 [.agg [.str ⟨#[106]⟩,.int .i64 0,.int .i64 50,.int .i64 0,.int .i64 40]],.fz true 4 [],.fz false 3 [.agg [.str ⟨#[108,111,119,101,114]⟩,.int .i64 0,.int .i64 20],.agg [.str ⟨#[117,112,112,101,114]⟩,.int .i64 20,.int .i64 40]],.fz false 7 [.agg [.str ⟨#[97]⟩,.int .i64 50,.int .i64 0,.int .i64 20,.int .i64 100,.int .i64 100,.int .i64 40],.agg [.str ⟨#[98]⟩,.int .i64 50,.int .i64 0,.int .i64 0,.int .i64 100,.int .i64 100,.int .i64 20],.agg [.str ⟨#[99]⟩,.int .i64 0,.int .i64 0,.int .i64 0,.int .i64 50,.int .i64 100,.int .i64 20]],.int .i64 0,.int .i64 0,.fz true 5 [],.int .i64 2700]
def surv:D:=.agg ((match site with | .agg cs=>cs | _=>[]).take 13)
def a:D:=.str ⟨#[97]⟩
def b:D:=.str ⟨#[98]⟩
def c:D:=.str ⟨#[99]⟩
def nil1:D:=.fz true 1 []
def lst (l:List D):D:=.fz false 1 l
def lsz (l:List D):D:=.fz true 1 l
def tab:D:=.agg [.int .u8 0,.int .u8 0,.int .u8 0,.int .u8 0,.int .u8 0,.int .u8 0,.int .u8 0,.int .u8 0,.int .u8 0,.int .u8 0,.int .u8 0,.int .u8 0,.int .u8 0,.int .u8 0,.int .u8 0,.int .u8 0,.int .u8 0,.int .u8 0,.int .u8 0,.int .u8 0,.int .u8 0,.int .u8 0,.int .u8 0,.int .u8 0,.int .u8 0,.int .u8 0,.int .u8 0,.int .u8 0,.int .u8 0,.int .u8 0,.int .u8 0,.int .u8 0,.int .u8 0,.int .u8 0,.int .u8 0,.int .u8 0,.int .u8 0,.int .u8 0,.int .u8 0,.int .u8 0,.int .u8 4,.int .u8 4,.int .u8 0,.int .u8 4,.int .u8 4,.int .u8 0,.int .u8 0,.int .u8 4,.int .u8 2,.int .u8 2,.int .u8 2,.int .u8 2,.int .u8 2,.int .u8 2,.int .u8 2,.int .u8 2,.int .u8 2,.int .u8 2,.int .u8 4,.int .u8 0,.int .u8 4,.int .u8 4,.int .u8 4,.int .u8 0,.int .u8 0,.int .u8 1,.int .u8 1,.int .u8 1,.int .u8 1,.int .u8 1,.int .u8 1,.int .u8 1,.int .u8 1,.int .u8 1,.int .u8 1,.int .u8 1,.int .u8 1,.int .u8 1,.int .u8 1,.int .u8 1,.int .u8 1,.int .u8 1,.int .u8 1,.int .u8 1,.int .u8 1,.int .u8 1,.int .u8 1,.int .u8 1,.int .u8 1,.int .u8 1,.int .u8 1,.int .u8 0,.int .u8 0,.int .u8 0,.int .u8 0,.int .u8 3,.int .u8 0,.int .u8 1,.int .u8 1,.int .u8 1,.int .u8 1,.int .u8 1,.int .u8 1,.int .u8 1,.int .u8 1,.int .u8 1,.int .u8 1,.int .u8 1,.int .u8 1,.int .u8 1,.int .u8 1,.int .u8 1,.int .u8 1,.int .u8 1,.int .u8 1,.int .u8 1,.int .u8 1,.int .u8 1,.int .u8 1,.int .u8 1,.int .u8 1,.int .u8 1,.int .u8 1,.int .u8 0,.int .u8 0,.int .u8 0,.int .u8 0,.int .u8 0,.int .u8 0,.int .u8 0,.int .u8 0,.int .u8 0,.int .u8 0,.int .u8 0,.int .u8 0,.int .u8 0,.int .u8 0,.int .u8 0,.int .u8 0,.int .u8 0,.int .u8 0,.int .u8 0,.int .u8 0,.int .u8 0,.int .u8 0,.int .u8 0,.int .u8 0,.int .u8 0,.int .u8 0,.int .u8 0,.int .u8 0,.int .u8 0,.int .u8 0,.int .u8 0,.int .u8 0,.int .u8 0,.int .u8 0,.int .u8 0,.int .u8 0,.int .u8 0,.int .u8 0,.int .u8 0,.int .u8 0,.int .u8 0,.int .u8 0,.int .u8 0,.int .u8 0,.int .u8 0,.int .u8 0,.int .u8 0,.int .u8 0,.int .u8 0,.int .u8 0,.int .u8 0,.int .u8 0,.int .u8 0,.int .u8 0,.int .u8 0,.int .u8 0,.int .u8 0,.int .u8 0,.int .u8 0,.int .u8 0,.int .u8 0,.int .u8 0,.int .u8 0,.int .u8 0,.int .u8 0,.int .u8 0,.int .u8 0,.int .u8 0,.int .u8 0,.int .u8 0,.int .u8 0,.int .u8 0,.int .u8 0,.int .u8 0,.int .u8 0,.int .u8 0,.int .u8 0,.int .u8 0,.int .u8 0,.int .u8 0,.int .u8 0,.int .u8 0,.int .u8 0,.int .u8 0,.int .u8 0,.int .u8 0,.int .u8 0,.int .u8 0,.int .u8 0,.int .u8 0,.int .u8 0,.int .u8 0,.int .u8 0,.int .u8 0,.int .u8 0,.int .u8 0,.int .u8 0,.int .u8 0,.int .u8 0,.int .u8 0,.int .u8 0,.int .u8 0,.int .u8 0,.int .u8 0,.int .u8 0,.int .u8 0,.int .u8 0,.int .u8 0,.int .u8 0,.int .u8 0,.int .u8 0,.int .u8 0,.int .u8 0,.int .u8 0,.int .u8 0,.int .u8 0,.int .u8 0,.int .u8 0,.int .u8 0,.int .u8 0,.int .u8 0,.int .u8 0,.int .u8 0,.int .u8 0,.int .u8 0,.int .u8 0,.int .u8 0,.int .u8 0,.int .u8 0,.int .u8 0,.int .u8 0,.int .u8 0,.int .u8 0]
def st (m:List D):D:=.tup [.agg ((match site with | .agg cs=>cs | _=>[]) ++ [.fm m]),.int .i64 0]
abbrev Fact:=Nat×List D×D
def F0:List Fact:=[]
theorem f0:Facts T F0:=facts_nil T
def F1:List Fact:=(245,[],tab) :: F0
theorem f1:Facts T F1:=facts_cons (n:=60) f0 (by kernel_rfl) f0
def F2:List Fact:=(120,[.str ⟨#[108,111,119]⟩],.bool true) :: F1
theorem f2:Facts T F2:=facts_cons (n:=60) f1 (by kernel_rfl) f1
def F3:List Fact:=(120,[.str ⟨#[104,105,103,104]⟩],.bool true) :: F2
theorem f3:Facts T F3:=facts_cons (n:=60) f2 (by kernel_rfl) f2
def F4:List Fact:=(120,[.str ⟨#[106]⟩],.bool true) :: F3
theorem f4:Facts T F4:=facts_cons (n:=60) f3 (by kernel_rfl) f3
def F5:List Fact:=(120,[.str ⟨#[108,111,119,101,114]⟩],.bool true) :: F4
theorem f5:Facts T F5:=facts_cons (n:=60) f4 (by kernel_rfl) f4
def F6:List Fact:=(120,[.str ⟨#[117,112,112,101,114]⟩],.bool true) :: F5
theorem f6:Facts T F6:=facts_cons (n:=60) f5 (by kernel_rfl) f5
def F7:List Fact:=(120,[.str ⟨#[97]⟩],.bool true) :: F6
theorem f7:Facts T F7:=facts_cons (n:=60) f6 (by kernel_rfl) f6
def F8:List Fact:=(120,[.str ⟨#[98]⟩],.bool true) :: F7
theorem f8:Facts T F8:=facts_cons (n:=60) f7 (by kernel_rfl) f7
def F9:List Fact:=(120,[.str ⟨#[99]⟩],.bool true) :: F8
theorem f9:Facts T F9:=facts_cons (n:=60) f8 (by kernel_rfl) f8
def F10:List Fact:=(78,[surv],.int .i64 0) :: F9
theorem f10:Facts T F10:=facts_cons (n:=60) f9 (by kernel_rfl) f9
def F11:List Fact:=(42,[site],.int .i64 0) :: F10
theorem f11:Facts T F11:=facts_cons (n:=60) f10 (by kernel_rfl) f10
def F12:List Fact:=(58,[site,nil1],st []) :: F11
theorem f12:Facts T F12:=facts_cons (n:=60) f11 (by kernel_rfl) f11
def F13:List Fact:=(58,[site,lsz [a]],st [.str ⟨#[97]⟩,.bool true]) :: F12
theorem f13:Facts T F13:=facts_cons (n:=60) f12 (by kernel_rfl) f12
def F14:List Fact:=(58,[site,lsz [a,b]],st [.str ⟨#[97]⟩,.bool true,.str ⟨#[98]⟩,.bool true]) :: F13
theorem f14:Facts T F14:=facts_cons (n:=60) f13 (by kernel_rfl) f13
def F15:List Fact:=(58,[site,lst []],st []) :: F14
theorem f15:Facts T F15:=facts_cons (n:=60) f14 (by kernel_rfl) f14
def F16:List Fact:=(58,[site,lst [a]],st [.str ⟨#[97]⟩,.bool true]) :: F15
theorem f16:Facts T F16:=facts_cons (n:=60) f15 (by kernel_rfl) f15
def F17:List Fact:=(58,[site,lst [a,b]],st [.str ⟨#[97]⟩,.bool true,.str ⟨#[98]⟩,.bool true]) :: F16
theorem f17:Facts T F17:=facts_cons (n:=60) f16 (by kernel_rfl) f16
def F18:List Fact:=(81,[site,nil1,a],.tup [.agg [.int .i64 0,.str ⟨#[]⟩],.int .i64 0]) :: F17
theorem f18:Facts T F18:=facts_cons (n:=60) f17 (by kernel_rfl) f17
def F19:List Fact:=(81,[site,lsz [a],b],.tup [.agg [.int .i64 0,.str ⟨#[]⟩],.int .i64 0]) :: F18
theorem f19:Facts T F19:=facts_cons (n:=60) f18 (by kernel_rfl) f18
def F20:List Fact:=(81,[site,lsz [a,b],c],.tup [.agg [.int .i64 4,.str ⟨#[]⟩],.int .i64 0]) :: F19
theorem f20:Facts T F20:=facts_cons (n:=60) f19 (by kernel_rfl) f19
def F21:List Fact:=(81,[site,lst [],a],.tup [.agg [.int .i64 0,.str ⟨#[]⟩],.int .i64 0]) :: F20
theorem f21:Facts T F21:=facts_cons (n:=60) f20 (by kernel_rfl) f20
def F22:List Fact:=(81,[site,lst [a],b],.tup [.agg [.int .i64 0,.str ⟨#[]⟩],.int .i64 0]) :: F21
theorem f22:Facts T F22:=facts_cons (n:=60) f21 (by kernel_rfl) f21
def F23:List Fact:=(81,[site,lst [a,b],c],.tup [.agg [.int .i64 4,.str ⟨#[]⟩],.int .i64 0]) :: F22
theorem f23:Facts T F23:=facts_cons (n:=60) f22 (by kernel_rfl) f22
def F24:List Fact:=(44,[site],.fz true 1 [.str ⟨#[97]⟩,.str ⟨#[98]⟩]) :: F23
theorem f24:Facts T F24:=facts_cons (n:=60) f23 (by kernel_rfl) f23
def F25:List Fact:=(11,[],.bool true) :: F24
theorem f25:Facts T F25:=facts_cons (n:=60) f24 (by kernel_rfl) f24
theorem aw_run:(lim T).call 11 [] []=some (.bool true,[]):=f25 _ _ _ (List.mem_cons_self ..)
end Tz.Aw
