/- A closed run of the evaluator; no conditions. -/
import Derived.Test.YtogfagkjndoefaaGreatGsF
import Derived.Test.YtogfagkjndoefaaGreatTab
import Derived.ProofKit
set_option linter.all false
set_option maxRecDepth 100000
open Gs Go
namespace Tz.Aw
def rk:D:=.agg [.int .i64 0,.int .i64 0,.int .i64 0,.int .i64 10,.int .i64 10,.int .i64 10,.bool false,.bool false,.bool false,.bool false,.fz false 2 [.agg [.str ⟨#[98]⟩,.int .i64 4]],.fz true 5 [],.fz false 4 [.agg [.str ⟨#[102]⟩,.fz false 2 [.agg [.int .i64 8,.int .i64 0],.agg [.int .i64 10,.int .i64 0],.agg [.int .i64 10,.int .i64 2]],.int .i64 0,.int .i64 10]],.fz false 8 [.agg [.str ⟨#[97]⟩,.int .i64 0,.int .i64 0,.int .i64 0,.int .i64 10,.int .i64 10,.int .i64 8,.int .i64 1]]]
def sv:D:=.agg [.int .i64 0,.int .i64 0,.int .i64 0,.int .i64 10,.int .i64 10,.int .i64 10,.bool false,.bool false,.bool false,.bool false,.fz false 2 [.agg [.str ⟨#[98]⟩,.int .i64 4]],.fz true 5 [],.fz false 4 [.agg [.str ⟨#[102]⟩,.fz false 2 [.agg [.int .i64 8,.int .i64 0],.agg [.int .i64 10,.int .i64 0],.agg [.int .i64 10,.int .i64 2]],.int .i64 0,.int .i64 10]]]
def ev:D:=.fz false 8 [.agg [.str ⟨#[97]⟩,.int .i64 0,.int .i64 0,.int .i64 0,.int .i64 10,.int .i64 10,.int .i64 8,.int .i64 1]]
abbrev Fact:=Nat×List D×D
def F0:List Fact:=[]
theorem f0:Facts T F0:=facts_nil T
def F1:List Fact:=(73,[sv],.int .i64 0) :: F0
theorem f1:Facts T F1:=facts_cons (n:=60) f0 (by kernel_rfl) f0
def F2:List Fact:=(74,[ev],.int .i64 0) :: F1
theorem f2:Facts T F2:=facts_cons (n:=60) f1 (by kernel_rfl) f1
def F3:List Fact:=(36,[rk,.agg [.int .i64 0,.int .i64 0,.int .i64 0,.int .i64 5,.int .i64 5,.int .i64 4]],.int .i64 0) :: F2
theorem f3:Facts T F3:=facts_cons (n:=60) f2 (by kernel_rfl) f2
def F4:List Fact:=(130,[ev,.agg [.int .i64 0,.int .i64 0,.int .i64 0,.int .i64 5,.int .i64 5,.int .i64 4],.int .i64 0],.tup [.agg [.int .i64 0,.int .i64 0,.int .i64 0],.int .i64 9]) :: F3
theorem f4:Facts T F4:=facts_cons (n:=60) f3 (by kernel_rfl) f3
def F5:List Fact:=(130,[ev,.agg [.int .i64 0,.int .i64 0,.int .i64 0,.int .i64 5,.int .i64 5,.int .i64 4],.int .i64 2],.tup [.agg [.int .i64 0,.int .i64 0,.int .i64 0],.int .i64 9]) :: F4
theorem f5:Facts T F5:=facts_cons (n:=60) f4 (by kernel_rfl) f4
def F6:List Fact:=(130,[ev,.agg [.int .i64 0,.int .i64 0,.int .i64 0,.int .i64 5,.int .i64 5,.int .i64 4],.int .i64 3],.tup [.agg [.int .i64 0,.int .i64 0,.int .i64 0],.int .i64 9]) :: F5
theorem f6:Facts T F6:=facts_cons (n:=60) f5 (by kernel_rfl) f5
def F7:List Fact:=(76,[rk,.agg [.int .i64 0,.int .i64 0,.int .i64 0,.int .i64 5,.int .i64 5,.int .i64 4]],.agg [.int .i64 0,.str ⟨#[]⟩,.int .i64 0,.int .i64 0,.int .i64 0,.int .i64 0]) :: F6
theorem f7:Facts T F7:=facts_cons (n:=60) f6 (by kernel_rfl) f6
def F8:List Fact:=(69,[sv,.agg [.int .i64 0,.int .i64 0,.int .i64 0,.int .i64 5,.int .i64 5,.int .i64 4]],.tup [.fz true 1 [],.int .i64 0]) :: F7
theorem f8:Facts T F8:=facts_cons (n:=60) f7 (by kernel_rfl) f7
def F9:List Fact:=(90,[sv,.agg [.int .i64 0,.int .i64 0,.int .i64 0,.int .i64 5,.int .i64 5,.int .i64 4]],.tup [.fz true 1 [],.int .i64 0]) :: F8
theorem f9:Facts T F9:=facts_cons (n:=60) f8 (by kernel_rfl) f8
def F10:List Fact:=(54,[rk,.agg [.int .i64 0,.int .i64 0,.int .i64 0,.int .i64 5,.int .i64 5,.int .i64 4]],.tup [.fz true 1 [],.fz true 1 []]) :: F9
theorem f10:Facts T F10:=facts_cons (n:=60) f9 (by kernel_rfl) f9
def F11:List Fact:=(37,[rk,.agg [.int .i64 0,.int .i64 0,.int .i64 0,.int .i64 5,.int .i64 5,.int .i64 4]],.agg [.int .i64 0,.str ⟨#[]⟩,.int .i64 0,.int .i64 0,.int .i64 0,.int .i64 0]) :: F10
theorem f11:Facts T F11:=facts_cons (n:=60) f10 (by kernel_rfl) f10
def F12:List Fact:=(13,[sv,ev,.agg [.int .i64 0,.int .i64 0,.int .i64 0,.int .i64 5,.int .i64 5,.int .i64 4]],.tup [.agg [.int .i64 0,.str ⟨#[]⟩,.int .i64 0,.int .i64 0,.int .i64 0,.int .i64 0],.int .i64 0]) :: F11
theorem f12:Facts T F12:=facts_cons (n:=60) f11 (by kernel_rfl) f11
def F13:List Fact:=(14,[sv,ev,.agg [.int .i64 0,.int .i64 0,.int .i64 0,.int .i64 5,.int .i64 5,.int .i64 4]],.tup [.bool true,.int .i64 0]) :: F12
theorem f13:Facts T F13:=facts_cons (n:=60) f12 (by kernel_rfl) f12
def F14:List Fact:=(36,[rk,.agg [.int .i64 0,.int .i64 0,.int .i64 0,.int .i64 5,.int .i64 5,.int .i64 5]],.int .i64 0) :: F13
theorem f14:Facts T F14:=facts_cons (n:=60) f13 (by kernel_rfl) f13
def F15:List Fact:=(130,[ev,.agg [.int .i64 0,.int .i64 0,.int .i64 0,.int .i64 5,.int .i64 5,.int .i64 5],.int .i64 0],.tup [.agg [.int .i64 0,.int .i64 0,.int .i64 0],.int .i64 9]) :: F14
theorem f15:Facts T F15:=facts_cons (n:=60) f14 (by kernel_rfl) f14
def F16:List Fact:=(130,[ev,.agg [.int .i64 0,.int .i64 0,.int .i64 0,.int .i64 5,.int .i64 5,.int .i64 5],.int .i64 2],.tup [.agg [.int .i64 0,.int .i64 0,.int .i64 0],.int .i64 9]) :: F15
theorem f16:Facts T F16:=facts_cons (n:=60) f15 (by kernel_rfl) f15
def F17:List Fact:=(130,[ev,.agg [.int .i64 0,.int .i64 0,.int .i64 0,.int .i64 5,.int .i64 5,.int .i64 5],.int .i64 3],.tup [.agg [.int .i64 0,.int .i64 0,.int .i64 0],.int .i64 9]) :: F16
theorem f17:Facts T F17:=facts_cons (n:=60) f16 (by kernel_rfl) f16
def F18:List Fact:=(76,[rk,.agg [.int .i64 0,.int .i64 0,.int .i64 0,.int .i64 5,.int .i64 5,.int .i64 5]],.agg [.int .i64 0,.str ⟨#[]⟩,.int .i64 0,.int .i64 0,.int .i64 0,.int .i64 0]) :: F17
theorem f18:Facts T F18:=facts_cons (n:=60) f17 (by kernel_rfl) f17
def F19:List Fact:=(69,[sv,.agg [.int .i64 0,.int .i64 0,.int .i64 0,.int .i64 5,.int .i64 5,.int .i64 5]],.tup [.fz true 1 [],.int .i64 0]) :: F18
theorem f19:Facts T F19:=facts_cons (n:=60) f18 (by kernel_rfl) f18
def F20:List Fact:=(90,[sv,.agg [.int .i64 0,.int .i64 0,.int .i64 0,.int .i64 5,.int .i64 5,.int .i64 5]],.tup [.fz true 1 [.str ⟨#[98]⟩],.int .i64 0]) :: F19
theorem f20:Facts T F20:=facts_cons (n:=60) f19 (by kernel_rfl) f19
def F21:List Fact:=(54,[rk,.agg [.int .i64 0,.int .i64 0,.int .i64 0,.int .i64 5,.int .i64 5,.int .i64 5]],.tup [.fz true 1 [.str ⟨#[98]⟩],.fz true 1 []]) :: F20
theorem f21:Facts T F21:=facts_cons (n:=60) f20 (by kernel_rfl) f20
def F22:List Fact:=(37,[rk,.agg [.int .i64 0,.int .i64 0,.int .i64 0,.int .i64 5,.int .i64 5,.int .i64 5]],.agg [.int .i64 3,.str ⟨#[98]⟩,.int .i64 0,.int .i64 0,.int .i64 0,.int .i64 0]) :: F21
theorem f22:Facts T F22:=facts_cons (n:=60) f21 (by kernel_rfl) f21
def F23:List Fact:=(13,[sv,ev,.agg [.int .i64 0,.int .i64 0,.int .i64 0,.int .i64 5,.int .i64 5,.int .i64 5]],.tup [.agg [.int .i64 3,.str ⟨#[98]⟩,.int .i64 0,.int .i64 0,.int .i64 0,.int .i64 0],.int .i64 0]) :: F22
theorem f23:Facts T F23:=facts_cons (n:=60) f22 (by kernel_rfl) f22
def F24:List Fact:=(36,[rk,.agg [.int .i64 0,.int .i64 0,.int .i64 4,.int .i64 5,.int .i64 5,.int .i64 9]],.int .i64 0) :: F23
theorem f24:Facts T F24:=facts_cons (n:=60) f23 (by kernel_rfl) f23
def F25:List Fact:=(130,[ev,.agg [.int .i64 0,.int .i64 0,.int .i64 4,.int .i64 5,.int .i64 5,.int .i64 9],.int .i64 0],.tup [.agg [.int .i64 0,.int .i64 0,.int .i64 8],.int .i64 0]) :: F24
theorem f25:Facts T F25:=facts_cons (n:=60) f24 (by kernel_rfl) f24
def F26:List Fact:=(130,[ev,.agg [.int .i64 0,.int .i64 0,.int .i64 4,.int .i64 5,.int .i64 5,.int .i64 9],.int .i64 2],.tup [.agg [.int .i64 0,.int .i64 0,.int .i64 0],.int .i64 9]) :: F25
theorem f26:Facts T F26:=facts_cons (n:=60) f25 (by kernel_rfl) f25
def F27:List Fact:=(130,[ev,.agg [.int .i64 0,.int .i64 0,.int .i64 4,.int .i64 5,.int .i64 5,.int .i64 9],.int .i64 3],.tup [.agg [.int .i64 0,.int .i64 0,.int .i64 0],.int .i64 9]) :: F26
theorem f27:Facts T F27:=facts_cons (n:=60) f26 (by kernel_rfl) f26
def F28:List Fact:=(76,[rk,.agg [.int .i64 0,.int .i64 0,.int .i64 4,.int .i64 5,.int .i64 5,.int .i64 9]],.agg [.int .i64 1,.str ⟨#[]⟩,.int .i64 0,.int .i64 0,.int .i64 8,.int .i64 0]) :: F27
theorem f28:Facts T F28:=facts_cons (n:=60) f27 (by kernel_rfl) f27
def F29:List Fact:=(37,[rk,.agg [.int .i64 0,.int .i64 0,.int .i64 4,.int .i64 5,.int .i64 5,.int .i64 9]],.agg [.int .i64 1,.str ⟨#[]⟩,.int .i64 0,.int .i64 0,.int .i64 8,.int .i64 0]) :: F28
theorem f29:Facts T F29:=facts_cons (n:=60) f28 (by kernel_rfl) f28
def F30:List Fact:=(13,[sv,ev,.agg [.int .i64 0,.int .i64 0,.int .i64 4,.int .i64 5,.int .i64 5,.int .i64 9]],.tup [.agg [.int .i64 1,.str ⟨#[]⟩,.int .i64 0,.int .i64 0,.int .i64 8,.int .i64 0],.int .i64 0]) :: F29
theorem f30:Facts T F30:=facts_cons (n:=60) f29 (by kernel_rfl) f29
def F31:List Fact:=(36,[rk,.agg [.int .i64 5,.int .i64 0,.int .i64 0,.int .i64 10,.int .i64 5,.int .i64 4]],.int .i64 0) :: F30
theorem f31:Facts T F31:=facts_cons (n:=60) f30 (by kernel_rfl) f30
def F32:List Fact:=(130,[ev,.agg [.int .i64 5,.int .i64 0,.int .i64 0,.int .i64 10,.int .i64 5,.int .i64 4],.int .i64 0],.tup [.agg [.int .i64 0,.int .i64 0,.int .i64 0],.int .i64 9]) :: F31
theorem f32:Facts T F32:=facts_cons (n:=60) f31 (by kernel_rfl) f31
def F33:List Fact:=(130,[ev,.agg [.int .i64 5,.int .i64 0,.int .i64 0,.int .i64 10,.int .i64 5,.int .i64 4],.int .i64 2],.tup [.agg [.int .i64 0,.int .i64 0,.int .i64 0],.int .i64 9]) :: F32
theorem f33:Facts T F33:=facts_cons (n:=60) f32 (by kernel_rfl) f32
def F34:List Fact:=(130,[ev,.agg [.int .i64 5,.int .i64 0,.int .i64 0,.int .i64 10,.int .i64 5,.int .i64 4],.int .i64 3],.tup [.agg [.int .i64 0,.int .i64 0,.int .i64 0],.int .i64 9]) :: F33
theorem f34:Facts T F34:=facts_cons (n:=60) f33 (by kernel_rfl) f33
def F35:List Fact:=(76,[rk,.agg [.int .i64 5,.int .i64 0,.int .i64 0,.int .i64 10,.int .i64 5,.int .i64 4]],.agg [.int .i64 0,.str ⟨#[]⟩,.int .i64 0,.int .i64 0,.int .i64 0,.int .i64 0]) :: F34
theorem f35:Facts T F35:=facts_cons (n:=60) f34 (by kernel_rfl) f34
def F36:List Fact:=(69,[sv,.agg [.int .i64 5,.int .i64 0,.int .i64 0,.int .i64 10,.int .i64 5,.int .i64 4]],.tup [.fz true 1 [.str ⟨#[102]⟩],.int .i64 0]) :: F35
theorem f36:Facts T F36:=facts_cons (n:=60) f35 (by kernel_rfl) f35
def F37:List Fact:=(37,[rk,.agg [.int .i64 5,.int .i64 0,.int .i64 0,.int .i64 10,.int .i64 5,.int .i64 4]],.agg [.int .i64 2,.str ⟨#[102]⟩,.int .i64 0,.int .i64 0,.int .i64 0,.int .i64 0]) :: F36
theorem f37:Facts T F37:=facts_cons (n:=60) f36 (by kernel_rfl) f36
def F38:List Fact:=(13,[sv,ev,.agg [.int .i64 5,.int .i64 0,.int .i64 0,.int .i64 10,.int .i64 5,.int .i64 4]],.tup [.agg [.int .i64 2,.str ⟨#[102]⟩,.int .i64 0,.int .i64 0,.int .i64 0,.int .i64 0],.int .i64 0]) :: F37
theorem f38:Facts T F38:=facts_cons (n:=60) f37 (by kernel_rfl) f37
def F39:List Fact:=(130,[ev,.agg [.int .i64 5,.int .i64 0,.int .i64 0,.int .i64 8,.int .i64 5,.int .i64 4],.int .i64 0],.tup [.agg [.int .i64 0,.int .i64 0,.int .i64 0],.int .i64 9]) :: F38
theorem f39:Facts T F39:=facts_cons (n:=60) f38 (by kernel_rfl) f38
def F40:List Fact:=(130,[ev,.agg [.int .i64 5,.int .i64 0,.int .i64 0,.int .i64 8,.int .i64 5,.int .i64 4],.int .i64 2],.tup [.agg [.int .i64 0,.int .i64 0,.int .i64 0],.int .i64 9]) :: F39
theorem f40:Facts T F40:=facts_cons (n:=60) f39 (by kernel_rfl) f39
def F41:List Fact:=(130,[ev,.agg [.int .i64 5,.int .i64 0,.int .i64 0,.int .i64 8,.int .i64 5,.int .i64 4],.int .i64 3],.tup [.agg [.int .i64 0,.int .i64 0,.int .i64 0],.int .i64 9]) :: F40
theorem f41:Facts T F41:=facts_cons (n:=60) f40 (by kernel_rfl) f40
def F42:List Fact:=(76,[rk,.agg [.int .i64 5,.int .i64 0,.int .i64 0,.int .i64 8,.int .i64 5,.int .i64 4]],.agg [.int .i64 0,.str ⟨#[]⟩,.int .i64 0,.int .i64 0,.int .i64 0,.int .i64 0]) :: F41
theorem f42:Facts T F42:=facts_cons (n:=60) f41 (by kernel_rfl) f41
def F43:List Fact:=(69,[sv,.agg [.int .i64 5,.int .i64 0,.int .i64 0,.int .i64 8,.int .i64 5,.int .i64 4]],.tup [.fz true 1 [],.int .i64 0]) :: F42
theorem f43:Facts T F43:=facts_cons (n:=60) f42 (by kernel_rfl) f42
def F44:List Fact:=(90,[sv,.agg [.int .i64 5,.int .i64 0,.int .i64 0,.int .i64 8,.int .i64 5,.int .i64 4]],.tup [.fz true 1 [],.int .i64 0]) :: F43
theorem f44:Facts T F44:=facts_cons (n:=60) f43 (by kernel_rfl) f43
def F45:List Fact:=(54,[rk,.agg [.int .i64 5,.int .i64 0,.int .i64 0,.int .i64 8,.int .i64 5,.int .i64 4]],.tup [.fz true 1 [],.fz true 1 []]) :: F44
theorem f45:Facts T F45:=facts_cons (n:=60) f44 (by kernel_rfl) f44
def F46:List Fact:=(37,[rk,.agg [.int .i64 5,.int .i64 0,.int .i64 0,.int .i64 8,.int .i64 5,.int .i64 4]],.agg [.int .i64 0,.str ⟨#[]⟩,.int .i64 0,.int .i64 0,.int .i64 0,.int .i64 0]) :: F45
theorem f46:Facts T F46:=facts_cons (n:=60) f45 (by kernel_rfl) f45
def F47:List Fact:=(130,[ev,.agg [.int .i64 5,.int .i64 0,.int .i64 0,.int .i64 9,.int .i64 5,.int .i64 4],.int .i64 0],.tup [.agg [.int .i64 0,.int .i64 0,.int .i64 0],.int .i64 9]) :: F46
theorem f47:Facts T F47:=facts_cons (n:=60) f46 (by kernel_rfl) f46
def F48:List Fact:=(130,[ev,.agg [.int .i64 5,.int .i64 0,.int .i64 0,.int .i64 9,.int .i64 5,.int .i64 4],.int .i64 2],.tup [.agg [.int .i64 0,.int .i64 0,.int .i64 0],.int .i64 9]) :: F47
theorem f48:Facts T F48:=facts_cons (n:=60) f47 (by kernel_rfl) f47
def F49:List Fact:=(130,[ev,.agg [.int .i64 5,.int .i64 0,.int .i64 0,.int .i64 9,.int .i64 5,.int .i64 4],.int .i64 3],.tup [.agg [.int .i64 0,.int .i64 0,.int .i64 0],.int .i64 9]) :: F48
theorem f49:Facts T F49:=facts_cons (n:=60) f48 (by kernel_rfl) f48
def F50:List Fact:=(76,[rk,.agg [.int .i64 5,.int .i64 0,.int .i64 0,.int .i64 9,.int .i64 5,.int .i64 4]],.agg [.int .i64 0,.str ⟨#[]⟩,.int .i64 0,.int .i64 0,.int .i64 0,.int .i64 0]) :: F49
theorem f50:Facts T F50:=facts_cons (n:=60) f49 (by kernel_rfl) f49
def F51:List Fact:=(69,[sv,.agg [.int .i64 5,.int .i64 0,.int .i64 0,.int .i64 9,.int .i64 5,.int .i64 4]],.tup [.fz true 1 [.str ⟨#[102]⟩],.int .i64 0]) :: F50
theorem f51:Facts T F51:=facts_cons (n:=60) f50 (by kernel_rfl) f50
def F52:List Fact:=(37,[rk,.agg [.int .i64 5,.int .i64 0,.int .i64 0,.int .i64 9,.int .i64 5,.int .i64 4]],.agg [.int .i64 2,.str ⟨#[102]⟩,.int .i64 0,.int .i64 0,.int .i64 0,.int .i64 0]) :: F51
theorem f52:Facts T F52:=facts_cons (n:=60) f51 (by kernel_rfl) f51
def F53:List Fact:=(18,[sv,ev,.agg [.int .i64 5,.int .i64 0,.int .i64 0,.int .i64 10,.int .i64 5,.int .i64 4],.int .i64 0],.tup [.agg [.int .i64 5,.int .i64 7],.int .i64 0]) :: F52
theorem f53:Facts T F53:=facts_cons (n:=60) f52 (by kernel_rfl) f52
def F54:List Fact:=(36,[rk,.agg [.int .i64 0,.int .i64 0,.int .i64 0,.int .i64 5,.int .i64 5,.int .i64 8]],.int .i64 0) :: F53
theorem f54:Facts T F54:=facts_cons (n:=60) f53 (by kernel_rfl) f53
def F55:List Fact:=(90,[sv,.agg [.int .i64 0,.int .i64 0,.int .i64 0,.int .i64 5,.int .i64 5,.int .i64 8]],.tup [.fz true 1 [.str ⟨#[98]⟩],.int .i64 0]) :: F54
theorem f55:Facts T F55:=facts_cons (n:=60) f54 (by kernel_rfl) f54
def F56:List Fact:=(54,[rk,.agg [.int .i64 0,.int .i64 0,.int .i64 0,.int .i64 5,.int .i64 5,.int .i64 8]],.tup [.fz true 1 [.str ⟨#[98]⟩],.fz true 1 []]) :: F55
theorem f56:Facts T F56:=facts_cons (n:=60) f55 (by kernel_rfl) f55
def F57:List Fact:=(130,[ev,.agg [.int .i64 0,.int .i64 0,.int .i64 4,.int .i64 5,.int .i64 5,.int .i64 8],.int .i64 0],.tup [.agg [.int .i64 0,.int .i64 0,.int .i64 0],.int .i64 9]) :: F56
theorem f57:Facts T F57:=facts_cons (n:=60) f56 (by kernel_rfl) f56
def F58:List Fact:=(130,[ev,.agg [.int .i64 0,.int .i64 0,.int .i64 4,.int .i64 5,.int .i64 5,.int .i64 8],.int .i64 2],.tup [.agg [.int .i64 0,.int .i64 0,.int .i64 0],.int .i64 9]) :: F57
theorem f58:Facts T F58:=facts_cons (n:=60) f57 (by kernel_rfl) f57
def F59:List Fact:=(130,[ev,.agg [.int .i64 0,.int .i64 0,.int .i64 4,.int .i64 5,.int .i64 5,.int .i64 8],.int .i64 3],.tup [.agg [.int .i64 0,.int .i64 0,.int .i64 0],.int .i64 9]) :: F58
theorem f59:Facts T F59:=facts_cons (n:=60) f58 (by kernel_rfl) f58
def F60:List Fact:=(76,[rk,.agg [.int .i64 0,.int .i64 0,.int .i64 4,.int .i64 5,.int .i64 5,.int .i64 8]],.agg [.int .i64 0,.str ⟨#[]⟩,.int .i64 0,.int .i64 0,.int .i64 0,.int .i64 0]) :: F59
theorem f60:Facts T F60:=facts_cons (n:=60) f59 (by kernel_rfl) f59
def F61:List Fact:=(69,[sv,.agg [.int .i64 0,.int .i64 0,.int .i64 4,.int .i64 5,.int .i64 5,.int .i64 8]],.tup [.fz true 1 [],.int .i64 0]) :: F60
theorem f61:Facts T F61:=facts_cons (n:=60) f60 (by kernel_rfl) f60
def F62:List Fact:=(90,[sv,.agg [.int .i64 0,.int .i64 0,.int .i64 4,.int .i64 5,.int .i64 5,.int .i64 8]],.tup [.fz true 1 [],.int .i64 0]) :: F61
theorem f62:Facts T F62:=facts_cons (n:=60) f61 (by kernel_rfl) f61
def F63:List Fact:=(54,[rk,.agg [.int .i64 0,.int .i64 0,.int .i64 4,.int .i64 5,.int .i64 5,.int .i64 8]],.tup [.fz true 1 [],.fz true 1 []]) :: F62
theorem f63:Facts T F63:=facts_cons (n:=60) f62 (by kernel_rfl) f62
def F64:List Fact:=(37,[rk,.agg [.int .i64 0,.int .i64 0,.int .i64 4,.int .i64 5,.int .i64 5,.int .i64 8]],.agg [.int .i64 0,.str ⟨#[]⟩,.int .i64 0,.int .i64 0,.int .i64 0,.int .i64 0]) :: F63
theorem f64:Facts T F64:=facts_cons (n:=60) f63 (by kernel_rfl) f63
def F65:List Fact:=(25,[sv,ev,.agg [.int .i64 0,.int .i64 0,.int .i64 0,.int .i64 5,.int .i64 5,.int .i64 8]],.tup [.fz true 6 [.agg [.int .i64 0,.int .i64 0,.int .i64 0,.int .i64 5,.int .i64 5,.int .i64 4],.agg [.int .i64 0,.int .i64 0,.int .i64 4,.int .i64 5,.int .i64 5,.int .i64 8]],.int .i64 0]) :: F64
theorem f65:Facts T F65:=facts_cons (n:=60) f64 (by kernel_rfl) f64
def F66:List Fact:=(12,[],.bool true) :: F65
theorem f66:Facts T F66:=facts_cons (n:=60) f65 (by kernel_rfl) f65
theorem aw_run:(lim T).call 12 [] []=some (.bool true,[]):=f66 _ _ _ (List.mem_cons_self ..)
end Tz.Aw
