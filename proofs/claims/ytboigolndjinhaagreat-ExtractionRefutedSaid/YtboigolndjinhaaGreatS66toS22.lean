/- The reference: Sorted and Same; The reference: LeansOn and Carries; Shapes, order and place, reference; Check, Boxed and Open, reference; part S91; Interval ends, reference; Interval ends, second part; Set and Same, reference; no conditions. -/
import Derived.Test.YtboigolndjinhaaGreatS87toS65
import Derived.Test.YtboigolndjinhaaGreatS17toS86
set_option linter.all false
set_option maxRecDepth 100000
open Gs Go
namespace Tz.C18
end Tz.C18
set_option maxRecDepth 100000
open Gs Go
namespace Tz.C18
theorem find_idx (p:Block→Bool):∀ {bs:List Block} {a:Block},bs.find? p=some a→∃ j,bs.findIdx? p=some j∧bs[j]?=some a
 | [],a,h=>by simp at h
 | b :: r,a,h=>by
   rw [List.find?_cons] at h
   rw [List.findIdx?_cons]
   cases hb:p b with
   | true=>rw [hb] at h; injection h with h; subst h; exact ⟨0,rfl,rfl⟩
   | false=>
     rw [hb] at h
     obtain ⟨j,h1,h2⟩:=find_idx p h
     exact ⟨j + 1,by simp [h1],by simpa using h2⟩
end Tz.C18
set_option maxRecDepth 100000
open Gs Go
namespace Tz
def nm (l:List ByteArray)(i:Nat):ByteArray:=l[i]?.getD ⟨#[]⟩
end Tz
set_option maxRecDepth 100000
open Gs Go
namespace Tz
def rf (n:Int):Bool:=!(decide (-1000000≤n) && decide (n≤1000000))
end Tz
set_option maxRecDepth 100000
open Gs Go
namespace Tz.C18
end Tz.C18
set_option maxRecDepth 100000
open Gs Go
namespace Tz
end Tz
set_option maxRecDepth 100000
open Gs Go
namespace Tz
end Tz
set_option maxHeartbeats 2000000
set_option maxRecDepth 100000
open Gs Go
namespace Tz
end Tz
