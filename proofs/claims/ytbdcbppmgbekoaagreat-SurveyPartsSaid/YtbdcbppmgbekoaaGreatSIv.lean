/- A sorted list of intervals; no conditions. -/
import Derived.Test.YtbdcbppmgbekoaaGreatGsF
import Derived.Sort.AssemblyPlain
set_option linter.all false
open Gs Go
namespace Tz
theorem ltIv_swo:Sort.SWO ltIv:=⟨fun x=>by simp [ltIv],fun x y z h h'=>by simp only [ltIv,decide_eq_true_eq] at *; omega,fun x y z h h'=>by simp only [ltIv,decide_eq_false_iff_not] at *; omega⟩
theorem sortIv_all (l:List (Int×Int)):(sortIv l).Perm l∧(sortIv l).Pairwise fun a b=>a.1≤b.1:=by
 have h:=Sort.pdq_sorts ltIv ltIv_swo l.toArray 0 l.length (Lib.bitLen l.length) true true (Nat.zero_le _) (by simp) (Or.inl rfl)
 obtain ⟨⟨hsz,_,hp⟩,hs⟩:=h
 have hsz':(Sort.pdq ltIv l.toArray 0 l.length (Lib.bitLen l.length) true true).size=l.length:=by simpa using hsz
 refine ⟨?_,?_⟩
 · have e1:∀ a:Array (Int×Int),a.size=l.length→a.extract 0 l.length=a:=fun a ha=>by rw [←ha]; exact Array.extract_size
   rw [e1 _ hsz',e1 _ (by simp)] at hp
   simpa [sortIv] using hp
 · unfold sortIv
   rw [List.pairwise_iff_getElem]
   intro i j hi hj hij
   simp only [Array.length_toList] at hi hj
   have h:=hs i j (Nat.zero_le _) hij (by omega)
   simp only [ltIv,decide_eq_false_iff_not] at h
   rw [getElem!_pos _ j hj,getElem!_pos _ i hi] at h
   simp only [Array.getElem_toList]
   omega
end Tz
