/- part X9r; no conditions. -/
import Derived.Test.YtboigolndjinhaaGreatX9toXJd
import Derived.Test.YtboigolndjinhaaGreatS98toS124
set_option linter.all false
namespace Tz
open Gs Go Go.Proofs
open Tz.C18 (Rf rfD)
theorem shp_reason {m:Nat}{ds:List D}(h:Shp Tryz.prog m 94 ds):∃ k u,ds=[int k,.str u]:=by
 obtain ⟨n,parts,rfl,k⟩:=shp_struct Tryz.underlying94 h
 obtain ⟨a,_,rfl,ha,k⟩:=all2_cons k
 obtain ⟨b,_,rfl,hb,k⟩:=all2_cons k
 have:=all2_nil k; subst this
 obtain ⟨x,rfl⟩:=shp_int Tryz.underlying3 ha
 obtain ⟨y,rfl⟩:=shp_str Tryz.underlying9 hb
 exact ⟨x,y,rfl⟩
theorem shp_refusal {m:Nat}{ds:List D}(h:Shp Tryz.prog m 97 ds):∃ r:Rf,ds=[.str r.1,int r.2.1,.str r.2.2]:=by
 obtain ⟨n,parts,rfl,k⟩:=shp_struct Tryz.underlying97 h
 obtain ⟨a,_,rfl,ha,k⟩:=all2_cons k
 obtain ⟨b,_,rfl,hb,k⟩:=all2_cons k
 have:=all2_nil k; subst this
 obtain ⟨x,rfl⟩:=shp_str Tryz.underlying9 ha
 obtain ⟨y,z,rfl⟩:=shp_reason hb
 exact ⟨(x,y,z),rfl⟩
theorem agg97:isAggTy Tryz.prog 97=true:=by unfold isAggTy; rw [Tryz.underlying97]
theorem co97:Tryz.prog.cellsOf 97=3:=by kernel_rfl
theorem shp_refusals {m:Nat}{ds:List D}(h:Shp Tryz.prog m 46 ds):∃ l:List Rf,ds=[.fz false 3 (l.map rfD)]:=by
 obtain ⟨n,ls,rfl,h1⟩:=shp_slice Tryz.underlying46 h
 obtain ⟨xs,rfl⟩:=list_of (fun r:Rf=>[.str r.1,int r.2.1,.str r.2.2]) (fun l hl=>shp_refusal hl) ls h1
 rw [agg97,co97,List.map_map]
 exact ⟨xs,rfl⟩
end Tz
