/- part XE; no conditions. -/
import Derived.Test.YtogfagkjndoefaaGreatX9toXJ
import Derived.Test.YtogfagkjndoefaaGreatS160toS10i
set_option linter.all false
namespace Tz
open Gs Go Go.Proofs
theorem shp_evid {m:Nat}{ds:List D}(h:Shp Tryz.prog m 66 ds):∃ x:Ev,ds=[.str x.src,int x.box.x0,int x.box.y0,int x.box.z0,int x.box.x1,int x.box.y1,int x.box.z1,int x.st]:=by
 obtain ⟨n,parts,rfl,k⟩:=shp_struct Tryz.underlying66 h
 obtain ⟨a,_,rfl,ha,k⟩:=all2_cons k
 obtain ⟨b,_,rfl,hb,k⟩:=all2_cons k
 obtain ⟨c,_,rfl,hc,k⟩:=all2_cons k
 have:=all2_nil k; subst this
 obtain ⟨x,rfl⟩:=shp_str Tryz.underlying9 ha
 obtain ⟨y,rfl⟩:=shp_box hb
 obtain ⟨z,rfl⟩:=shp_int Tryz.underlying3 hc
 exact ⟨⟨x,y,z⟩,rfl⟩
theorem agg66:isAggTy Tryz.prog 66=true:=by unfold isAggTy; rw [Tryz.underlying66]
theorem co66:Tryz.prog.cellsOf 66=8:=by kernel_rfl
theorem shp_evs {m:Nat}{ds:List D}(h:Shp Tryz.prog m 32 ds):∃ l:List Ev,ds=[C18.evs false l]:=by
 obtain ⟨n,ls,rfl,h1⟩:=shp_slice Tryz.underlying32 h
 obtain ⟨xs,rfl⟩:=list_of (fun x:Ev=>[.str x.src,int x.box.x0,int x.box.y0,int x.box.z0,int x.box.x1,int x.box.y1,int x.box.z1,int x.st]) (fun l hl=>shp_evid hl) ls h1
 rw [agg66,co66,List.map_map]
 exact ⟨xs,rfl⟩
end Tz
