/- Normal forms of interval lists; The form of the reference is normal; The two checks agree; no conditions. -/
import Derived.Test.YtbdcbppmgbekoaaGreatS17toS22
set_option linter.all false
open Gs Go
namespace Tz
def Pts (l:List (Int×Int))(n:Int):Prop:=∃ p∈l,p.1≤n∧n≤p.2
end Tz
open Gs Go
namespace Tz
end Tz
open Gs Go
namespace Tz
theorem ddF_nodup:∀ (l:List ByteArray) (p:ByteArray),SortedB (p :: l)→((ddF seq p l).length=l.length↔(p :: l).Nodup)
 | [],p,_=>by simp [ddF]
 | y :: r,p,h=>by
   have h1:=List.pairwise_cons.1 h
   have ih:=ddF_nodup r y h1.2
   simp only [ddF]
   cases hs:seq y p with
   | true=>
     have hyp:=seq_iff.1 hs
     have hle:=dd_length_le seq r y
     simp only [cond_true]
     constructor
     · intro he; simp only [List.length_cons] at he; omega
     · intro hn; subst hyp; simp at hn
   | false=>
     have hyp:=seq_false.1 hs
     simp only [cond_false,List.length_cons,Nat.succ_inj]
     rw [ih,List.nodup_cons (a:=p)]
     constructor
     · intro hn
       refine ⟨fun hm=>?_,hn⟩
       rcases List.mem_cons.1 hm with rfl | hm
       · exact hyp rfl
       · have h2:=List.pairwise_cons.1 h1.2
         have a1:=h1.1 y (by simp)
         have a2:=h2.1 p hm
         exact hyp (slt_total (by simpa using a1) (by simpa using a2))
     · exact fun hn=>hn.2
theorem dd_nodup (l:List ByteArray)(h:SortedB l):((dd seq l).length=l.length↔l.Nodup):=by
 cases l with
 | nil=>simp [dd]
 | cons p r=>
   simp only [dd,List.length_cons]
   rw [show ((ddF seq p r).length + 1=r.length + 1)↔((ddF seq p r).length=r.length) from Nat.succ_inj]
   exact ddF_nodup r p h
theorem pairs_nodup (l:List ByteArray):pairs l=false↔l.Nodup:=by
 unfold pairs List.Nodup
 rw [List.pairwise_iff_getElem,List.any_eq_false]
 have hnm:∀ i (h:i < l.length),nm l i=l[i]:=fun i h=>by simp [nm,List.getElem?_eq_getElem h]
 constructor
 · intro h i j hi hj hij he
   have h1:=h j (by simpa using hj)
   rw [Bool.not_eq_true,List.any_eq_false] at h1
   have h2:=h1 i (by simpa using hij)
   rw [hnm i hi,hnm j hj,he,seq_refl] at h2
   exact h2 rfl
 · intro h i hi
   rw [List.mem_range] at hi
   rw [Bool.not_eq_true,List.any_eq_false]
   intro j hj
   rw [List.mem_range] at hj
   rw [hnm i hi,hnm j (by omega),Bool.not_eq_true]
   exact seq_false.2 fun e=>h j i (by omega) hi hj e.symm
theorem dis_unord (s:Survey):disordered s=unordered s:=by
 unfold disordered unordered
 have h1:=dd_nodup (sortB s.names) (sortB_sorted _)
 have h2:=pairs_nodup s.names
 have hp:=sortB_perm s.names
 rw [hp.length_eq] at h1
 have h3:decide ((dd seq (sortB s.names)).length≠s.names.length)=pairs s.names:=by
   cases hc:pairs s.names with
   | false=>
     have:=h1.2 (hp.nodup_iff.2 (h2.1 hc))
     simp [this]
   | true=>
     have:¬ (dd seq (sortB s.names)).length=s.names.length:=by
       intro he
       have:=h2.2 (hp.nodup_iff.1 (h1.1 he))
       rw [hc] at this; cases this
     simp [this]
 rw [h3]
theorem far_eq (b:Box):b.six.any far6=rFar b:=by
 have h:∀ n,far6 n=rf n:=by
   intro n
   unfold far6 rf
   rw [Bool.eq_iff_iff]
   simp only [Bool.or_eq_true,decide_eq_true_eq,Bool.not_eq_true',Bool.and_eq_false_iff,decide_eq_false_iff_not]
   omega
 simp only [Box.six,List.any_cons,List.any_nil,h,rFar,Bool.or_false]
 cases rf b.x0<;>cases rf b.x1<;>cases rf b.y0<;>cases rf b.y1<;>cases rf b.z0<;>cases rf b.z1<;>rfl
theorem any_congr {α:Type}{l:List α}{p q:α→Bool}(h:∀ x∈l,p x=q x):l.any p=l.any q:=by
 induction l with
 | nil=>rfl
 | cons x r ih=>simp only [List.any_cons]; rw [h x (by simp),ih fun y hy=>h y (by simp [hy])]
theorem out_eq (s:Survey)(hj:s.joints.any jbad=false)(hf:s.flaws.any fbad=false):rOut s=outB s:=by
 unfold rOut outB
 congr 1
 congr 1
 · refine any_congr fun j hm=>?_
   have h:=List.any_eq_false.1 hj j hm
   simp only [jbad,Bool.or_eq_true,Bool.and_eq_true,Bool.not_eq_true',decide_eq_false_iff_not,decide_eq_true_eq,not_or,Classical.not_and_iff_not_or_not,Classical.not_not] at h
   unfold rJointOut jointOut Box.lo Box.hi
   have ha:j.axis=0∨j.axis=1:=by omega
   rcases ha with ha | ha
   · rw [if_pos ha,if_pos ha,if_pos ha,if_pos ha]
     unfold inR
     rw [Bool.eq_iff_iff]
     simp only [Bool.or_eq_true,decide_eq_true_eq,Bool.not_eq_true',Bool.and_eq_false_iff,decide_eq_false_iff_not]
     omega
   · have hn:¬ j.axis=0:=by omega
     rw [if_neg hn,if_neg hn,if_neg hn,if_neg hn,if_pos ha,if_pos ha]
     unfold inR
     rw [Bool.eq_iff_iff]
     simp only [Bool.or_eq_true,decide_eq_true_eq,Bool.not_eq_true',Bool.and_eq_false_iff,decide_eq_false_iff_not]
     omega
 · refine any_congr fun f hm=>?_
   have h:=List.any_eq_false.1 hf f hm
   simp only [fbad,decide_eq_true_eq] at h
   unfold rFlawOut flawOut inR
   congr 1
   rw [Bool.eq_iff_iff]
   simp only [Bool.or_eq_true,decide_eq_true_eq,Bool.not_eq_true',Bool.and_eq_false_iff,decide_eq_false_iff_not]
   omega
theorem name_any (s:Survey):(s.names.any fun n=>!pName n)=s.names.any fun n=>!rName n:=any_congr fun n _=>by rw [name_eq]
theorem check_eq (s:Survey):surveyErr s=rCheck s:=by
 unfold surveyErr rCheck
 rw [far_eq,name_any]
 congr 1
 congr 1
 congr 1
 congr 1
 unfold rShapes
 cases hj:s.joints.any jbad with
 | true=>rfl
 | false=>
 cases hf:s.flaws.any fbad with
 | true=>rfl
 | false=>
 rw [out_eq s hj hf,dis_unord]
 simp only [Bool.or_false,cond_false]
 cases hk:s.flaws.find? (fun f=>!decide (polyErr f.base=0)) with
 | some f=>
   have:=List.find?_some hk
   simp only at this ⊢
   rw [this]; rfl
 | none=>
   simp only
   cases s.flaws.any (fun f=>!convex f.base)<;>rfl
theorem boxed_eq (s:Survey)(b:Box):rBoxed s b=bif !decide (surveyErr s=0) then surveyErr s else boxedErr s b:=by
 unfold rBoxed boxedErr
 rw [check_eq,outOf_inside]
end Tz
