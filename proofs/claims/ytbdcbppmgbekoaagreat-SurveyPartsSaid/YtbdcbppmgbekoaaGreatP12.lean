/- part P12; no conditions. -/
import Derived.Test.YtbdcbppmgbekoaaGreatS148toS151
set_option linter.all false
open Gs Go
namespace Tz
def lf (b:Box)(ax at_:Int):Box:=if ax=0 then { b with x1:=at_ } else if ax=1 then { b with y1:=at_ } else { b with z1:=at_ }
def rg (b:Box)(ax at_:Int):Box:=if ax=0 then { b with x0:=at_ } else if ax=1 then { b with y0:=at_ } else { b with z0:=at_ }
def plo (b:Box)(ax:Int):Int:=if ax=0 then b.x0 else if ax=1 then b.y0 else b.z0
def phi (b:Box)(ax:Int):Int:=if ax=0 then b.x1 else if ax=1 then b.y1 else b.z1
structure Sub (c b:Box):Prop where
 x0:b.x0≤c.x0
 y0:b.y0≤c.y0
 z0:b.z0≤c.z0
 x1:c.x1≤b.x1
 y1:c.y1≤b.y1
 z1:c.z1≤b.z1
section
variable {s:Survey} {b c:Box} {ax at_:Int}
theorem lf_sub (h1:plo b ax < at_)(h2:at_ < phi b ax):Sub (lf b ax at_) b:=by
 unfold plo at h1; unfold phi at h2; unfold lf
 split
 · rename_i h; simp only [h,if_true] at h2; constructor<;>simp only<;>omega
 · rename_i h
   split
   · rename_i h'; simp only [h',if_true,if_false,show ¬ (1:Int)=0 by decide] at h2; constructor<;>simp only<;>omega
   · rename_i h'; simp only [h,h',if_false] at h2; constructor<;>simp only<;>omega
theorem rg_sub (h1:plo b ax < at_)(h2:at_ < phi b ax):Sub (rg b ax at_) b:=by
 unfold plo at h1; unfold phi at h2; unfold rg
 split
 · rename_i h; simp only [h,if_true] at h1; constructor<;>simp only<;>omega
 · rename_i h
   split
   · rename_i h'; simp only [h',if_true,if_false,show ¬ (1:Int)=0 by decide] at h1; constructor<;>simp only<;>omega
   · rename_i h'; simp only [h,h',if_false] at h1; constructor<;>simp only<;>omega
theorem ok3 {b:Box} : b.ok=true↔(b.x0 < b.x1∧b.y0 < b.y1)∧b.z0 < b.z1:=by
 simp only [Box.ok,Bool.and_eq_true,decide_eq_true_eq]
theorem lf_ok (hb:b.ok=true)(h1:plo b ax < at_):(lf b ax at_).ok=true:=by
 rw [ok3] at hb ⊢
 unfold plo at h1; unfold lf
 split
 · rename_i h; simp only [h,if_true] at h1; simp only; omega
 · rename_i h
   split
   · rename_i h'; simp only [h',if_true,if_false,show ¬ (1:Int)=0 by decide] at h1; simp only; omega
   · rename_i h'; simp only [h,h',if_false] at h1; simp only; omega
theorem rg_ok (hb:b.ok=true)(h2:at_ < phi b ax):(rg b ax at_).ok=true:=by
 rw [ok3] at hb ⊢
 unfold phi at h2; unfold rg
 split
 · rename_i h; simp only [h,if_true] at h2; simp only; omega
 · rename_i h
   split
   · rename_i h'; simp only [h',if_true,if_false,show ¬ (1:Int)=0 by decide] at h2; simp only; omega
   · rename_i h'; simp only [h,h',if_false] at h2; simp only; omega
theorem sub_err (h0:sbErr s b=0)(hc:c.ok=true)(hs:Sub c b):sbErr s c=0:=by
 obtain ⟨hok,hb0⟩:=sb_ok h0
 obtain ⟨h1,h2⟩:=boxed_ok hb0
 unfold sbErr at h0 ⊢
 cases h3:decide (surveyErr s=0) with
 | false=>rw [h3] at h0; exact absurd h0 (of_decide_eq_false h3)
 | true=>
   simp only [cond_true]
   unfold boxedErr
   rw [hc]
   have:outOf c s.pit=false:=by
     simp only [outOf,Bool.or_eq_false_iff,decide_eq_false_iff_not] at h2 ⊢
     have a1:=hs.x0; have a2:=hs.y0; have a3:=hs.z0; have a4:=hs.x1; have a5:=hs.y1; have a6:=hs.z1
     omega
   rw [this]; rfl
theorem mem_thrR (h0:sbErr s b=0){x:ByteArray} : x∈thrR s b↔(∃ d∈s.beds,bHit b d=true∧d.name=x)∨(∃ j∈s.joints,jtHit b j=true∧j.name=x):=by
 unfold thrR
 rw [decide_eq_true h0,cond_true,(sortB_perm _).mem_iff,thrL,List.mem_append]
 simp only [List.mem_map,List.mem_filter,and_assoc]
theorem mem_flawsR (h0:sbErr s b=0){x:ByteArray} : x∈flawsR s b↔∃ f∈s.flaws,fHit b f=true∧f.name=x:=by
 unfold flawsR
 rw [decide_eq_true h0,cond_true]
 simp only [List.mem_map,List.mem_filter,and_assoc]
theorem bHit_sub (hs:Sub c b){d:Bed}(h:bHit c d=true):bHit b d=true:=by
 simp only [bHit,Bool.and_eq_true,decide_eq_true_eq] at h ⊢
 have:=hs.z0; have:=hs.z1; omega
theorem jtHit_sub (hs:Sub c b){j:Joint}(h:jtHit c j=true):jtHit b j=true:=by
 simp only [jtHit,Bool.and_eq_true,decide_eq_true_eq,Box.lo,Box.hi] at h ⊢
 have:=hs.x0; have:=hs.y0; have:=hs.z0; have:=hs.x1; have:=hs.y1; have:=hs.z1
 split at h<;>simp_all<;>omega
theorem thr_sub (h0:sbErr s b=0)(hc:sbErr s c=0)(hs:Sub c b){x:ByteArray}(h:x∈thrR s c):x∈thrR s b:=by
 rw [mem_thrR hc] at h
 rw [mem_thrR h0]
 rcases h with ⟨d,h1,h2,h3⟩ | ⟨j,h1,h2,h3⟩
 · exact .inl ⟨d,h1,bHit_sub hs h2,h3⟩
 · exact .inr ⟨j,h1,jtHit_sub hs h2,h3⟩
theorem off_sub {p:List Pt}(hb:b.ok=true)(hc:c.ok=true)(hs:Sub c b)(h:Off p b):Off p c:=by
 rw [ok3] at hb hc
 have a1:=hs.x0; have a2:=hs.y0; have a3:=hs.z0; have a4:=hs.x1; have a5:=hs.y1; have a6:=hs.z1
 exact part_of (by omega) (by omega) (by omega) (by omega) h
theorem fHit_sub (hb:b.ok=true)(hc:c.ok=true)(hs:Sub c b){f:Flaw}(h:fHit c f=true):fHit b f=true:=by
 unfold fHit at h ⊢
 rw [meets_off hc] at h
 rw [meets_off hb]
 have a3:=hs.z0; have a6:=hs.z1
 exact ⟨by omega,fun ho=>h.2 (off_sub hb hc hs ho)⟩
theorem flw_sub (h0:sbErr s b=0)(hc:sbErr s c=0)(hs:Sub c b){x:ByteArray}(h:x∈flawsR s c):x∈flawsR s b:=by
 rw [mem_flawsR hc] at h
 rw [mem_flawsR h0]
 obtain ⟨f,h1,h2,h3⟩:=h
 exact ⟨f,h1,fHit_sub (boxed_ok (sb_ok h0).2).1 (boxed_ok (sb_ok hc).2).1 hs h2,h3⟩
theorem fHit_half (hb:b.ok=true)(h1:plo b ax < at_)(h2:at_ < phi b ax){f:Flaw}(hlt:f.lo < f.hi)(hcv:Cvx f.base)(h:fHit b f=true):fHit (lf b ax at_) f=true∨fHit (rg b ax at_) f=true:=by
 have hL:=lf_ok hb h1
 have hR:=rg_ok hb h2
 unfold fHit at h ⊢
 rw [meets_off hb] at h
 rw [meets_off hL,meets_off hR]
 obtain ⟨⟨z1,z2⟩,hno⟩:=h
 have key:∀ (P Q A B:Prop),P→Q→(¬ (A∧B))→(P∧¬ A)∨(Q∧¬ B):=by
   intro P Q A B hp hq hn
   by_cases ha:A
   · exact .inr ⟨hq,fun hb=>hn ⟨ha,hb⟩⟩
   · exact .inl ⟨hp,ha⟩
 unfold plo at h1; unfold phi at h2; unfold lf rg
 split
 · rename_i h; simp only [h,if_true] at h1 h2
   exact key _ _ _ _ ⟨z1,z2⟩ ⟨z1,z2⟩ fun ⟨a,c⟩=>hno (halves hcv h1 h2 a c)
 · rename_i h
   split
   · rename_i h'; simp only [h',if_true,if_false,show ¬ (1:Int)=0 by decide] at h1 h2
     exact key _ _ _ _ ⟨z1,z2⟩ ⟨z1,z2⟩ fun ⟨a,c⟩=>hno (halves_y hcv h1 h2 a c)
   · rename_i h'; simp only [h,h',if_false] at h1 h2
     by_cases hz:f.lo < at_
     · exact .inl ⟨⟨hz,z2⟩,hno⟩
     · exact .inr ⟨⟨z1,by simp only; omega⟩,hno⟩
theorem names_nodup (h:SurveyOk s):s.names.Nodup:=by
 have hd:=h.dis
 simp only [disordered,Bool.or_eq_false_iff,decide_eq_false_iff_not,ne_eq,Classical.not_not] at hd
 have h1:=(dd_nodup _ (sortB_sorted s.names)).1 (by rw [hd.2.2.2,(sortB_perm _).length_eq])
 exact (sortB_perm s.names).nodup_iff.1 h1
theorem inj_of_nodup {α β:Type}(f:α→β):∀ {l:List α},(l.map f).Nodup→∀ a∈l,∀ b∈l,f a=f b→a=b
 | [],_,a,ha,_,_,_=>by cases ha
 | x :: r,h,a,ha,b,hb,e=>by
   rw [List.map_cons,List.nodup_cons] at h
   rcases List.mem_cons.1 ha with rfl | ha'<;>rcases List.mem_cons.1 hb with rfl | hb'
   · rfl
   · exact absurd (e ▸ List.mem_map.2 ⟨b,hb',rfl⟩) h.1
   · exact absurd (e.symm ▸ List.mem_map.2 ⟨a,ha',rfl⟩) h.1
   · exact inj_of_nodup f h.2 a ha' b hb' e
theorem names_parts (h:SurveyOk s):(s.beds.map (·.name)).Nodup∧(s.joints.map (·.name)).Nodup∧∀ d∈s.beds,∀ j∈s.joints,d.name≠j.name:=by
 have hn:=names_nodup h
 unfold Survey.names at hn
 simp only [List.nodup_append,List.mem_append,List.mem_map] at hn
 refine ⟨?_,?_,?_⟩
 · first | exact hn.1.1 | exact hn.1
 · first | exact hn.1.2.1 | exact hn.2.1.1 | exact hn.2.1
 · intro d hd j hj e
   first
     | exact hn.1.2.2 _ ⟨d,hd,rfl⟩ _ ⟨j,hj,rfl⟩ e
     | exact hn.2.2 _ ⟨d,hd,rfl⟩ _ (.inl ⟨j,hj,rfl⟩) e
theorem no_joint (h0:sbErr s c=0){j:Joint}(hj:j∈s.joints)(hn:jtHit c j=false):j.name∉thrR s c:=by
 obtain ⟨n1,n2,n3⟩:=names_parts (sb_ok h0).1
 rw [mem_thrR h0]
 rintro (⟨d,h1,h2,h3⟩ | ⟨k,h1,h2,h3⟩)
 · exact n3 d h1 j hj h3
 · have:=inj_of_nodup (·.name) n2 k h1 j hj h3
   subst this
   rw [hn] at h2; cases h2
theorem no_bed (h0:sbErr s c=0){d:Bed}(hd:d∈s.beds)(hn:bHit c d=false):d.name∉thrR s c:=by
 obtain ⟨n1,n2,n3⟩:=names_parts (sb_ok h0).1
 rw [mem_thrR h0]
 rintro (⟨k,h1,h2,h3⟩ | ⟨j,h1,h2,h3⟩)
 · have:=inj_of_nodup (·.name) n1 k h1 d hd h3
   subst this
   rw [hn] at h2; cases h2
 · exact n3 d hd j h1 h3.symm
theorem joint_axis (h:SurveyOk s){j:Joint}(hj:j∈s.joints):j.axis=0∨j.axis=1:=by
 have:=List.any_eq_false.1 h.jb j hj
 simp only [jbad,Bool.or_eq_true,Bool.and_eq_true,Bool.not_eq_true',decide_eq_false_iff_not,decide_eq_true_eq,not_or,not_and,Classical.not_not] at this
 by_cases h0:j.axis=0
 · exact .inl h0
 · exact .inr (this.1 h0)
theorem joint_lf {j:Joint}(ha:j.axis=0∨j.axis=1)(h1:j.axis=ax)(h2:j.at_=at_):jtHit (lf b ax at_) j=false∧jtHit (rg b ax at_) j=false:=by
 subst h1; subst h2
 unfold jtHit lf rg Box.lo Box.hi
 rcases ha with ha | ha<;>simp [ha]
theorem bed_lf {d:Bed}(h0:ax≠0)(h1:ax≠1)(h2:d.z=at_):bHit (lf b ax at_) d=false∧bHit (rg b ax at_) d=false:=by
 subst h2
 unfold bHit lf rg
 simp [h0,h1]
end
end Tz
