/- part S148; part S149; no conditions. -/
import Derived.Test.YtogfagkjndoefaaGreatP11
import Derived.Test.YtogfagkjndoefaaGreatP1toP3
import Derived.Test.YtogfagkjndoefaaGreatS0A
set_option linter.all false
set_option maxHeartbeats 2000000
set_option maxRecDepth 100000
set_option maxRecDepth 100000
open Gs Go
namespace Tz
theorem polyErr_len {p:List Pt}(h:polyErr p=0):3≤p.length∧p.length≤64:=by
 unfold polyErr at h
 split at h
 · cases h
 · split at h
   · cases h
   · omega
theorem flawsOk_of {s:Survey}{b:Box}(h:SurveyOk s)(hb:boxedErr s b=0):FlawsOk s b:=by
 obtain ⟨h1,h2⟩:=boxed_ok hb
 have h6:=six_in h.far
 simp only [Box.six,List.mem_cons,List.not_mem_nil,or_false,forall_eq_or_imp,forall_eq] at h6
 refine ⟨fun f hf=>?_,?_,h1⟩
 · have hp:=h.pe f hf
   obtain ⟨n3,n64⟩:=polyErr_len hp
   have ho:=h.out
   simp only [outB,Bool.or_eq_false_iff] at ho
   have h3:=List.any_eq_false.1 ho.2.2 f hf
   simp only [flawOut,Bool.or_eq_true,Bool.not_eq_true',Bool.and_eq_false_iff,not_or,Bool.not_eq_false] at h3
   have h4:=h3.1.1
   have h5:=h3.1.2
   simp only [inR,Bool.and_eq_true,decide_eq_true_eq] at h4 h5
   have h7:=List.any_eq_false.1 h.fb f hf
   simp only [fbad,decide_eq_true_eq] at h7
   have h8:=List.any_eq_false.1 h.cv f hf
   simp only [Bool.not_eq_true',Bool.not_eq_false] at h8
   exact ⟨n3,n64,polyErr_in hp,by omega,by omega,by omega,gconv_of n3 (polyErr_in hp) h8⟩
 · simp only [outOf,Bool.or_eq_false_iff,decide_eq_false_iff_not] at h2
   simp only [Box.ok,Bool.and_eq_true,decide_eq_true_eq] at h1
   rw [List.any_eq_false]
   intro n hn
   simp only [Box.six,List.mem_cons,List.not_mem_nil,or_false] at hn
   rw [Bool.not_eq_true]
   apply far6_in<;>omega
theorem e_flaws' (s:Survey)(hF:s.Fit)(b:Box):L.call 69 [s.enc,b.enc] []=some (.tup [.fz true 1 ((flawsR s b).map .str),int (sbErr s b)],[]):=
 e_flaws s hF b fun h0=>by
   unfold sbErr at h0
   cases h1:decide (surveyErr s=0) with
   | false=>rw [h1] at h0; exact absurd h0 (of_decide_eq_false h1)
   | true=>rw [h1] at h0; exact flawsOk_of (survey_ok (of_decide_eq_true h1)) h0
theorem sb_ok {s:Survey}{b:Box}(h:sbErr s b=0):SurveyOk s∧boxedErr s b=0:=by
 unfold sbErr at h
 cases h1:decide (surveyErr s=0) with
 | false=>rw [h1] at h; exact absurd h (of_decide_eq_false h1)
 | true=>rw [h1] at h; exact ⟨survey_ok (of_decide_eq_true h1),h⟩
end Tz
set_option maxRecDepth 100000
open Gs Go
namespace Tz
def sizeOver (s:Survey):Bool:=decide (70 < (s.beds.length:Int)) || decide (140 < (s.joints.length:Int)) || decide (70 < (s.flaws.length:Int))
theorem e_small_over (s:Survey)(h:sizeOver s=true):L.call 33 [s.enc] []=some (.bool false,[]):=
 call_eq rfl rfl (by
   have h':=h
   simp only [sizeOver] at h'
   simp only [↓eA,eB,seval,c33,h']
   skip)
theorem small_fit {s:Survey}(h0:sizeOver s=false)(h:smallB s=true):s.Fit:=by
 simp only [sizeOver,Bool.or_eq_false_iff,decide_eq_false_iff_not] at h0
 unfold smallB at h
 simp only [Bool.and_eq_true,Bool.not_eq_true'] at h
 obtain ⟨_,h1,h2⟩:=h
 refine ⟨⟨by omega,by omega,by omega⟩,fun f hf=>?_,fun n hn=>?_⟩
 · have:=List.any_eq_false.1 h1 f hf
   simp only [smallF,decide_eq_true_eq] at this
   omega
 · have:=List.any_eq_false.1 h2 n hn
   simp only [decide_eq_true_eq] at this
   omega
end Tz
