/- part S148; part S149; no conditions. -/
import Derived.Test.YtbdcbppmgbekoaaGreatP11
import Derived.Test.YtbdcbppmgbekoaaGreatP1toP3
import Derived.Test.YtbdcbppmgbekoaaGreatS0A
set_option linter.all false
set_option maxHeartbeats 2000000
set_option maxRecDepth 100000
set_option maxRecDepth 100000
open Gs Go
namespace Tz
theorem e_awake:L.call 6 [] []=some (.bool true,[]):=lim_call.2 ⟨100,aw_run⟩
theorem polyErr_len {p:List Pt}(h:polyErr p=0):3≤p.length∧p.length≤64:=by
 unfold polyErr at h
 split at h
 · cases h
 · split at h
   · cases h
   · omega
theorem flawsOk_of {s:Survey}{b:Box}(h:SurveyOk s)(hb:boxedErr s b=0):FlawsOk s b:=by
 obtain ⟨h1,h2⟩:=boxed_ok hb
 have h6:=six_in h.far
 simp only [Box.six,List.mem_cons,List.not_mem_nil,or_false,forall_eq_or_imp,forall_eq] at h6
 refine ⟨fun f hf=>?_,?_,h1⟩
 · have hp:=h.pe f hf
   obtain ⟨n3,n64⟩:=polyErr_len hp
   have ho:=h.out
   simp only [outB,Bool.or_eq_false_iff] at ho
   have h3:=List.any_eq_false.1 ho.2.2 f hf
   simp only [flawOut,Bool.or_eq_true,Bool.not_eq_true',Bool.and_eq_false_iff,not_or,Bool.not_eq_false] at h3
   have h4:=h3.1.1
   have h5:=h3.1.2
   simp only [inR,Bool.and_eq_true,decide_eq_true_eq] at h4 h5
   have h7:=List.any_eq_false.1 h.fb f hf
   simp only [fbad,decide_eq_true_eq] at h7
   have h8:=List.any_eq_false.1 h.cv f hf
   simp only [Bool.not_eq_true',Bool.not_eq_false] at h8
   exact ⟨n3,n64,polyErr_in hp,by omega,by omega,by omega,gconv_of n3 (polyErr_in hp) h8⟩
 · simp only [outOf,Bool.or_eq_false_iff,decide_eq_false_iff_not] at h2
   simp only [Box.ok,Bool.and_eq_true,decide_eq_true_eq] at h1
   rw [List.any_eq_false]
   intro n hn
   simp only [Box.six,List.mem_cons,List.not_mem_nil,or_false] at hn
   rw [Bool.not_eq_true]
   apply far6_in<;>omega
theorem e_flaws' (s:Survey)(hF:s.Fit)(b:Box):L.call 16 [s.enc,b.enc] []=some (.tup [.fz true 1 ((flawsR s b).map .str),int (sbErr s b)],[]):=
 e_flaws s hF b fun h0=>by
   unfold sbErr at h0
   cases h1:decide (surveyErr s=0) with
   | false=>rw [h1] at h0; exact absurd h0 (of_decide_eq_false h1)
   | true=>rw [h1] at h0; exact flawsOk_of (survey_ok (of_decide_eq_true h1)) h0
theorem steps_sorted {α:Type}(nm:α→ByteArray)(l:List α)(h:steps l (fun x y=>!slt (nm x) (nm y))=false):SortedB (l.map nm):=by
 have hc:∀ i,i + 1 < l.length→∀ a b,l[i]?=some a→l[i + 1]?=some b→slt (nm a) (nm b)=true:=by
   intro i hi a b ha hb
   have h1:=List.any_eq_false.1 h (i + 1) (List.mem_range'.2 ⟨i,by omega,by omega⟩)
   simp only [badIx,Nat.add_sub_cancel,ha,hb,Bool.not_eq_true',Bool.not_eq_false] at h1
   exact h1
 have hk:∀ d i a b,l[i]?=some a→l[i + 1 + d]?=some b→slt (nm a) (nm b)=true:=by
   intro d
   induction d with
   | zero=>
     intro i a b ha hb
     have hlt:=(List.getElem?_eq_some_iff.1 hb).1
     exact hc i (by omega) a b ha hb
   | succ d ih=>
     intro i a b ha hb
     have hlt:=(List.getElem?_eq_some_iff.1 hb).1
     obtain ⟨c,hcm⟩:∃ c,l[i + 1 + d]?=some c:=⟨_,List.getElem?_eq_getElem (by omega)⟩
     exact slt_trans (ih i a c ha hcm) (hc (i + 1 + d) (by omega) c b hcm (by rw [←hb]; congr 1))
 unfold SortedB
 rw [List.pairwise_map,List.pairwise_iff_getElem]
 intro i j hi hj hij
 obtain ⟨d,rfl⟩:∃ d,j=i + 1 + d:=⟨j - i - 1,by omega⟩
 exact slt_asymm (hk d i _ _ (List.getElem?_eq_getElem hi) (List.getElem?_eq_getElem hj))
theorem filter_sorted {α:Type}(nm:α→ByteArray)(hit:α→Bool){l:List α}(h:SortedB (l.map nm)):SortedB ((l.filter hit).map nm):=by
 unfold SortedB at *
 rw [List.pairwise_map] at *
 exact h.sublist List.filter_sublist
theorem flw_eq {s:Survey}{b:Box}(h:SurveyOk s)(hb:boxedErr s b=0):(s.flaws.filter (fHit b)).map (·.name)=rFlw s b:=by
 have hd:=h.dis
 simp only [disordered,Bool.or_eq_false_iff] at hd
 have hs:=steps_sorted (·.name) s.flaws hd.2.2.1
 have h2:=inStep_all (rOver b) (·.name) s.flaws [] List.Pairwise.nil
 have hh:s.flaws.filter (rOver b)=s.flaws.filter (fHit b):=List.filter_congr fun f hf=>
   over_hit (flawsOk_of h hb).ok f (by have:=((flawsOk_of h hb).pr f hf).n3; omega)
 rw [hh] at h2
 exact sortedB_unique (h2.2.trans (by simp)).symm (filter_sorted _ _ hs) h2.1
theorem thr_eq (s:Survey)(b:Box)(hj:s.joints.any jbad=false):sortB (thrL s b)=rThr s b:=by
 have h1:=inStep_all (bHit b) (·.name) s.beds [] List.Pairwise.nil
 have h2:=inStep_all (rjHit b) (·.name) s.joints _ h1.1
 have hjj:s.joints.filter (rjHit b)=s.joints.filter (jtHit b):=List.filter_congr fun j hj'=>by
   have:=List.any_eq_false.1 hj j hj'
   simp only [jbad,Bool.or_eq_true,Bool.and_eq_true,Bool.not_eq_true',decide_eq_false_iff_not,decide_eq_true_eq,not_or,not_and,Classical.not_not] at this
   have ha:j.axis=0∨j.axis=1:=by
     by_cases h0:j.axis=0
     · exact .inl h0
     · exact .inr (this.1 h0)
   unfold rjHit jtHit rcd Box.lo Box.hi
   rcases ha with ha | ha<;>simp [ha]
 refine sortedB_unique ((sortB_perm _).trans ?_) (sortB_sorted _) h2.1
 unfold thrL
 rw [hjj] at h2
 exact ((h1.2.append_right _).symm.trans h2.2.symm |> fun h=>by simpa [rThr] using h)
theorem sb_eq (s:Survey)(b:Box):rBoxed s b=sbErr s b:=by
 rw [boxed_eq]; unfold sbErr; cases decide (surveyErr s=0)<;>rfl
theorem sb_ok {s:Survey}{b:Box}(h:sbErr s b=0):SurveyOk s∧boxedErr s b=0:=by
 unfold sbErr at h
 cases h1:decide (surveyErr s=0) with
 | false=>rw [h1] at h; exact absurd h (of_decide_eq_false h1)
 | true=>rw [h1] at h; exact ⟨survey_ok (of_decide_eq_true h1),h⟩
theorem rThr_len (s:Survey)(hF:s.Fit0)(b:Box)(hj:s.joints.any jbad=false):(rThr s b).length < 4000000000:=by
 rw [←thr_eq s b hj,(sortB_perm _).length_eq]
 have:=thrL_len s b; have:=hF.bl; have:=hF.jl; omega
theorem e_concerns (s:Survey)(hF:s.Fit)(b:Box)(z:Int):L.call 4 [s.enc,b.enc,int z] []=some (.bool true,[]):=by
 have e1:=e_awake
 have e2:=e_small s hF.toFit0
 cases hsm:smallB s with
 | false=>rw [hsm] at e2; exact call_eq rfl rfl (by simp only [↓eA,eB,seval,c4,e1,e2])
 | true=>
 rw [hsm] at e2
 have e3:=e_through s hF b
 have e4:=e_flaws' s hF b
 have e5:=e_bedded s hF.toFit0 z
 have e6:=e_rBedded s hF.bl z
 have e7:=e_rBoxed s hF b
 rw [sb_eq] at e7
 cases hc:decide (sbErr s b=0) with
 | false=>
   have t1:thrR s b=[]:=by unfold thrR; rw [hc]; rfl
   have t2:flawsR s b=[]:=by unfold flawsR; rw [hc]; rfl
   rw [t1] at e3; rw [t2] at e4
   cases hz:(s.beds.any fun b=>decide (b.z=z))<;>rw [hz] at e5 e6 <;>
   exact call_eq rfl rfl (by simp only [↓eA,eB,seval,c4,e1,e2,e3,e4,e5,e6,e7,hc]; rfl)
 | true=>
   have h0:=of_decide_eq_true hc
   obtain ⟨hok,hb0⟩:=sb_ok h0
   have hfo:=flawsOk_of hok hb0
   have t1:thrR s b=rThr s b:=by unfold thrR; rw [hc]; exact thr_eq s b hok.jb
   have t2:flawsR s b=rFlw s b:=by unfold flawsR; rw [hc]; exact flw_eq hok hb0
   rw [t1,h0] at e3; rw [t2,h0] at e4; rw [h0] at e7
   have e8:=e_rThrough s hF.toFit0 b
   have e9:=e_rFlaws s hF.toFit0 b (rect_in hfo.six) fun f hf=>⟨by have:=(hfo.pr f hf).n3; omega,by have:=(hfo.pr f hf).n64; omega,(hfo.pr f hf).all⟩
   have l1:=rThr_len s hF.toFit0 b hok.jb
   have l2:(rFlw s b).length < 1000000000:=by
     rw [←flw_eq hok hb0,List.length_map]
     have:=List.length_filter_le (fHit b) s.flaws; have:=hF.fl; omega
   have e10:=e_ssame true false (rThr s b) l1
   have e11:=e_ssame true false (rFlw s b) (by omega)
   cases hz:(s.beds.any fun b=>decide (b.z=z))<;>rw [hz] at e5 e6 <;>
   exact call_eq rfl rfl (by simp only [↓eA,eB,seval,c4,e1,e2,e3,e4,e5,e6,e7,e8,e9,e10,e11]; rfl)
end Tz
set_option maxRecDepth 100000
open Gs Go
namespace Tz
def sizeOver (s:Survey):Bool:=decide (70 < (s.beds.length:Int)) || decide (140 < (s.joints.length:Int)) || decide (70 < (s.flaws.length:Int))
theorem e_small_over (s:Survey)(h:sizeOver s=true):L.call 7 [s.enc] []=some (.bool false,[]):=
 call_eq rfl rfl (by
   have h':=h
   simp only [sizeOver] at h'
   simp only [↓eA,eB,seval,c7,h']
   skip)
theorem small_fit {s:Survey}(h0:sizeOver s=false)(h:smallB s=true):s.Fit:=by
 simp only [sizeOver,Bool.or_eq_false_iff,decide_eq_false_iff_not] at h0
 unfold smallB at h
 simp only [Bool.and_eq_true,Bool.not_eq_true'] at h
 obtain ⟨_,h1,h2⟩:=h
 refine ⟨⟨by omega,by omega,by omega⟩,fun f hf=>?_,fun n hn=>?_⟩
 · have:=List.any_eq_false.1 h1 f hf
   simp only [smallF,decide_eq_true_eq] at this
   omega
 · have:=List.any_eq_false.1 h2 n hn
   simp only [decide_eq_true_eq] at this
   omega
theorem e_concerns_out (s:Survey)(b:Box)(d:Int)(e2:L.call 7 [s.enc] []=some (.bool false,[])):L.call 4 [s.enc,b.enc,int d] []=some (.bool true,[]):=by
 have e1:=e_awake
 exact call_eq rfl rfl (by simp only [↓eA,eB,seval,c4,e1,e2])
theorem e_concerns_all (s:Survey)(b:Box)(d:Int):L.call 4 [s.enc,b.enc,int d] []=some (.bool true,[]):=by
 cases h0:sizeOver s with
 | true=>exact e_concerns_out s b d (e_small_over s h0)
 | false=>
   cases hs:smallB s with
   | true=>exact e_concerns s (small_fit h0 hs) b d
   | false=>
     have h1:=h0
     simp only [sizeOver,Bool.or_eq_false_iff,decide_eq_false_iff_not] at h1
     have e2:=e_small s ⟨by omega,by omega,by omega⟩
     rw [hs] at e2
     exact e_concerns_out s b d e2
end Tz
