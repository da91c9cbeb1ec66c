/- part S152; part S153; no conditions. -/
import Derived.Test.YtbdcbppmgbekoaaGreatS148toS151
import Derived.Test.YtbdcbppmgbekoaaGreatP12
set_option linter.all false
set_option maxHeartbeats 4000000
set_option maxRecDepth 100000
set_option maxRecDepth 100000
open Gs Go
namespace Tz
structure PartOk (s:Survey) (b l r:Box) (ax at_:Int):Prop where
 hl:sbErr s l=0
 hr:sbErr s r=0
 al:∀ x∈thrR s l ++ thrR s r,hasB (thrR s b) x=true
 bo:∀ x∈flawsR s l ++ flawsR s r,hasB (flawsR s b) x=true
 fl:∀ x∈flawsR s b,hasB (flawsR s l ++ flawsR s r) x=true
 jn:s.joints.any (jPl ax at_ (thrR s l ++ thrR s r))=false
 bd:s.beds.any (bPl ax at_ (thrR s l ++ thrR s r))=false
theorem part_ok {s:Survey}{b:Box}{ax at_:Int}(h0:sbErr s b=0)(h1:plo b ax < at_)(h2:at_ < phi b ax):PartOk s b (lf b ax at_) (rg b ax at_) ax at_:=by
 obtain ⟨hok,hb0⟩:=sb_ok h0
 have hb:=(boxed_ok hb0).1
 have sl:=lf_sub h1 h2
 have sr:=rg_sub h1 h2
 have hl:=sub_err h0 (lf_ok hb h1) sl
 have hr:=sub_err h0 (rg_ok hb h2) sr
 refine ⟨hl,hr,fun x hx=>?_,fun x hx=>?_,fun x hx=>?_,?_,?_⟩
 · rw [hasB_iff]
   rcases List.mem_append.1 hx with h | h
   · exact thr_sub h0 hl sl h
   · exact thr_sub h0 hr sr h
 · rw [hasB_iff]
   rcases List.mem_append.1 hx with h | h
   · exact flw_sub h0 hl sl h
   · exact flw_sub h0 hr sr h
 · rw [hasB_iff,List.mem_append,mem_flawsR hl,mem_flawsR hr]
   obtain ⟨f,hf,hh,hn⟩:=(mem_flawsR h0).1 hx
   have hp:=(flawsOk_of hok hb0).pr f hf
   have hcv:convex f.base=true:=by
     have h8:=List.any_eq_false.1 hok.cv f hf
     simpa using h8
   rcases fHit_half hb h1 h2 hp.lt (cvx_of hp.n3 hp.all hcv) hh with h | h
   · exact .inl ⟨f,hf,h,hn⟩
   · exact .inr ⟨f,hf,h,hn⟩
 · rw [List.any_eq_false]
   intro j hj hh
   simp only [jPl,Bool.and_eq_true,decide_eq_true_eq] at hh
   obtain ⟨g1,g2⟩:=joint_lf (b:=b) (joint_axis hok hj) hh.1.1 hh.1.2
   rcases List.mem_append.1 (hasB_iff.1 hh.2) with h | h
   · exact no_joint hl hj g1 h
   · exact no_joint hr hj g2 h
 · rw [List.any_eq_false]
   intro d hd hh
   simp only [bPl,Bool.and_eq_true,Bool.not_eq_true',decide_eq_false_iff_not,decide_eq_true_eq] at hh
   obtain ⟨g1,g2⟩:=bed_lf (b:=b) hh.1.1.1 hh.1.1.2 hh.1.2
   rcases List.mem_append.1 (hasB_iff.1 hh.2) with h | h
   · exact no_bed hl hd g1 h
   · exact no_bed hr hd g2 h
theorem thrR_len (s:Survey)(hF:s.Fit0)(b:Box):(thrR s b).length < 2000000000:=by
 unfold thrR
 cases decide (sbErr s b=0)
 · exact Nat.zero_lt_succ _
 · have:=thrL_len s b; have:=hF.bl; have:=hF.jl
   rw [cond_true,(sortB_perm _).length_eq]; omega
theorem flawsR_len (s:Survey)(hF:s.Fit0)(b:Box):(flawsR s b).length < 1000000000:=by
 unfold flawsR
 cases decide (sbErr s b=0)
 · exact Nat.zero_lt_succ _
 · have:=List.length_filter_le (fHit b) s.flaws; have:=hF.fl
   rw [cond_true,List.length_map]; omega
theorem through_ok (s:Survey)(hF:s.Fit)(b:Box)(h:sbErr s b=0):L.call 15 [s.enc,b.enc] []=some (.tup [F1 (thrR s b),int 0],[]):=by
 have:=e_through s hF b; rwa [h] at this
theorem flaws_ok (s:Survey)(hF:s.Fit)(b:Box)(h:sbErr s b=0):L.call 16 [s.enc,b.enc] []=some (.tup [F1 (flawsR s b),int 0],[]):=by
 have:=e_flaws' s hF b; rwa [h] at this
theorem e_parts_x (s:Survey)(hF:s.Fit)(b:Box)(ax at_:Int)(ha:ax=0)(hsm:smallB s=true)(h0:sbErr s b=0):L.call 5 [s.enc,b.enc,int ax,int at_] []=some (.bool true,[]):=by
 have e1:=e_awake
 have e2:=e_small s hF.toFit0
 rw [hsm] at e2
 have e3:=through_ok s hF b h0
 have e4:=flaws_ok s hF b h0
 have hlo:plo b ax=b.x0:=by unfold plo; simp [ha]
 have hhi:phi b ax=b.x1:=by unfold phi; simp [ha]
 have hl:lf b ax at_=(⟨b.x0,b.y0,b.z0,at_,b.y1,b.z1⟩:Box):=by unfold lf; simp [ha]
 have hr:rg b ax at_=(⟨at_,b.y0,b.z0,b.x1,b.y1,b.z1⟩:Box):=by unfold rg; simp [ha]
 have d0:decide (ax=0)=true:=decide_eq_true ha
 cases g1:decide (at_≤b.x0) with
 | true=>exact call_eq rfl rfl (by simp only [↓eA,eB,seval,c5,e1,e2,e3,e4,d0,g1])
 | false=>
 cases g2:decide (b.x1≤at_) with
 | true=>exact call_eq rfl rfl (by simp only [↓eA,eB,seval,c5,e1,e2,e3,e4,d0,g1,g2])
 | false=>
 have hp:PartOk s b (⟨b.x0,b.y0,b.z0,at_,b.y1,b.z1⟩:Box) (⟨at_,b.y0,b.z0,b.x1,b.y1,b.z1⟩:Box) ax at_:=by
   rw [←hl,←hr]
   have k1:=of_decide_eq_false g1
   have k2:=of_decide_eq_false g2
   exact part_ok h0 (by rw [hlo]; omega) (by rw [hhi]; omega)
 have e5:=through_ok s hF _ hp.hl
 have e6:=through_ok s hF _ hp.hr
 have e7:=flaws_ok s hF _ hp.hl
 have e8:=flaws_ok s hF _ hp.hr
 have l1:=thrR_len s hF.toFit0 b
 have l2:=thrR_len s hF.toFit0 (⟨b.x0,b.y0,b.z0,at_,b.y1,b.z1⟩:Box)
 have l3:=thrR_len s hF.toFit0 (⟨at_,b.y0,b.z0,b.x1,b.y1,b.z1⟩:Box)
 have l4:=flawsR_len s hF.toFit0 b
 have l5:=flawsR_len s hF.toFit0 (⟨b.x0,b.y0,b.z0,at_,b.y1,b.z1⟩:Box)
 have l6:=flawsR_len s hF.toFit0 (⟨at_,b.y0,b.z0,b.x1,b.y1,b.z1⟩:Box)
 obtain ⟨-,-,pal,pbo,pfl,pjn,pbd⟩:=hp
 generalize thrR s b=th at *
 generalize thrR s (⟨b.x0,b.y0,b.z0,at_,b.y1,b.z1⟩:Box)=p at *
 generalize thrR s (⟨at_,b.y0,b.z0,b.x1,b.y1,b.z1⟩:Box)=q at *
 generalize flawsR s b=fl at *
 generalize flawsR s (⟨b.x0,b.y0,b.z0,at_,b.y1,b.z1⟩:Box)=u at *
 generalize flawsR s (⟨at_,b.y0,b.z0,b.x1,b.y1,b.z1⟩:Box)=v at *
 have hm:∀ a c:List ByteArray,List.map D.str a ++ List.map D.str c=List.map D.str (a ++ c):=fun a c=>(List.map_append ..).symm
 have f1:fits (0 + p.length) 16=true:=fits_of (by omega)
 have f2:fits (p.length + q.length) 16=true:=fits_of (by omega)
 have f3:fits (0 + u.length) 16=true:=fits_of (by omega)
 have f4:fits (u.length + v.length) 16=true:=fits_of (by omega)
 exact call_eq rfl rfl (by
   simp (maxSteps:=10000000) only [↓eA,eB,seval,c5,e1,e2,e3,e4,d0,g1,g2,e5,e6,e7,e8,f1,f2,List.length_map,List.nil_append,hm]
   generalize hE:(lim T).loop 5036 _ _=R
   obtain ⟨X,e',H',rfl,rfl,k2,k3,k4,k11,k19,k21,k23,rfl⟩:=Ends.at hE (lp_pa s th fl u v (p ++ q) ax at_ (by simp; omega) (by omega) pal _ _ rfl rfl rfl rfl rfl rfl rfl rfl rfl rfl rfl rfl rfl)
   simp (maxSteps:=10000000) only [↓eA,eB,seval,k2,k3,k4,k11,k19,k21,k23,f3,f4,List.length_map,List.nil_append,hm,get_wipeB,get_killE,killD]
   generalize hE:(lim T).loop 5042 _ _=R
   obtain ⟨X,e',H',rfl,rfl,k2,k3,k4,k11,k23,k25,rfl⟩:=Ends.at hE (lp_pbo s fl (p ++ q) (u ++ v) ax at_ (by simp; omega) (by omega) pbo _ _ (by simp only [↓eA,eB,seval,k2,get_wipeB,get_killE,killD]) (by simp only [↓eA,eB,seval,k3,get_wipeB,get_killE,killD]) (by simp only [↓eA,eB,seval,k4,get_wipeB,get_killE,killD]) (by simp only [↓eA,eB,seval,k11,get_wipeB,get_killE,killD]) (by simp only [↓eA,eB,seval,k23,get_wipeB,get_killE,killD]) (by simp only [↓eA,eB,seval,get_wipeB,get_killE,killD]) (by simp only [↓eA,eB,seval,get_wipeB,get_killE,killD]) rfl rfl rfl rfl rfl rfl rfl)
   simp (maxSteps:=10000000) only [↓eA,eB,seval,k2,k3,k4,k11,k23,k25]
   generalize hE:(lim T).loop 5047 _ _=R
   obtain ⟨X,e',H',rfl,rfl,k2,k3,k4,k23,f,rfl⟩:=Ends.at hE (lp_pfl s fl (p ++ q) (u ++ v) ax at_ (by omega) (by simp; omega) pfl _ _ (by simp only [↓eA,eB,seval,k2]) (by simp only [↓eA,eB,seval,k3]) (by simp only [↓eA,eB,seval,k4]) (by simp only [↓eA,eB,seval,k11]) (by simp only [↓eA,eB,seval,k23]) (by simp only [↓eA,eB,seval,k25]) (by simp only [↓eA,eB,seval]) rfl rfl rfl rfl rfl rfl rfl)
   simp (maxSteps:=10000000) only [↓eA,eB,seval,k2,k3,k4,k23]
   generalize hE:(lim T).loop 5052 _ _=R
   obtain ⟨X,e',H',rfl,rfl,k2,k3,k4,k23,f,rfl⟩:=Ends.at hE (lp_pj2 s hF.toFit0 (p ++ q) ax at_ (by simp; omega) pjn _ _ (by simp only [↓eA,eB,seval,k2]) (by simp only [↓eA,eB,seval,k3]) (by simp only [↓eA,eB,seval,k4]) (by simp only [↓eA,eB,seval,k23]) (by simp only [↓eA,eB,seval]) rfl rfl rfl rfl)
   simp (maxSteps:=10000000) only [↓eA,eB,seval,k2,k3,k4]
   generalize hE:(lim T).loop 5057 _ _=R
   obtain ⟨X,e',H',rfl,rfl⟩:=Ends.at hE (lp_pb2 s hF.toFit0 (p ++ q) ax at_ (by simp; omega) pbd _ _ (by simp only [↓eA,eB,seval,k2]) (by simp only [↓eA,eB,seval,k3]) (by simp only [↓eA,eB,seval,k4]) (k23.elim (fun k=>.inl (by simp only [↓eA,eB,seval,k])) fun k=>.inr (by simp only [↓eA,eB,seval,k])) (by simp only [↓eA,eB,seval]) rfl ⟨f,rfl⟩ rfl rfl)
   simp (maxSteps:=10000000) only [↓eA,eB,seval])
theorem e_parts_y (s:Survey)(hF:s.Fit)(b:Box)(ax at_:Int)(ha:ax=1)(hsm:smallB s=true)(h0:sbErr s b=0):L.call 5 [s.enc,b.enc,int ax,int at_] []=some (.bool true,[]):=by
 have e1:=e_awake
 have e2:=e_small s hF.toFit0
 rw [hsm] at e2
 have e3:=through_ok s hF b h0
 have e4:=flaws_ok s hF b h0
 have hlo:plo b ax=b.y0:=by unfold plo; simp [ha]
 have hhi:phi b ax=b.y1:=by unfold phi; simp [ha]
 have hl:lf b ax at_=(⟨b.x0,b.y0,b.z0,b.x1,at_,b.z1⟩:Box):=by unfold lf; simp [ha]
 have hr:rg b ax at_=(⟨b.x0,at_,b.z0,b.x1,b.y1,b.z1⟩:Box):=by unfold rg; simp [ha]
 have d0:decide (ax=0)=false:=by rw [ha]; rfl
 have d1:decide (ax=1)=true:=decide_eq_true ha
 cases g1:decide (at_≤b.y0) with
 | true=>exact call_eq rfl rfl (by simp only [↓eA,eB,seval,c5,e1,e2,e3,e4,d0,d1,g1])
 | false=>
 cases g2:decide (b.y1≤at_) with
 | true=>exact call_eq rfl rfl (by simp only [↓eA,eB,seval,c5,e1,e2,e3,e4,d0,d1,g1,g2])
 | false=>
 have hp:PartOk s b (⟨b.x0,b.y0,b.z0,b.x1,at_,b.z1⟩:Box) (⟨b.x0,at_,b.z0,b.x1,b.y1,b.z1⟩:Box) ax at_:=by
   rw [←hl,←hr]
   have k1:=of_decide_eq_false g1
   have k2:=of_decide_eq_false g2
   exact part_ok h0 (by rw [hlo]; omega) (by rw [hhi]; omega)
 have e5:=through_ok s hF _ hp.hl
 have e6:=through_ok s hF _ hp.hr
 have e7:=flaws_ok s hF _ hp.hl
 have e8:=flaws_ok s hF _ hp.hr
 have l1:=thrR_len s hF.toFit0 b
 have l2:=thrR_len s hF.toFit0 (⟨b.x0,b.y0,b.z0,b.x1,at_,b.z1⟩:Box)
 have l3:=thrR_len s hF.toFit0 (⟨b.x0,at_,b.z0,b.x1,b.y1,b.z1⟩:Box)
 have l4:=flawsR_len s hF.toFit0 b
 have l5:=flawsR_len s hF.toFit0 (⟨b.x0,b.y0,b.z0,b.x1,at_,b.z1⟩:Box)
 have l6:=flawsR_len s hF.toFit0 (⟨b.x0,at_,b.z0,b.x1,b.y1,b.z1⟩:Box)
 obtain ⟨-,-,pal,pbo,pfl,pjn,pbd⟩:=hp
 generalize thrR s b=th at *
 generalize thrR s (⟨b.x0,b.y0,b.z0,b.x1,at_,b.z1⟩:Box)=p at *
 generalize thrR s (⟨b.x0,at_,b.z0,b.x1,b.y1,b.z1⟩:Box)=q at *
 generalize flawsR s b=fl at *
 generalize flawsR s (⟨b.x0,b.y0,b.z0,b.x1,at_,b.z1⟩:Box)=u at *
 generalize flawsR s (⟨b.x0,at_,b.z0,b.x1,b.y1,b.z1⟩:Box)=v at *
 have hm:∀ a c:List ByteArray,List.map D.str a ++ List.map D.str c=List.map D.str (a ++ c):=fun a c=>(List.map_append ..).symm
 have f1:fits (0 + p.length) 16=true:=fits_of (by omega)
 have f2:fits (p.length + q.length) 16=true:=fits_of (by omega)
 have f3:fits (0 + u.length) 16=true:=fits_of (by omega)
 have f4:fits (u.length + v.length) 16=true:=fits_of (by omega)
 exact call_eq rfl rfl (by
   simp (maxSteps:=10000000) only [↓eA,eB,seval,c5,e1,e2,e3,e4,d0,d1,g1,g2,e5,e6,e7,e8,f1,f2,List.length_map,List.nil_append,hm]
   generalize hE:(lim T).loop 5036 _ _=R
   obtain ⟨X,e',H',rfl,rfl,k2,k3,k4,k11,k19,k21,k23,rfl⟩:=Ends.at hE (lp_pa s th fl u v (p ++ q) ax at_ (by simp; omega) (by omega) pal _ _ rfl rfl rfl rfl rfl rfl rfl rfl rfl rfl rfl rfl rfl)
   simp (maxSteps:=10000000) only [↓eA,eB,seval,k2,k3,k4,k11,k19,k21,k23,f3,f4,List.length_map,List.nil_append,hm,get_wipeB,get_killE,killD]
   generalize hE:(lim T).loop 5042 _ _=R
   obtain ⟨X,e',H',rfl,rfl,k2,k3,k4,k11,k23,k25,rfl⟩:=Ends.at hE (lp_pbo s fl (p ++ q) (u ++ v) ax at_ (by simp; omega) (by omega) pbo _ _ (by simp only [↓eA,eB,seval,k2,get_wipeB,get_killE,killD]) (by simp only [↓eA,eB,seval,k3,get_wipeB,get_killE,killD]) (by simp only [↓eA,eB,seval,k4,get_wipeB,get_killE,killD]) (by simp only [↓eA,eB,seval,k11,get_wipeB,get_killE,killD]) (by simp only [↓eA,eB,seval,k23,get_wipeB,get_killE,killD]) (by simp only [↓eA,eB,seval,get_wipeB,get_killE,killD]) (by simp only [↓eA,eB,seval,get_wipeB,get_killE,killD]) rfl rfl rfl rfl rfl rfl rfl)
   simp (maxSteps:=10000000) only [↓eA,eB,seval,k2,k3,k4,k11,k23,k25]
   generalize hE:(lim T).loop 5047 _ _=R
   obtain ⟨X,e',H',rfl,rfl,k2,k3,k4,k23,f,rfl⟩:=Ends.at hE (lp_pfl s fl (p ++ q) (u ++ v) ax at_ (by omega) (by simp; omega) pfl _ _ (by simp only [↓eA,eB,seval,k2]) (by simp only [↓eA,eB,seval,k3]) (by simp only [↓eA,eB,seval,k4]) (by simp only [↓eA,eB,seval,k11]) (by simp only [↓eA,eB,seval,k23]) (by simp only [↓eA,eB,seval,k25]) (by simp only [↓eA,eB,seval]) rfl rfl rfl rfl rfl rfl rfl)
   simp (maxSteps:=10000000) only [↓eA,eB,seval,k2,k3,k4,k23]
   generalize hE:(lim T).loop 5052 _ _=R
   obtain ⟨X,e',H',rfl,rfl,k2,k3,k4,k23,f,rfl⟩:=Ends.at hE (lp_pj2 s hF.toFit0 (p ++ q) ax at_ (by simp; omega) pjn _ _ (by simp only [↓eA,eB,seval,k2]) (by simp only [↓eA,eB,seval,k3]) (by simp only [↓eA,eB,seval,k4]) (by simp only [↓eA,eB,seval,k23]) (by simp only [↓eA,eB,seval]) rfl rfl rfl rfl)
   simp (maxSteps:=10000000) only [↓eA,eB,seval,k2,k3,k4]
   generalize hE:(lim T).loop 5057 _ _=R
   obtain ⟨X,e',H',rfl,rfl⟩:=Ends.at hE (lp_pb2 s hF.toFit0 (p ++ q) ax at_ (by simp; omega) pbd _ _ (by simp only [↓eA,eB,seval,k2]) (by simp only [↓eA,eB,seval,k3]) (by simp only [↓eA,eB,seval,k4]) (k23.elim (fun k=>.inl (by simp only [↓eA,eB,seval,k])) fun k=>.inr (by simp only [↓eA,eB,seval,k])) (by simp only [↓eA,eB,seval]) rfl ⟨f,rfl⟩ rfl rfl)
   simp (maxSteps:=10000000) only [↓eA,eB,seval])
theorem e_parts_z (s:Survey)(hF:s.Fit)(b:Box)(ax at_:Int)(h0':ax≠0)(h1':ax≠1)(hsm:smallB s=true)(h0:sbErr s b=0):L.call 5 [s.enc,b.enc,int ax,int at_] []=some (.bool true,[]):=by
 have e1:=e_awake
 have e2:=e_small s hF.toFit0
 rw [hsm] at e2
 have e3:=through_ok s hF b h0
 have e4:=flaws_ok s hF b h0
 have hlo:plo b ax=b.z0:=by unfold plo; simp [h0',h1']
 have hhi:phi b ax=b.z1:=by unfold phi; simp [h0',h1']
 have hl:lf b ax at_=(⟨b.x0,b.y0,b.z0,b.x1,b.y1,at_⟩:Box):=by unfold lf; simp [h0',h1']
 have hr:rg b ax at_=(⟨b.x0,b.y0,at_,b.x1,b.y1,b.z1⟩:Box):=by unfold rg; simp [h0',h1']
 have d0:decide (ax=0)=false:=decide_eq_false h0'
 have d1:decide (ax=1)=false:=decide_eq_false h1'
 cases g1:decide (at_≤b.z0) with
 | true=>exact call_eq rfl rfl (by simp only [↓eA,eB,seval,c5,e1,e2,e3,e4,d0,d1,g1])
 | false=>
 cases g2:decide (b.z1≤at_) with
 | true=>exact call_eq rfl rfl (by simp only [↓eA,eB,seval,c5,e1,e2,e3,e4,d0,d1,g1,g2])
 | false=>
 have hp:PartOk s b (⟨b.x0,b.y0,b.z0,b.x1,b.y1,at_⟩:Box) (⟨b.x0,b.y0,at_,b.x1,b.y1,b.z1⟩:Box) ax at_:=by
   rw [←hl,←hr]
   have k1:=of_decide_eq_false g1
   have k2:=of_decide_eq_false g2
   exact part_ok h0 (by rw [hlo]; omega) (by rw [hhi]; omega)
 have e5:=through_ok s hF _ hp.hl
 have e6:=through_ok s hF _ hp.hr
 have e7:=flaws_ok s hF _ hp.hl
 have e8:=flaws_ok s hF _ hp.hr
 have l1:=thrR_len s hF.toFit0 b
 have l2:=thrR_len s hF.toFit0 (⟨b.x0,b.y0,b.z0,b.x1,b.y1,at_⟩:Box)
 have l3:=thrR_len s hF.toFit0 (⟨b.x0,b.y0,at_,b.x1,b.y1,b.z1⟩:Box)
 have l4:=flawsR_len s hF.toFit0 b
 have l5:=flawsR_len s hF.toFit0 (⟨b.x0,b.y0,b.z0,b.x1,b.y1,at_⟩:Box)
 have l6:=flawsR_len s hF.toFit0 (⟨b.x0,b.y0,at_,b.x1,b.y1,b.z1⟩:Box)
 obtain ⟨-,-,pal,pbo,pfl,pjn,pbd⟩:=hp
 generalize thrR s b=th at *
 generalize thrR s (⟨b.x0,b.y0,b.z0,b.x1,b.y1,at_⟩:Box)=p at *
 generalize thrR s (⟨b.x0,b.y0,at_,b.x1,b.y1,b.z1⟩:Box)=q at *
 generalize flawsR s b=fl at *
 generalize flawsR s (⟨b.x0,b.y0,b.z0,b.x1,b.y1,at_⟩:Box)=u at *
 generalize flawsR s (⟨b.x0,b.y0,at_,b.x1,b.y1,b.z1⟩:Box)=v at *
 have hm:∀ a c:List ByteArray,List.map D.str a ++ List.map D.str c=List.map D.str (a ++ c):=fun a c=>(List.map_append ..).symm
 have f1:fits (0 + p.length) 16=true:=fits_of (by omega)
 have f2:fits (p.length + q.length) 16=true:=fits_of (by omega)
 have f3:fits (0 + u.length) 16=true:=fits_of (by omega)
 have f4:fits (u.length + v.length) 16=true:=fits_of (by omega)
 exact call_eq rfl rfl (by
   simp (maxSteps:=10000000) only [↓eA,eB,seval,c5,e1,e2,e3,e4,d0,d1,g1,g2,e5,e6,e7,e8,f1,f2,List.length_map,List.nil_append,hm]
   generalize hE:(lim T).loop 5036 _ _=R
   obtain ⟨X,e',H',rfl,rfl,k2,k3,k4,k11,k19,k21,k23,rfl⟩:=Ends.at hE (lp_pa s th fl u v (p ++ q) ax at_ (by simp; omega) (by omega) pal _ _ rfl rfl rfl rfl rfl rfl rfl rfl rfl rfl rfl rfl rfl)
   simp (maxSteps:=10000000) only [↓eA,eB,seval,k2,k3,k4,k11,k19,k21,k23,f3,f4,List.length_map,List.nil_append,hm,get_wipeB,get_killE,killD]
   generalize hE:(lim T).loop 5042 _ _=R
   obtain ⟨X,e',H',rfl,rfl,k2,k3,k4,k11,k23,k25,rfl⟩:=Ends.at hE (lp_pbo s fl (p ++ q) (u ++ v) ax at_ (by simp; omega) (by omega) pbo _ _ (by simp only [↓eA,eB,seval,k2,get_wipeB,get_killE,killD]) (by simp only [↓eA,eB,seval,k3,get_wipeB,get_killE,killD]) (by simp only [↓eA,eB,seval,k4,get_wipeB,get_killE,killD]) (by simp only [↓eA,eB,seval,k11,get_wipeB,get_killE,killD]) (by simp only [↓eA,eB,seval,k23,get_wipeB,get_killE,killD]) (by simp only [↓eA,eB,seval,get_wipeB,get_killE,killD]) (by simp only [↓eA,eB,seval,get_wipeB,get_killE,killD]) rfl rfl rfl rfl rfl rfl rfl)
   simp (maxSteps:=10000000) only [↓eA,eB,seval,k2,k3,k4,k11,k23,k25]
   generalize hE:(lim T).loop 5047 _ _=R
   obtain ⟨X,e',H',rfl,rfl,k2,k3,k4,k23,f,rfl⟩:=Ends.at hE (lp_pfl s fl (p ++ q) (u ++ v) ax at_ (by omega) (by simp; omega) pfl _ _ (by simp only [↓eA,eB,seval,k2]) (by simp only [↓eA,eB,seval,k3]) (by simp only [↓eA,eB,seval,k4]) (by simp only [↓eA,eB,seval,k11]) (by simp only [↓eA,eB,seval,k23]) (by simp only [↓eA,eB,seval,k25]) (by simp only [↓eA,eB,seval]) rfl rfl rfl rfl rfl rfl rfl)
   simp (maxSteps:=10000000) only [↓eA,eB,seval,k2,k3,k4,k23]
   generalize hE:(lim T).loop 5052 _ _=R
   obtain ⟨X,e',H',rfl,rfl,k2,k3,k4,k23,f,rfl⟩:=Ends.at hE (lp_pj2 s hF.toFit0 (p ++ q) ax at_ (by simp; omega) pjn _ _ (by simp only [↓eA,eB,seval,k2]) (by simp only [↓eA,eB,seval,k3]) (by simp only [↓eA,eB,seval,k4]) (by simp only [↓eA,eB,seval,k23]) (by simp only [↓eA,eB,seval]) rfl rfl rfl rfl)
   simp (maxSteps:=10000000) only [↓eA,eB,seval,k2,k3,k4]
   generalize hE:(lim T).loop 5057 _ _=R
   obtain ⟨X,e',H',rfl,rfl⟩:=Ends.at hE (lp_pb2 s hF.toFit0 (p ++ q) ax at_ (by simp; omega) pbd _ _ (by simp only [↓eA,eB,seval,k2]) (by simp only [↓eA,eB,seval,k3]) (by simp only [↓eA,eB,seval,k4]) (k23.elim (fun k=>.inl (by simp only [↓eA,eB,seval,k])) fun k=>.inr (by simp only [↓eA,eB,seval,k])) (by simp only [↓eA,eB,seval]) rfl ⟨f,rfl⟩ rfl rfl)
   simp (maxSteps:=10000000) only [↓eA,eB,seval])
theorem e_parts (s:Survey)(hF:s.Fit)(b:Box)(ax at_:Int):L.call 5 [s.enc,b.enc,int ax,int at_] []=some (.bool true,[]):=by
 have e1:=e_awake
 have e2:=e_small s hF.toFit0
 cases hsm:smallB s with
 | false=>rw [hsm] at e2; exact call_eq rfl rfl (by simp only [↓eA,eB,seval,c5,e1,e2])
 | true=>
 cases hc:decide (sbErr s b=0) with
 | false=>
   rw [hsm] at e2
   have e3:=e_through s hF b
   have e4:=e_flaws' s hF b
   exact call_eq rfl rfl (by simp only [↓eA,eB,seval,c5,e1,e2,e3,e4,hc])
 | true=>
   have h0:=of_decide_eq_true hc
   by_cases h1:ax=0
   · exact e_parts_x s hF b ax at_ h1 hsm h0
   · by_cases h2:ax=1
     · exact e_parts_y s hF b ax at_ h2 hsm h0
     · exact e_parts_z s hF b ax at_ h1 h2 hsm h0
end Tz
set_option maxRecDepth 100000
open Gs Go
namespace Tz
theorem e_parts_out (s:Survey)(b:Box)(ax at_:Int)(e2:L.call 7 [s.enc] []=some (.bool false,[])):L.call 5 [s.enc,b.enc,int ax,int at_] []=some (.bool true,[]):=by
 have e1:=e_awake
 exact call_eq rfl rfl (by simp only [↓eA,eB,seval,c5,e1,e2])
theorem e_parts_all (s:Survey)(b:Box)(ax at_:Int):L.call 5 [s.enc,b.enc,int ax,int at_] []=some (.bool true,[]):=by
 cases h0:sizeOver s with
 | true=>exact e_parts_out s b ax at_ (e_small_over s h0)
 | false=>
   cases hs:smallB s with
   | true=>exact e_parts s (small_fit h0 hs) b ax at_
   | false=>
     have h1:=h0
     simp only [sizeOver,Bool.or_eq_false_iff,decide_eq_false_iff_not] at h1
     have e2:=e_small s ⟨by omega,by omega,by omega⟩
     rw [hs] at e2
     exact e_parts_out s b ax at_ e2
end Tz
