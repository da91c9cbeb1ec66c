/- part S175; no conditions. -/
import Derived.Test.YtogfagkjndoefaaGreatS167toS174
set_option linter.all false
set_option maxRecDepth 100000
open Gs Go
namespace Tz.C18
theorem poly9 (p:List Pt):polyErr p≠9:=by unfold polyErr; (repeat' split)<;>decide
theorem box9 (b:Box):boxErr b≠9:=by
 unfold boxErr
 cases far2 b.x0 b.x1 || (far2 b.y0 b.y1 || far2 b.z0 b.z1)<;>cases decide (b.x1≤b.x0) || (decide (b.y1≤b.y0) || decide (b.z1≤b.z0))<;>decide
theorem ev9 (l:List Ev):evErr l≠9:=by
 unfold evErr
 cases decide (256 < (l.length:Int)) with
 | true=>simp
 | false=>
 cases l.any (fun x=>!labelB x.src) with
 | true=>simp
 | false=>
 cases l.find? evBox with
 | some x=>exact box9 x.box
 | none=>cases l.any evBad<;>simp
theorem survey9 (s:Survey):surveyErr s≠9:=by
 unfold surveyErr
 cases sizeBad s with
 | true=>simp
 | false=>
 cases s.pit.six.any far6 with
 | true=>simp
 | false=>
 cases s.pit.ok with
 | false=>simp
 | true=>
 cases s.names.any (fun n=>!pName n) with
 | true=>simp
 | false=>
 cases s.joints.any jbad || s.flaws.any fbad with
 | true=>simp
 | false=>
 cases s.flaws.find? (fun f=>!decide (polyErr f.base=0)) with
 | some f=>exact poly9 f.base
 | none=>cases s.flaws.any (fun f=>!convex f.base)<;>cases outB s<;>cases disordered s<;>simp
theorem legal9 (s:Survey)(l:List Ev)(b:Box):legalErr s l b≠9:=by
 unfold legalErr
 cases decide (surveyErr s=0) with
 | false=>exact survey9 s
 | true=>
 cases decide (evErr l=0) with
 | false=>exact ev9 l
 | true=>exact box9 b
theorem e_at0 (x y z:Int):L.call 22 [.agg [int x,int y,int z],int 0] []=some (int x,[]):=e_rAt x y z 0
theorem e_at1 (x y z:Int):L.call 22 [.agg [int x,int y,int z],int 1] []=some (int y,[]):=e_rAt x y z 1
theorem e_at2 (x y z:Int):L.call 22 [.agg [int x,int y,int z],int 2] []=some (int z,[]):=e_rAt x y z 2
theorem e_wi0 (x y z n:Int):L.call 23 [.agg [int x,int y,int z],int 0,int n] []=some (.agg [int n,int y,int z],[]):=call_eq rfl rfl (by simp only [↓eA,eB,seval,c23])
theorem e_wi1 (x y z n:Int):L.call 23 [.agg [int x,int y,int z],int 1,int n] []=some (.agg [int x,int n,int z],[]):=call_eq rfl rfl (by simp only [↓eA,eB,seval,c23])
theorem e_wi2 (x y z n:Int):L.call 23 [.agg [int x,int y,int z],int 2,int n] []=some (.agg [int x,int y,int n],[]):=call_eq rfl rfl (by simp only [↓eA,eB,seval,c23])
theorem isB_of {s:Survey}{l:List Ev}{b:Box}(h:legalErr s l b=0):isB s l b=sndB s l b:=by
 unfold isB sndB
 rw [decide_eq_true h,sf_find h]
 rfl
theorem snd_legal {s:Survey}{l:List Ev}{b c:Box}(h:legalErr s l b=0)(hc:boxErr c=0):legalErr s l c=0:=ok_legal (legal_ok h).1 (legal_ok h).2.1 hc
theorem e_isCut_x (s:Survey)(hF:s.Fit)(l:List Ev)(hl:l.length < 1000000)(b:Box)(h:legalErr s l b=0)(v:Int)(h1:b.x0 < v)(h2:v≤b.x1):L.call 14 [s.enc,evs false l,.agg [int b.x0,int b.y0,int b.z0,int v,int b.y1,int b.z1]] []=some (.tup [.bool (sndB s l (cutx b v)),int 0],[]):=by
 obtain ⟨_,_,hb⟩:=legal_ok h
 have k:=boxErr_in hb
 have hb':boxErr (cutx b v)=0:=in_boxErr (by simp only; omega)
 have:=e_sIs s hF false l hl (cutx b v)
 rw [isB_of (snd_legal h hb'),snd_legal h hb'] at this
 exact this
set_option maxHeartbeats 4000000 in
theorem e_longest_x (s:Survey)(hF:s.Fit)(l:List Ev)(hl:l.length < 1000000)(b:Box)(h:legalErr s l b=0)(hi:insideB b s.pit=true)(e1:L.call 11 [s.enc,evs false l,b.enc] []=some (.bool true,[])):L.call 5 [s.enc,evs false l,b.enc,int 0] []=some (.bool true,[]):=by
 have aw:=e_awake16
 obtain ⟨_,_,hb⟩:=legal_ok h
 have k:=boxErr_in hb
 obtain ⟨r,hr,r1,r2,r3,r4⟩:=e_range_x s hF false l hl b h hi
 have a1:=e_at0 b.x0 b.y0 b.z0
 have a2:=e_at0 b.x1 b.y1 b.z1
 refine call_eq rfl rfl ?_
 have w5:IntKind.i64.wrap (b.x0 + r + 1)=b.x0 + r + 1:=wrap_in (by omega) (by omega)
 by_cases hz:r=0
 · subst hz
   have hr':L.call 18 [s.enc,evs false l,b.enc,int 0] []=some (.tup [.agg [int 0,int 0],int 9],[]):=hr
   have hd:decide (b.x1≤b.x0)=false:=decide_eq_false (by omega)
   have w6:IntKind.i64.wrap (b.x0 + 1)=b.x0 + 1:=wrap_in (by omega) (by omega)
   have t1:=e_wi0 b.x1 b.y1 b.z1 (b.x0 + 1)
   have t2:=e_isCut_x s hF l hl b h (b.x0 + 1) (by omega) (by omega)
   have hs:sndB s l (cutx b (b.x0 + 1))=false:=by
     rcases r4 with r4 | r4
     · omega
     · exact r4
   rw [hs] at t2
   simp only [↓eA,eB,seval,c5,e1,hr',a1,a2,hd,w6,t1,t2,aw]
 · have hzd:decide (r=0)=false:=decide_eq_false hz
   have hr':L.call 18 [s.enc,evs false l,b.enc,int 0] []=some (.tup [.agg [int b.x0,int (b.x0 + r - 1)],int 0],[]):=by
     rw [hr]; unfold legR; rw [hzd]; rfl
   have w7:IntKind.i64.wrap (b.x0 + r - 1 + 1)=b.x0 + r:=by rw [wrap_in (by omega) (by omega)]; omega
   have t1:=e_wi0 b.x1 b.y1 b.z1 (b.x0 + r)
   have t2:=e_isCut_x s hF l hl b h (b.x0 + r) (by omega) (by omega)
   have hs:sndB s l (cutx b (b.x0 + r))=true:=by
     rcases r3 with r3 | r3
     · exact absurd r3 hz
     · exact r3
   rw [hs] at t2
   by_cases hq:r=b.x1 - b.x0
   · have hd:decide (b.x1≤b.x0 + r)=true:=decide_eq_true (by omega)
     have hd2:decide (b.x0 + r=b.x1)=true:=decide_eq_true (by omega)
     simp only [↓eA,eB,seval,c5,e1,hr',a1,a2,hd,hd2,w7,t1,t2,aw]
   · have hd:decide (b.x1≤b.x0 + r)=false:=decide_eq_false (by omega)
     have t3:=e_wi0 b.x1 b.y1 b.z1 (b.x0 + r + 1)
     have t4:=e_isCut_x s hF l hl b h (b.x0 + r + 1) (by omega) (by omega)
     have hs2:sndB s l (cutx b (b.x0 + r + 1))=false:=by
       rw [Int.add_assoc]
       rcases r4 with r4 | r4
       · exact absurd r4 hq
       · exact r4
     rw [hs2] at t4
     simp only [↓eA,eB,seval,c5,e1,hr',a1,a2,hd,w5,w7,t1,t2,t3,t4,aw]
theorem e_isCut_y (s:Survey)(hF:s.Fit)(l:List Ev)(hl:l.length < 1000000)(b:Box)(h:legalErr s l b=0)(v:Int)(h1:b.y0 < v)(h2:v≤b.y1):L.call 14 [s.enc,evs false l,.agg [int b.x0,int b.y0,int b.z0,int b.x1,int v,int b.z1]] []=some (.tup [.bool (sndB s l (cuty b v)),int 0],[]):=by
 obtain ⟨_,_,hb⟩:=legal_ok h
 have k:=boxErr_in hb
 have hb':boxErr (cuty b v)=0:=in_boxErr (by simp only; omega)
 have:=e_sIs s hF false l hl (cuty b v)
 rw [isB_of (snd_legal h hb'),snd_legal h hb'] at this
 exact this
set_option maxHeartbeats 4000000 in
theorem e_longest_y (s:Survey)(hF:s.Fit)(l:List Ev)(hl:l.length < 1000000)(b:Box)(h:legalErr s l b=0)(hi:insideB b s.pit=true)(e1:L.call 11 [s.enc,evs false l,b.enc] []=some (.bool true,[])):L.call 5 [s.enc,evs false l,b.enc,int 1] []=some (.bool true,[]):=by
 have aw:=e_awake16
 obtain ⟨_,_,hb⟩:=legal_ok h
 have k:=boxErr_in hb
 obtain ⟨r,hr,r1,r2,r3,r4⟩:=e_range_y s hF false l hl b h hi
 have a1:=e_at1 b.x0 b.y0 b.z0
 have a2:=e_at1 b.x1 b.y1 b.z1
 refine call_eq rfl rfl ?_
 have w5:IntKind.i64.wrap (b.y0 + r + 1)=b.y0 + r + 1:=wrap_in (by omega) (by omega)
 by_cases hz:r=0
 · subst hz
   have hr':L.call 18 [s.enc,evs false l,b.enc,int 1] []=some (.tup [.agg [int 0,int 0],int 9],[]):=hr
   have hd:decide (b.y1≤b.y0)=false:=decide_eq_false (by omega)
   have w6:IntKind.i64.wrap (b.y0 + 1)=b.y0 + 1:=wrap_in (by omega) (by omega)
   have t1:=e_wi1 b.x1 b.y1 b.z1 (b.y0 + 1)
   have t2:=e_isCut_y s hF l hl b h (b.y0 + 1) (by omega) (by omega)
   have hs:sndB s l (cuty b (b.y0 + 1))=false:=by
     rcases r4 with r4 | r4
     · omega
     · exact r4
   rw [hs] at t2
   simp only [↓eA,eB,seval,c5,e1,hr',a1,a2,hd,w6,t1,t2,aw]
 · have hzd:decide (r=0)=false:=decide_eq_false hz
   have hr':L.call 18 [s.enc,evs false l,b.enc,int 1] []=some (.tup [.agg [int b.y0,int (b.y0 + r - 1)],int 0],[]):=by
     rw [hr]; unfold legR; rw [hzd]; rfl
   have w7:IntKind.i64.wrap (b.y0 + r - 1 + 1)=b.y0 + r:=by rw [wrap_in (by omega) (by omega)]; omega
   have t1:=e_wi1 b.x1 b.y1 b.z1 (b.y0 + r)
   have t2:=e_isCut_y s hF l hl b h (b.y0 + r) (by omega) (by omega)
   have hs:sndB s l (cuty b (b.y0 + r))=true:=by
     rcases r3 with r3 | r3
     · exact absurd r3 hz
     · exact r3
   rw [hs] at t2
   by_cases hq:r=b.y1 - b.y0
   · have hd:decide (b.y1≤b.y0 + r)=true:=decide_eq_true (by omega)
     have hd2:decide (b.y0 + r=b.y1)=true:=decide_eq_true (by omega)
     simp only [↓eA,eB,seval,c5,e1,hr',a1,a2,hd,hd2,w7,t1,t2,aw]
   · have hd:decide (b.y1≤b.y0 + r)=false:=decide_eq_false (by omega)
     have t3:=e_wi1 b.x1 b.y1 b.z1 (b.y0 + r + 1)
     have t4:=e_isCut_y s hF l hl b h (b.y0 + r + 1) (by omega) (by omega)
     have hs2:sndB s l (cuty b (b.y0 + r + 1))=false:=by
       rw [Int.add_assoc]
       rcases r4 with r4 | r4
       · exact absurd r4 hq
       · exact r4
     rw [hs2] at t4
     simp only [↓eA,eB,seval,c5,e1,hr',a1,a2,hd,w5,w7,t1,t2,t3,t4,aw]
theorem e_isCut_z (s:Survey)(hF:s.Fit)(l:List Ev)(hl:l.length < 1000000)(b:Box)(h:legalErr s l b=0)(v:Int)(h1:b.z0 < v)(h2:v≤b.z1):L.call 14 [s.enc,evs false l,.agg [int b.x0,int b.y0,int b.z0,int b.x1,int b.y1,int v]] []=some (.tup [.bool (sndB s l (cutz b v)),int 0],[]):=by
 obtain ⟨_,_,hb⟩:=legal_ok h
 have k:=boxErr_in hb
 have hb':boxErr (cutz b v)=0:=in_boxErr (by simp only; omega)
 have:=e_sIs s hF false l hl (cutz b v)
 rw [isB_of (snd_legal h hb'),snd_legal h hb'] at this
 exact this
set_option maxHeartbeats 4000000 in
theorem e_longest_z (s:Survey)(hF:s.Fit)(l:List Ev)(hl:l.length < 1000000)(b:Box)(h:legalErr s l b=0)(hi:insideB b s.pit=true)(e1:L.call 11 [s.enc,evs false l,b.enc] []=some (.bool true,[])):L.call 5 [s.enc,evs false l,b.enc,int 2] []=some (.bool true,[]):=by
 have aw:=e_awake16
 obtain ⟨_,_,hb⟩:=legal_ok h
 have k:=boxErr_in hb
 obtain ⟨r,hr,r1,r2,r3,r4⟩:=e_range_z s hF false l hl b h hi
 have a1:=e_at2 b.x0 b.y0 b.z0
 have a2:=e_at2 b.x1 b.y1 b.z1
 refine call_eq rfl rfl ?_
 have w5:IntKind.i64.wrap (b.z0 + r + 1)=b.z0 + r + 1:=wrap_in (by omega) (by omega)
 by_cases hz:r=0
 · subst hz
   have hr':L.call 18 [s.enc,evs false l,b.enc,int 2] []=some (.tup [.agg [int 0,int 0],int 9],[]):=hr
   have hd:decide (b.z1≤b.z0)=false:=decide_eq_false (by omega)
   have w6:IntKind.i64.wrap (b.z0 + 1)=b.z0 + 1:=wrap_in (by omega) (by omega)
   have t1:=e_wi2 b.x1 b.y1 b.z1 (b.z0 + 1)
   have t2:=e_isCut_z s hF l hl b h (b.z0 + 1) (by omega) (by omega)
   have hs:sndB s l (cutz b (b.z0 + 1))=false:=by
     rcases r4 with r4 | r4
     · omega
     · exact r4
   rw [hs] at t2
   simp only [↓eA,eB,seval,c5,e1,hr',a1,a2,hd,w6,t1,t2,aw]
 · have hzd:decide (r=0)=false:=decide_eq_false hz
   have hr':L.call 18 [s.enc,evs false l,b.enc,int 2] []=some (.tup [.agg [int b.z0,int (b.z0 + r - 1)],int 0],[]):=by
     rw [hr]; unfold legR; rw [hzd]; rfl
   have w7:IntKind.i64.wrap (b.z0 + r - 1 + 1)=b.z0 + r:=by rw [wrap_in (by omega) (by omega)]; omega
   have t1:=e_wi2 b.x1 b.y1 b.z1 (b.z0 + r)
   have t2:=e_isCut_z s hF l hl b h (b.z0 + r) (by omega) (by omega)
   have hs:sndB s l (cutz b (b.z0 + r))=true:=by
     rcases r3 with r3 | r3
     · exact absurd r3 hz
     · exact r3
   rw [hs] at t2
   by_cases hq:r=b.z1 - b.z0
   · have hd:decide (b.z1≤b.z0 + r)=true:=decide_eq_true (by omega)
     have hd2:decide (b.z0 + r=b.z1)=true:=decide_eq_true (by omega)
     simp only [↓eA,eB,seval,c5,e1,hr',a1,a2,hd,hd2,w7,t1,t2,aw]
   · have hd:decide (b.z1≤b.z0 + r)=false:=decide_eq_false (by omega)
     have t3:=e_wi2 b.x1 b.y1 b.z1 (b.z0 + r + 1)
     have t4:=e_isCut_z s hF l hl b h (b.z0 + r + 1) (by omega) (by omega)
     have hs2:sndB s l (cutz b (b.z0 + r + 1))=false:=by
       rw [Int.add_assoc]
       rcases r4 with r4 | r4
       · exact absurd r4 hq
       · exact r4
     rw [hs2] at t4
     simp only [↓eA,eB,seval,c5,e1,hr',a1,a2,hd,w5,w7,t1,t2,t3,t4,aw]
set_option maxHeartbeats 4000000 in
theorem e_longestAll (s:Survey)(l:List Ev)(b:Box)(a:Int):L.call 5 [s.enc,evs false l,b.enc,int a] []=some (.bool true,[]):=by
 have aw:=e_awake16
 obtain ⟨v,e1,hv⟩:=small16 s false l b
 cases v with
 | false=>exact call_eq rfl rfl (by simp only [↓eA,eB,seval,c5,e1,aw])
 | true=>
 obtain ⟨hF,hl⟩:=hv rfl
 have hl':l.length < 1000000:=by omega
 by_cases h:legalErr s l b=0
 · by_cases ha:a < 0∨2 < a
   · have hr:=e_rangeAx s hF false l hl' b a h ha
     exact call_eq rfl rfl (by simp only [↓eA,eB,seval,c5,e1,hr,aw])
   · have h3:a=0∨a=1∨a=2:=by omega
     cases hi:insideB b s.pit with
     | true=>
       rcases h3 with rfl | rfl | rfl
       · exact e_longest_x s hF l hl' b h hi e1
       · exact e_longest_y s hF l hl' b h hi e1
       · exact e_longest_z s hF l hl' b h hi e1
     | false=>
       rcases h3 with rfl | rfl | rfl
       · have hr:=e_rangeOut_x s hF false l hl' b h hi
         exact call_eq rfl rfl (by simp only [↓eA,eB,seval,c5,e1,hr,aw])
       · have hr:=e_rangeOut_y s hF false l hl' b h hi
         exact call_eq rfl rfl (by simp only [↓eA,eB,seval,c5,e1,hr,aw])
       · have hr:=e_rangeOut_z s hF false l hl' b h hi
         exact call_eq rfl rfl (by simp only [↓eA,eB,seval,c5,e1,hr,aw])
 · have hr:=e_rangeErr s hF false l hl' b a h
   have d1:=decide_eq_false h
   have d2:=decide_eq_false (legal9 s l b)
   exact call_eq rfl rfl (by simp only [↓eA,eB,seval,c5,e1,hr,d1,d2,aw])
end Tz.C18
