/- span.Normalize; survey.Open; survey.Jointed; Boxes that are clear of each other; Boxes and their errors; support.find; support.LeansOn and Carries; Searches in blocks and benches; boxes; The conditions of a site; no conditions. -/
import Derived.Test.YtboigolndjinhaaGreatS10toS13
import Derived.Sort.AssemblyPlain
import Derived.Test.YtboigolndjinhaaGreatGsF
set_option linter.all false
set_option maxRecDepth 100000
open Gs Go
namespace Tz
def mstep (acc:List (Int×Int))(x:Int×Int):List (Int×Int):=match acc.getLast? with
  | none=>acc ++ [x]
  | some p=>bif decide (x.1≤p.2 + 1) then acc.dropLast ++ [(p.1,max p.2 x.2)] else acc ++ [x]
def inB (x:Int×Int):Prop:=-1000000000000≤x.1∧x.1≤1000000000000∧-1000000000000≤x.2∧x.2≤1000000000000
theorem mstep_in {acc:List (Int×Int)}{x:Int×Int}(h:∀ p∈acc,inB p)(hx:inB x):∀ p∈mstep acc x,inB p:=by
 unfold mstep
 cases hl:acc.getLast? with
 | none=>intro p hp; simp at hp; rcases hp with hp | rfl; exact h p hp; exact hx
 | some q=>
   have hq:=h q (List.mem_of_getLast? hl)
   simp only
   cases hc:decide (x.1≤q.2 + 1) with
   | false=>intro p hp; simp at hp; rcases hp with hp | rfl; exact h p hp; exact hx
   | true=>
     intro p hp
     simp only [cond_true,List.mem_append,List.mem_singleton] at hp
     rcases hp with hp | rfl
     · exact h p (List.dropLast_subset acc hp)
     · obtain ⟨a,b,c,d⟩:=hq; obtain ⟨a',b',c',d'⟩:=hx
       exact ⟨a,b,by simp only; omega,by simp only; omega⟩
theorem mstep_len {acc:List (Int×Int)}{x:Int×Int} : (mstep acc x).length≤acc.length + 1:=by
 unfold mstep
 cases acc.getLast? with
 | none=>simp
 | some q=>
   simp only
   cases decide (x.1≤q.2 + 1)
   · simp
   · simp
theorem lp_nm (nz dy:Bool)(xs:List (Int×Int))(hb:xs.length < 4000000000)(hin:∀ p∈xs,inB p)(e:Env)(H:Heap)(h4:Gs.get e 4 = .ow 1004)(h12:Gs.get e 12 = .ow 10181)(h13:Gs.get e 13=int xs.length)(h14:Gs.get e 14=int 0)(hH:hget H 1004=some (.row true 2 [] 0 true))(hH1:hget H 10180=none)(hH2:hget H 10181=some (.row nz 2 (xs.map ivD) 0 dy)) :
   Ends T 244005 e H (fun X e' H'=>X = .ex 0∧Gs.get e' 4 = .ow 1004∧hget H' 1004=some (.row true 2 ((xs.foldl mstep []).map ivD) 0 true)):=by
 refine (loop_fold (T:=T) (key:=244005) (li:=l244005.1) rfl xs mstep (fun i a e H=>a.length≤i∧(∀ p∈a,inB p)∧Gs.get e 4 = .ow 1004∧Gs.get e 12 = .ow 10181∧Gs.get e 13=int xs.length∧Gs.get e 14=int i∧hget H 1004=some (.row true 2 (a.map ivD) 0 true)∧hget H 10180=none∧hget H 10181=some (.row nz 2 (xs.map ivD) 0 dy)) (fun a X e' H'=>X = .ex 0∧Gs.get e' 4 = .ow 1004∧hget H' 1004=some (.row true 2 (a.map ivD) 0 true)) ?_ ?_ [] e H ⟨Nat.le_refl _,by simp,h4,h12,h13,h14,hH,hH1,hH2⟩)
 · rintro i x a e H hx hi ⟨hal,hain,h4,h12,h13,h14,hH,hH1,hH2⟩
   have hx':(xs.map ivD)[i]?=some (.agg [int x.1,int x.2]):=by simp [hx,ivD]
   have hxin:=hin x (List.mem_of_getElem? hx)
   have hm1:=mstep_in hain hxin
   have hm2:=mstep_len (acc:=a) (x:=x)
   cases hl:a.getLast? with
   | none=>
     have ha:a=[]:=by simpa using hl
     subst ha
     simp only [↓eA,eB,seval,l244005,h4,h12,h13,h14,hH,hH1,hH2,hi,hx',show fits 1 16=true from rfl,wrap_succ (show i < 4611686018427387904 by omega)]
     refine ⟨trivial,by omega,hm1,?_⟩
     and_intros<;>first | trivial | rfl
   | some p=>
     obtain ⟨pre,rfl⟩:∃ pre,a=pre ++ [p]:=by
       exact List.getLast?_eq_some_iff.1 hl
     have hpin:=hain p (by simp)
     obtain ⟨hp1,hp2,hp3,hp4⟩:=hpin
     have hlen:(pre ++ [p]).length=pre.length + 1:=by simp
     have hg:(List.map ivD (pre ++ [p]))[pre.length]?=some (.agg [int p.1,int p.2]):=by simp [ivD]
     have hw:IntKind.i64.wrap (p.2 + 1)=p.2 + 1:=wrap_in (by omega) (by omega)
     have hgt:decide ((0:Int) < ((pre.length + 1:Nat):Int))=true:=by rw [decide_eq_true_eq]; omega
     have hlt:pre.length < pre.length + 1:=by omega
     have hwp:=wrap_pred (show 0 < pre.length + 1 by omega) (show pre.length + 1 < 4611686018427387904 by omega)
     rw [Nat.add_sub_cancel] at hwp
     cases hc:decide (x.1≤p.2 + 1) with
     | true=>
       have hms:mstep (pre ++ [p]) x=pre ++ [(p.1,max p.2 x.2)]:=by simp [mstep,hc]
       have hset:List.set (List.map ivD (pre ++ [p])) pre.length (.agg [int p.1,int (max p.2 x.2)])=List.map ivD (mstep (pre ++ [p]) x):=by
         rw [hms]; simp [ivD]
       simp only [↓eA,eB,seval,l244005,h4,h12,h13,h14,hH,hH1,hH2,hi,hx',hlen,hg,hw,hgt,hlt,hwp,hc,hset,Nat.zero_le,wrap_succ (show i < 4611686018427387904 by omega)]
       refine ⟨trivial,by omega,hm1,?_⟩
       and_intros<;>first | trivial | rfl
     | false=>
       have hms:mstep (pre ++ [p]) x=pre ++ [p] ++ [x]:=by simp [mstep,hc]
       have hmp:List.map ivD (pre ++ [p]) ++ [.agg [int x.1,int x.2]]=List.map ivD (mstep (pre ++ [p]) x):=by rw [hms]; simp [ivD]
       have hfit:fits (pre.length + 1 + 1) 16=true:=by simp [fits]; omega
       simp only [↓eA,eB,seval,l244005,h4,h12,h13,h14,hH,hH1,hH2,hi,hx',hlen,hg,hw,hgt,hlt,hwp,hc,hfit,hmp,Nat.zero_le,wrap_succ (show i < 4611686018427387904 by omega)]
       refine ⟨trivial,by omega,hm1,?_⟩
       and_intros<;>first | trivial | rfl
 · rintro a e H ⟨hal,hain,h4,h12,h13,h14,hH,hH1,hH2⟩
   simp only [↓eA,eB,seval,l244005,h4,h12,h13,h14,hH,hH1,hH2,Nat.lt_irrefl]
   and_intros<;>first | trivial | rfl
def merged (l:List (Int×Int)):List (Int×Int):=(sortIv l).foldl mstep []
theorem e_sortFunc (nz:Bool)(l:List (Int×Int))(hb:l.length < 4611686018427387904):L.call 257 [.ow 500001,.fn 258 []] [(500001,.row nz 2 (l.map ivD) 0 false)]=some (.tup [],[(500001,.row nz 2 ((sortIv l).map ivD) 0 false)]):=
 ext_eq (s:=sortIvX 258) rfl (by simp [sortIvX,hget,ivs_map,hset,hb])
theorem e_sortFunc0:L.call 257 [.fz true 2 [],.fn 258 []] []=some (.tup [],[]):=
 ext_eq (s:=sortIvX 258) rfl rfl
theorem e_normal (l:List (Int×Int))(hb:l.length < 4000000000)(hin:∀ p∈sortIv l,inB p)(hsl:(sortIv l).length=l.length):L.call 244 [.fz true 2 (l.map ivD)] []=some (.fz true 2 ((merged l).map ivD),[]):=
 call_eq rfl rfl (by
   have hc:=e_clone l hb
   by_cases hl:l=[]
   · subst hl
     rw [if_pos rfl] at hc
     simp only [↓eA,eB,seval,c244,hc,e_sortFunc0]
     rw [loop_unfold_c (T:=T) (k:=244005) rfl]
     have hs0:sortIv []=[]:=List.eq_nil_of_length_eq_zero (by simpa using hsl)
     simp only [↓eA,eB,seval,l244005]
     simp [merged,hs0]
   · rw [if_neg hl] at hc
     have hsort:=e_sortFunc false l (by omega)
     simp only [↓eA,eB,seval,c244,hc,hsort]
     generalize hE:(lim T).loop 244005 _ _=R
     obtain ⟨X,e',H',rfl,rfl,g4,gH⟩:=Ends.at hE (lp_nm false true (sortIv l) (by omega) hin _ _ rfl rfl rfl rfl rfl rfl rfl)
     simp only [↓eA,eB,seval,g4,gH]
     rfl)
theorem ltIv_swo:Sort.SWO ltIv:=⟨fun x=>by simp [ltIv],fun x y z h h'=>by simp only [ltIv,decide_eq_true_eq] at *; omega,fun x y z h h'=>by simp only [ltIv,decide_eq_false_iff_not] at *; omega⟩
theorem sortIv_all (l:List (Int×Int)):(sortIv l).Perm l∧(sortIv l).Pairwise fun a b=>a.1≤b.1:=by
 have h:=Sort.pdq_sorts ltIv ltIv_swo l.toArray 0 l.length (Lib.bitLen l.length) true true (Nat.zero_le _) (by simp) (Or.inl rfl)
 obtain ⟨⟨hsz,_,hp⟩,hs⟩:=h
 have hsz':(Sort.pdq ltIv l.toArray 0 l.length (Lib.bitLen l.length) true true).size=l.length:=by simpa using hsz
 refine ⟨?_,?_⟩
 · have e1:∀ a:Array (Int×Int),a.size=l.length→a.extract 0 l.length=a:=fun a ha=>by rw [←ha]; exact Array.extract_size
   rw [e1 _ hsz',e1 _ (by simp)] at hp
   simpa [sortIv] using hp
 · unfold sortIv
   rw [List.pairwise_iff_getElem]
   intro i j hi hj hij
   simp only [Array.length_toList] at hi hj
   have h:=hs i j (Nat.zero_le _) hij (by omega)
   simp only [ltIv,decide_eq_false_iff_not] at h
   rw [getElem!_pos _ j hj,getElem!_pos _ i hi] at h
   simp only [Array.getElem_toList]
   omega
theorem ivErr_in {l:List (Int×Int)}(h:ivErr l=0):∀ p∈l,inB p:=by
 intro p hp
 unfold ivErr at h
 cases hc:l.any ivFar with
 | true=>rw [hc] at h; cases h
 | false=>
   have:=List.any_eq_false.1 hc p hp
   simp only [ivFar,Bool.or_eq_true,Bool.not_eq_true',Bool.and_eq_false_iff,decide_eq_false_iff_not,not_or] at this
   unfold inB; omega
def nrmErr (l:List (Int×Int)):Int:=bif decide (10000 < (l.length:Int)) then 7 else ivErr l
theorem e_normalize (l:List (Int×Int))(hb:l.length < 4000000000):L.call 222 [.fz true 2 (l.map ivD)] []=some (.tup [.fz true 2 ((bif decide (nrmErr l=0) then merged l else []).map ivD),int (nrmErr l)],[]):=
 call_eq rfl rfl (by
   have hl:=e_lists1 l true hb
   have hle:L.call 243 [.fz false 1 [.fz true 2 (l.map ivD)]] []=some (int (nrmErr l),[]):=hl
   have hperm:=sortIv_all l
   cases he:decide (nrmErr l=0) with
   | false=>simp only [↓eA,eB,seval,c222,hle,he]; rfl
   | true=>
     have he0:ivErr l=0:=by
       have:=of_decide_eq_true he
       unfold nrmErr at this
       cases hc:decide (10000 < (l.length:Int)) with
       | true=>rw [hc] at this; cases this
       | false=>rw [hc] at this; exact this
     have hin:=ivErr_in he0
     have hn:=e_normal l hb (fun p hp=>hin p (hperm.1.mem_iff.1 hp)) hperm.1.length_eq
     simp only [↓eA,eB,seval,c222,hle,he,hn]; rw [of_decide_eq_true he])
end Tz
set_option maxRecDepth 100000
open Gs Go
namespace Tz
def outOf (b p:Box):Bool:=decide (b.x0 < p.x0) || decide (b.y0 < p.y0) || decide (b.z0 < p.z0) || decide (p.x1 < b.x1) || decide (p.y1 < b.y1) || decide (p.z1 < b.z1)
def boxedErr (s:Survey)(b:Box):Int:=bif !b.ok then 1 else bif outOf b s.pit then 12 else 0
theorem e_boxed (s:Survey)(b:Box):L.call 242 [s.enc,b.enc] []=some (int (boxedErr s b),[]):=
 call_eq rfl rfl (by
   unfold boxedErr
   cases h1:b.ok with
   | false=>simp only [↓eA,eB,seval,c242,e_proper,h1]
   | true=>
     cases h2:outOf b s.pit with
     | true=>have h2':=h2; simp only [outOf] at h2'; simp only [↓eA,eB,seval,c242,e_proper,h1,h2']
     | false=>have h2':=h2; simp only [outOf] at h2'; simp only [↓eA,eB,seval,c242,e_proper,h1,h2'])
def sideBad (d:Int):Bool:=decide (d < 0) || decide (3 < d)
def sidedErr (s:Survey)(b:Box)(d:Int):Int:=bif !decide (surveyErr s=0) then surveyErr s else bif sideBad d then 6 else boxedErr s b
theorem e_sided (s:Survey)(hF:s.Fit)(b:Box)(d:Int):L.call 220 [s.enc,b.enc,int d] []=some (int (sidedErr s b d),[]):=
 call_eq rfl rfl (by
   unfold sidedErr
   cases h1:decide (surveyErr s=0) with
   | false=>simp only [↓eA,eB,seval,c220,e_pCheck s hF,h1]
   | true=>
     cases h2:sideBad d with
     | true=>have h2':=h2; simp only [sideBad] at h2'; simp only [↓eA,eB,seval,c220,e_pCheck s hF,h1,h2']
     | false=>have h2':=h2; simp only [sideBad] at h2'; simp only [↓eA,eB,seval,c220,e_pCheck s hF,h1,h2',e_boxed])
def planeAx (d:Int):Int:=if d < 2 then 0 else 1
def planeAt (b:Box)(d:Int):Int:=if d=0 then b.x1 else if d=1 then b.x0 else if d=2 then b.y1 else b.y0
theorem q0:IntKind.i64.wrap (Int.tdiv 0 2)=0:=by decide
theorem q1:IntKind.i64.wrap (Int.tdiv 1 2)=0:=by decide
theorem q2:IntKind.i64.wrap (Int.tdiv 2 2)=1:=by decide
theorem q3:IntKind.i64.wrap (Int.tdiv 3 2)=1:=by decide
theorem m0:Int.tmod 0 2=0:=by decide
theorem m1:Int.tmod 1 2=1:=by decide
theorem m2:Int.tmod 2 2=0:=by decide
theorem m3:Int.tmod 3 2=1:=by decide
theorem e_plane (b:Box)(d:Int)(h:sideBad d=false):L.call 221 [b.enc,int d] []=some (.tup [int (planeAx d),int (planeAt b d)],[]):=by
 have h':d=0∨d=1∨d=2∨d=3:=by simp only [sideBad,Bool.or_eq_false_iff,decide_eq_false_iff_not] at h; omega
 rcases h' with rfl | rfl | rfl | rfl
 · have e1:=e_ends b 0; exact call_eq rfl rfl (by simp only [↓eA,eB,seval,c221,e1,q0,q1,q2,q3,m0,m1,m2,m3]; first | done | rfl | simp [planeAx,planeAt,Box.lo,Box.hi])
 · have e1:=e_ends b 0; exact call_eq rfl rfl (by simp only [↓eA,eB,seval,c221,e1,q0,q1,q2,q3,m0,m1,m2,m3]; first | done | rfl | simp [planeAx,planeAt,Box.lo,Box.hi])
 · have e1:=e_ends b 1; exact call_eq rfl rfl (by simp only [↓eA,eB,seval,c221,e1,q0,q1,q2,q3,m0,m1,m2,m3]; first | done | rfl | simp [planeAx,planeAt,Box.lo,Box.hi])
 · have e1:=e_ends b 1; exact call_eq rfl rfl (by simp only [↓eA,eB,seval,c221,e1,q0,q1,q2,q3,m0,m1,m2,m3]; first | done | rfl | simp [planeAx,planeAt,Box.lo,Box.hi])
theorem e_rPlane (b:Box)(d:Int)(h:sideBad d=false):L.call 233 [b.enc,int d] []=some (.tup [int (planeAx d),int (planeAt b d)],[]):=by
 have h':d=0∨d=1∨d=2∨d=3:=by simp only [sideBad,Bool.or_eq_false_iff,decide_eq_false_iff_not] at h; omega
 rcases h' with rfl | rfl | rfl | rfl
 · have e1:=e_coord b.x1 b.y1 b.z1 0; exact call_eq rfl rfl (by simp only [↓eA,eB,seval,c233,e1,q0,q1,q2,q3,m0,m1,m2,m3]; first | done | rfl | simp [planeAx,planeAt,Box.lo,Box.hi])
 · have e1:=e_coord b.x0 b.y0 b.z0 0; exact call_eq rfl rfl (by simp only [↓eA,eB,seval,c233,e1,q0,q1,q2,q3,m0,m1,m2,m3]; first | done | rfl | simp [planeAx,planeAt,Box.lo,Box.hi])
 · have e1:=e_coord b.x1 b.y1 b.z1 1; exact call_eq rfl rfl (by simp only [↓eA,eB,seval,c233,e1,q0,q1,q2,q3,m0,m1,m2,m3]; first | done | rfl | simp [planeAx,planeAt,Box.lo,Box.hi])
 · have e1:=e_coord b.x0 b.y0 b.z0 1; exact call_eq rfl rfl (by simp only [↓eA,eB,seval,c233,e1,q0,q1,q2,q3,m0,m1,m2,m3]; first | done | rfl | simp [planeAx,planeAt,Box.lo,Box.hi])
theorem n0:inb 0 4=true:=by decide
theorem n1:inb 1 4=true:=by decide
theorem n2:inb 2 4=true:=by decide
theorem n3:inb 3 4=true:=by decide
def openAt (s:Survey)(d:Int):Bool:=if d=0 then s.o0 else if d=1 then s.o1 else if d=2 then s.o2 else s.o3
def openB (s:Survey)(b:Box)(d:Int):Bool:=openAt s d && decide (planeAt b d=planeAt s.pit d)
theorem e_open (s:Survey)(hF:s.Fit)(b:Box)(d:Int):L.call 166 [s.enc,b.enc,int d] []=some (.tup [.bool (decide (sidedErr s b d=0) && openB s b d),int (sidedErr s b d)],[]):=by
 cases h1:decide (sidedErr s b d=0) with
 | false=>exact call_eq rfl rfl (by simp only [↓eA,eB,seval,c166,e_sided s hF,h1])
 | true=>
   have h0:=of_decide_eq_true h1
   have hs:sideBad d=false:=by
     unfold sidedErr at h0
     cases h2:decide (surveyErr s=0) with
     | false=>rw [h2] at h0; simp only [Bool.not_false,cond_true] at h0; rw [h0] at h2; simp at h2
     | true=>
       rw [h2] at h0; simp only [Bool.not_true,cond_false] at h0
       cases h3:sideBad d with
       | false=>rfl
       | true=>rw [h3] at h0; cases h0
   have e1:=e_plane b d hs; have e2:=e_plane s.pit d hs
   have e3:=e_sided s hF b d; rw [h0] at e3
   have h':d=0∨d=1∨d=2∨d=3:=by simp only [sideBad,Bool.or_eq_false_iff,decide_eq_false_iff_not] at hs; omega
   rw [h0]
   unfold openB openAt
   rcases h' with rfl | rfl | rfl | rfl
   · exact call_eq rfl rfl (by simp only [↓eA,eB,seval,c166,e3,e1,e2,n0,n1,n2,n3]; skip)
   · exact call_eq rfl rfl (by simp only [↓eA,eB,seval,c166,e3,e1,e2,n0,n1,n2,n3]; skip)
   · exact call_eq rfl rfl (by simp only [↓eA,eB,seval,c166,e3,e1,e2,n0,n1,n2,n3]; skip)
   · exact call_eq rfl rfl (by simp only [↓eA,eB,seval,c166,e3,e1,e2,n0,n1,n2,n3]; skip)
end Tz
set_option maxRecDepth 100000
open Gs Go
namespace Tz
def jHit (b:Box)(ax at_:Int)(j:Joint):Bool:=decide (j.axis=ax) && decide (j.at_=at_) && decide (max j.lo b.z0≤min j.hi b.z1 - 1)
def jIv (b:Box)(j:Joint):Int×Int:=(max j.lo b.z0,min j.hi b.z1 - 1)
def jStep (b:Box)(ax at_:Int)(acc:List (Int×Int))(j:Joint):List (Int×Int):=bif jHit b ax at_ j then acc ++ [jIv b j] else acc
def jList (s:Survey)(b:Box)(ax at_:Int):List (Int×Int):=s.joints.foldl (jStep b ax at_) []
structure JB (s:Survey) (b:Box):Prop where
 z0 : -1000000≤b.z0
 z1 : -1000000≤b.z1∧b.z1≤1000000
 j:∀ j∈s.joints,-1000000≤j.hi
theorem jStep_len (b:Box)(ax at_:Int)(acc:List (Int×Int))(j:Joint):(jStep b ax at_ acc j).length≤acc.length + 1:=by
 unfold jStep
 cases jHit b ax at_ j<;>simp
abbrev bx (b:Box):List D:=[int b.x0,int b.y0,int b.z0,int b.x1,int b.y1,int b.z1]
theorem lp_pj (s:Survey)(hF:s.Fit)(b:Box)(hJ:JB s b)(ax at_:Int)(e:Env)(H:Heap)(h4:Gs.get e 4 = .ptr 4 0)(h9:Gs.get e 9=int ax)(h10:Gs.get e 10=int at_)(h11:Gs.get e 11 = .ow 1011)(h29:Gs.get e 29 = .fz false 5 (s.joints.map Joint.enc))(h30:Gs.get e 30=int s.joints.length)(h31:Gs.get e 31=int 0)(hH4:hget H 4=some (.box (bx b) false))(hH:hget H 1011=some (.row true 2 [] 0 true)) :
   Ends T 167007 e H (fun X e' H'=>X = .ex 0∧Gs.get e' 11 = .ow 1011∧hget H' 1011=some (.row true 2 ((jList s b ax at_).map ivD) 0 true)):=by
 have hb:=hF.jl
 obtain ⟨hz0,⟨hz1,hz2⟩,hjh⟩:=hJ
 refine loop_fold (T:=T) (key:=167007) (li:=l167007.1) rfl s.joints (jStep b ax at_) (fun i a e H=>a.length≤i∧Gs.get e 4 = .ptr 4 0∧Gs.get e 9=int ax∧Gs.get e 10=int at_∧Gs.get e 11 = .ow 1011∧Gs.get e 29 = .fz false 5 (s.joints.map Joint.enc)∧Gs.get e 30=int s.joints.length∧Gs.get e 31=int i∧hget H 4=some (.box (bx b) false)∧hget H 1011=some (.row true 2 (a.map ivD) 0 true)) (fun a X e' H'=>X = .ex 0∧Gs.get e' 11 = .ow 1011∧hget H' 1011=some (.row true 2 (a.map ivD) 0 true)) ?_ ?_ [] e H ⟨Nat.le_refl _,h4,h9,h10,h11,h29,h30,h31,hH4,hH⟩
 · rintro i j a e H hx hi ⟨hal,h4,h9,h10,h11,h29,h30,h31,hH4,hH⟩
   have hx':(s.joints.map Joint.enc)[i]?=some j.enc:=by simp [hx]
   have hjl:=hjh j (List.mem_of_getElem? hx)
   have hw:IntKind.i64.wrap (min j.hi b.z1 - 1)=min j.hi b.z1 - 1:=wrap_in (by omega) (by omega)
   have hsl:=jStep_len b ax at_ a j
   have hfit:fits (a.length + 1) 16=true:=by simp [fits]; omega
   cases hc:jHit b ax at_ j with
   | true=>
     have hc':=hc; simp only [jHit] at hc'
     have hm:List.map ivD a ++ [.agg [int (max j.lo b.z0),int (min j.hi b.z1 - 1)]]=List.map ivD (jStep b ax at_ a j):=by simp [jStep,hc,jIv,ivD]
     simp only [↓eA,eB,seval,l167007,h4,h9,h10,h11,h29,h30,h31,hH4,hH,hi,hx',hw,hc',hfit,hm,wrap_succ (show i < 4611686018427387904 by omega)]
     refine ⟨trivial,by omega,?_⟩
     and_intros<;>first | trivial | rfl
   | false=>
     have hc':=hc; simp only [jHit] at hc'
     have hm:jStep b ax at_ a j=a:=by simp [jStep,hc]
     simp only [↓eA,eB,seval,l167007,h4,h9,h10,h11,h29,h30,h31,hH4,hH,hi,hx',hw,hc',hm,wrap_succ (show i < 4611686018427387904 by omega)]
     refine ⟨trivial,by omega,?_⟩
     and_intros<;>first | trivial | rfl
 · rintro a e H ⟨hal,h4,h9,h10,h11,h29,h30,h31,hH4,hH⟩
   simp only [↓eA,eB,seval,l167007,h4,h9,h10,h11,h29,h30,h31,hH4,hH,Nat.lt_irrefl]
   and_intros<;>first | trivial | rfl
theorem sided_ok {s:Survey}{b:Box}{d:Int}(h:sidedErr s b d=0):surveyErr s=0∧sideBad d=false∧boxedErr s b=0:=by
 unfold sidedErr at h
 cases h2:decide (surveyErr s=0) with
 | false=>rw [h2] at h; simp only [Bool.not_false,cond_true] at h; rw [h] at h2; simp at h2
 | true=>
   rw [h2] at h; simp only [Bool.not_true,cond_false] at h
   cases h3:sideBad d with
   | false=>rw [h3] at h; exact ⟨of_decide_eq_true h2,rfl,h⟩
   | true=>rw [h3] at h; cases h
theorem boxed_ok {s:Survey}{b:Box}(h:boxedErr s b=0):b.ok=true∧outOf b s.pit=false:=by
 unfold boxedErr at h
 cases h1:b.ok with
 | false=>rw [h1] at h; cases h
 | true=>
   rw [h1] at h
   cases h2:outOf b s.pit with
   | false=>exact ⟨rfl,rfl⟩
   | true=>rw [h2] at h; cases h
structure SurveyOk (s:Survey):Prop where
 size:sizeBad s=false
 far:s.pit.six.any far6=false
 ok:s.pit.ok=true
 nm:s.names.any (fun n=>!pName n)=false
 jb:s.joints.any jbad=false
 fb:s.flaws.any fbad=false
 pe:∀ f∈s.flaws,polyErr f.base=0
 cv:s.flaws.any (fun f=>!convex f.base)=false
 out:outB s=false
 dis:disordered s=false
theorem polyErr_find {s:Survey}(h:s.flaws.find? (fun f=>!decide (polyErr f.base=0))=none):∀ f∈s.flaws,polyErr f.base=0:=by
 intro f hm; have:=List.find?_eq_none.1 h f hm; simpa using this
theorem survey_ok {s:Survey}(h:surveyErr s=0):SurveyOk s:=by
 unfold surveyErr at h
 cases h1:sizeBad s<;>rw [h1] at h<;>simp only [cond_true,cond_false] at h<;>try (cases h; done)
 cases h2:s.pit.six.any far6<;>rw [h2] at h<;>simp only [cond_true,cond_false] at h<;>try (cases h; done)
 cases h3:s.pit.ok<;>rw [h3] at h<;>simp only [Bool.not_true,Bool.not_false,cond_true,cond_false] at h<;>try (cases h; done)
 cases h4:s.names.any (fun n=>!pName n)<;>rw [h4] at h<;>simp only [cond_true,cond_false] at h<;>try (cases h; done)
 cases h5:(s.joints.any jbad || s.flaws.any fbad)<;>rw [h5] at h<;>simp only [cond_true,cond_false] at h<;>try (cases h; done)
 cases h6:s.flaws.find? (fun f=>!decide (polyErr f.base=0)) with
 | some f=>
   rw [h6] at h; simp only at h
   have:=List.find?_some h6
   rw [h] at this; simp at this
 | none=>
 rw [h6] at h; simp only at h
 cases h7:s.flaws.any (fun f=>!convex f.base)<;>rw [h7] at h<;>simp only [cond_true,cond_false] at h<;>try (cases h; done)
 cases h8:outB s<;>rw [h8] at h<;>simp only [cond_true,cond_false] at h<;>try (cases h; done)
 cases h9:disordered s<;>rw [h9] at h<;>simp only [cond_true,cond_false] at h<;>try (cases h; done)
 rw [Bool.or_eq_false_iff] at h5
 exact ⟨h1,h2,h3,h4,h5.1,h5.2,polyErr_find h6,h7,h8,h9⟩
theorem far6_no {n:Int}(h:far6 n=false) : -1000000≤n∧n≤1000000:=by
 simp only [far6,Bool.or_eq_false_iff,decide_eq_false_iff_not] at h; omega
theorem six_in {b:Box}(h:b.six.any far6=false):∀ n∈b.six,-1000000≤n∧n≤1000000:=fun n hn=>far6_no (by simpa using List.any_eq_false.1 h n hn)
theorem jb_of {s:Survey}{b:Box}(h:SurveyOk s)(hb:boxedErr s b=0):JB s b:=by
 obtain ⟨h1,h2⟩:=boxed_ok hb
 have h6:=six_in h.far
 simp only [Box.six,List.mem_cons,List.not_mem_nil,or_false,forall_eq_or_imp,forall_eq] at h6
 simp only [outOf,Bool.or_eq_false_iff,decide_eq_false_iff_not] at h2
 simp only [Box.ok,Bool.and_eq_true,decide_eq_true_eq] at h1
 refine ⟨by omega,by omega,fun j hj=>?_⟩
 have ho:=h.out
 simp only [outB,Bool.or_eq_false_iff] at ho
 have:=List.any_eq_false.1 ho.2.1 j hj
 simp only [jointOut,Bool.or_eq_true,Bool.not_eq_true',Bool.and_eq_false_iff,not_or,Bool.not_eq_false] at this
 have h3:=this.2.2
 simp only [inR,Bool.and_eq_true,decide_eq_true_eq] at h3
 omega
def pJointed (s:Survey)(b:Box)(d:Int):List (Int×Int):=jList s b (planeAx d) (planeAt b d)
theorem jList_len (s:Survey)(b:Box)(ax at_:Int):(jList s b ax at_).length≤s.joints.length:=by
 unfold jList
 have:∀ (l:List Joint) (a:List (Int×Int)),(l.foldl (jStep b ax at_) a).length≤a.length + l.length:=by
   intro l
   induction l with
   | nil=>intro a; simp
   | cons j r ih=>intro a; simp only [List.foldl_cons,List.length_cons]; have:=ih (jStep b ax at_ a j); have:=jStep_len b ax at_ a j; omega
 simpa using this s.joints []
def jointedR (s:Survey)(b:Box)(d:Int):List (Int×Int)×Int:=
 bif decide (sidedErr s b d=0) then (bif decide (nrmErr (pJointed s b d)=0) then merged (pJointed s b d) else [],nrmErr (pJointed s b d)) else ([],sidedErr s b d)
theorem e_jointed (s:Survey)(hF:s.Fit)(b:Box)(d:Int):L.call 167 [s.enc,b.enc,int d] []=some (.tup [.fz true 2 ((jointedR s b d).1.map ivD),int (jointedR s b d).2],[]):=by
 unfold jointedR
 cases h1:decide (sidedErr s b d=0) with
 | false=>exact call_eq rfl rfl (by simp only [↓eA,eB,seval,c167,e_sided s hF,h1]; rfl)
 | true=>
   have h0:=of_decide_eq_true h1
   obtain ⟨h2,h3,h4⟩:=sided_ok h0
   have hok:=survey_ok h2
   have hJ:=jb_of hok h4
   have e1:=e_plane b d h3
   have e3:=e_sided s hF b d; rw [h0] at e3
   have hb:=hF.jl
   have hjl:=jList_len s b (planeAx d) (planeAt b d)
   have hn:=e_normalize (pJointed s b d) (by unfold pJointed; omega)
   refine call_eq rfl rfl ?_
   simp only [↓eA,eB,seval,c167,e3,e1]
   generalize hE:(lim T).loop 167007 _ _=R
   obtain ⟨X,e',H',rfl,rfl,g11,gH⟩:=Ends.at hE (lp_pj s hF b hJ (planeAx d) (planeAt b d) _ _ rfl rfl rfl rfl rfl rfl rfl rfl rfl)
   have gH':hget H' 1011=some (.row true 2 ((pJointed s b d).map ivD) 0 true):=gH
   simp only [↓eA,eB,seval,g11,gH',hn]
   skip
end Tz
set_option maxRecDepth 100000
open Gs Go
namespace Tz.C18
structure Safety where
 batter:Int
 width:Int
abbrev Safety.enc (s:Safety):D:=.agg [int s.batter,int s.width]
def inr (n:Int):Bool:=decide (-1000000≤n) && decide (n≤1000000)
theorem e_in (n:Int):L.call 71 [int n] []=some (.bool (inr n),[]):=
 call_eq rfl rfl (by simp only [↓eA,eB,seval,c71]; rfl)
abbrev wsub (a b:Int):Int:=IntKind.i64.wrap (a - b)
def gap (a b:Box):Int:=max (max (max (wsub a.x0 b.x1) (wsub b.x0 a.x1)) 0) (max (max (wsub a.y0 b.y1) (wsub b.y0 a.y1)) 0)
theorem e_gap (a b:Box):L.call 72 [a.enc,b.enc] []=some (int (gap a b),[]):=
 call_eq rfl rfl (by simp only [↓eA,eB,seval,c72]; rfl)
theorem max_turn (p q:Int):max 0 (max p q)=max (max q p) 0:=by rw [Int.max_comm 0,Int.max_comm p q]
theorem e_rGap (a b:Box):L.call 158 [a.enc,b.enc] []=some (int (gap a b),[]):=
 call_eq rfl rfl (by simp only [↓eA,eB,seval,c158,max_turn]; rfl)
theorem e_rAt (x y z a:Int):L.call 207 [.agg [int x,int y,int z],int a] []=some (int (if a=0 then x else if a=1 then y else z),[]):=
 call_eq rfl rfl (by
   by_cases h0:a=0
   · simp only [↓eA,eB,seval,c207,h0]
   · by_cases h1:a=1
     · simp only [↓eA,eB,seval,c207,h0,h1]
     · simp only [↓eA,eB,seval,c207,h0,h1])
def bad3 (x y z:Int):Bool:=(!inr x || !inr y) || !inr z
def _root_.Tz.Box.near (b:Box):Bool:=!bad3 b.x0 b.y0 b.z0 && !bad3 b.x1 b.y1 b.z1
theorem i40:inb 0 4=true:=rfl
theorem i41:inb 1 4=true:=rfl
theorem i42:inb 2 4=true:=rfl
theorem i43:inb 3 4=true:=rfl
def rule (s:Safety):Bool:=((decide (s.batter < 0) || decide (10000 < s.batter)) || decide (s.width < 0)) || decide (1000000 < s.width)
abbrev wmul (a b:Int):Int:=IntKind.i64.wrap (a * b)
def away (s:Safety)(a b:Box):Bool:=decide (wsub b.z0 a.z0≤0) || decide (IntKind.i64.wrap (wmul s.batter (wsub b.z0 a.z0) + wmul 1000 s.width)≤wmul 1000 (gap a b))
def clearB (s:Safety)(a b:Box):Bool:=bif (a.near && b.near) && !rule s then away s a b else false
theorem e_Clear (s:Safety)(a b:Box):L.call 38 [s.enc,a.enc,b.enc] []=some (.bool (clearB s a b),[]):=
 call_eq rfl rfl (by
   simp only [↓eA,eB,seval,c38]
   rw [loop_unfold_c (T:=T) (k:=38003) rfl]
   simp only [↓eA,eB,seval,l38003,e_in,i40]
   unfold clearB Box.near bad3
   cases h0:(!inr a.x0 || !inr a.y0 || !inr a.z0) with
   | true=>simp only [↓eA,eB,seval]
   | false=>
   simp only [↓eA,eB,seval]
   rw [loop_unfold_c (T:=T) (k:=38003) rfl]
   simp only [↓eA,eB,seval,l38003,e_in,i41]
   cases h1:(!inr a.x1 || !inr a.y1 || !inr a.z1) with
   | true=>simp only [↓eA,eB,seval]
   | false=>
   simp only [↓eA,eB,seval]
   rw [loop_unfold_c (T:=T) (k:=38003) rfl]
   simp only [↓eA,eB,seval,l38003,e_in,i42]
   cases h2:(!inr b.x0 || !inr b.y0 || !inr b.z0) with
   | true=>simp only [↓eA,eB,seval]
   | false=>
   simp only [↓eA,eB,seval]
   rw [loop_unfold_c (T:=T) (k:=38003) rfl]
   simp only [↓eA,eB,seval,l38003,e_in,i43]
   cases h3:(!inr b.x1 || !inr b.y1 || !inr b.z1) with
   | true=>simp only [↓eA,eB,seval]
   | false=>
   simp only [↓eA,eB,seval]
   rw [loop_unfold_c (T:=T) (k:=38003) rfl]
   simp only [↓eA,eB,seval,l38003]
   unfold rule
   cases h4:(((decide (s.batter < 0) || decide (10000 < s.batter)) || decide (s.width < 0)) || decide (1000000 < s.width)) with
   | true=>simp only [↓eA,eB,seval]
   | false=>
   simp only [↓eA,eB,seval,e_gap]
   rfl)
def bad4 (p q:Int):Bool:=((decide (p < -1000000) || decide (1000000 < p)) || decide (q < -1000000)) || decide (1000000 < q)
def _root_.Tz.Box.rnear (b:Box):Bool:=!(bad4 b.x0 b.x1 || (bad4 b.y0 b.y1 || bad4 b.z0 b.z1))
theorem e_rnear (b:Box):L.call 157 [b.enc] []=some (.bool b.rnear,[]):=
 call_eq rfl rfl (by
   simp only [↓eA,eB,seval,c157]
   rw [loop_unfold_c (T:=T) (k:=157002) rfl]
   simp only [↓eA,eB,seval,l157002,e_rAt]
   unfold Box.rnear bad4
   cases h0:(((decide (b.x0 < -1000000) || decide (1000000 < b.x0)) || decide (b.x1 < -1000000)) || decide (1000000 < b.x1)) with
   | true=>simp only [↓eA,eB,seval]
   | false=>
   simp only [↓eA,eB,seval]
   rw [loop_unfold_c (T:=T) (k:=157002) rfl]
   simp only [↓eA,eB,seval,l157002,e_rAt]
   cases h1:(((decide (b.y0 < -1000000) || decide (1000000 < b.y0)) || decide (b.y1 < -1000000)) || decide (1000000 < b.y1)) with
   | true=>simp only [↓eA,eB,seval]
   | false=>
   simp only [↓eA,eB,seval]
   rw [loop_unfold_c (T:=T) (k:=157002) rfl]
   simp only [↓eA,eB,seval,l157002,e_rAt]
   cases h2:(((decide (b.z0 < -1000000) || decide (1000000 < b.z0)) || decide (b.z1 < -1000000)) || decide (1000000 < b.z1)) with
   | true=>simp only [↓eA,eB,seval]
   | false=>
   simp only [↓eA,eB,seval]
   rw [loop_unfold_c (T:=T) (k:=157002) rfl]
   simp only [↓eA,eB,seval,l157002])
theorem near_eq (b:Box):b.rnear=b.near:=by
 unfold Box.rnear Box.near bad4 bad3 inr
 rw [Bool.eq_iff_iff]; simp; omega
def rclear (s:Safety)(a b:Box):Bool:=bif ((((( !a.rnear || !b.rnear) || decide (s.batter < 0)) || decide (10000 < s.batter)) || decide (s.width < 0)) || decide (1000000 < s.width)) then false else away s a b
theorem e_rClear (s:Safety)(a b:Box):L.call 101 [s.enc,a.enc,b.enc] []=some (.bool (rclear s a b),[]):=
 call_eq rfl rfl (by
   simp only [↓eA,eB,seval,c101,e_rnear]
   unfold rclear
   cases h0:((((( !a.rnear || !b.rnear) || decide (s.batter < 0)) || decide (10000 < s.batter)) || decide (s.width < 0)) || decide (1000000 < s.width)) with
   | true=>simp only [↓eA,eB,seval]
   | false=>
   simp only [↓eA,eB,seval,e_rGap]
   rfl)
theorem clear_eq (s:Safety)(a b:Box):clearB s a b=rclear s a b:=by
 unfold clearB rclear rule
 rw [near_eq,near_eq]
 cases a.near<;>cases b.near<;>simp only [Bool.not_true,Bool.not_false,Bool.true_or,Bool.false_or,Bool.or_true,Bool.true_and,Bool.false_and,Bool.and_false,cond_true,cond_false]
 cases (((decide (s.batter < 0) || decide (10000 < s.batter)) || decide (s.width < 0)) || decide (1000000 < s.width))<;>rfl
end Tz.C18
namespace Gs
open Go
variable [GlobTab]
theorem loop_findH {T:Tab}{key:Nat}{li:LI}(hl:T.lp key=some li){α:Type}(xs:List α)(bad:α→Bool)(St:Nat→Env→Heap→Prop)(R:α→X→Env→Heap→Prop)(E:X→Env→Heap→Prop)
   (step:∀ i x e H,xs[i]?=some x→i < xs.length→St i e H→Good (round (lim T) li e H) fun X e' H'=>match bad x with | false=>isNor X=true∧St (i + 1) e' H' | true=>isNor X=false∧R x X e' H')
   (fin:∀ e H,St xs.length e H→Good (round (lim T) li e H) fun X e' H'=>isNor X=false∧E X e' H') (e:Env) (H:Heap) (h0:St 0 e H) :
   Ends T key e H (fun X e' H'=>match xs.find? bad with | some x=>R x X e' H' | none=>E X e' H'):=by
 refine (loop_thru hl (S:=Unit) (R:=α) (fun s x=>bif bad x then .inl x else .inr s) xs (fun i _ e H'=>St i e H') (fun x X e' H'=>R x X e' H') (fun _ X e' H'=>E X e' H') ?_ ?_ ?_ xs [] () e H rfl h0).mono fun X e' H' h=>?_
 · rintro i x s s' e H' hi hs hf
   have hb:bad x=false:=by cases hb:bad x<;>simp_all
   have:=step i x e H' hi (List.getElem?_eq_some_iff.1 hi).1 hs
   simpa only [hb] using this
 · rintro i x s r e H' hi hs hf
   have hb:bad x=true:=by cases hb:bad x<;>simp_all
   have hr:r=x:=by simp [hb] at hf; exact hf.symm
   have:=step i x e H' hi (List.getElem?_eq_some_iff.1 hi).1 hs
   rw [hr]
   simpa only [hb] using this
 · rintro s e H' hs
   exact fin e H' hs
 · rw [thru_find] at h
   cases hx:xs.find? bad with
   | some x=>rw [hx] at h; exact h
   | none=>rw [hx] at h; exact h
end Gs
set_option maxRecDepth 100000
open Gs Go
namespace Tz.C18
structure Block where
 name:ByteArray
 box:Box
abbrev Block.enc (b:Block):D:=.agg [.str b.name,int b.box.x0,int b.box.y0,int b.box.z0,int b.box.x1,int b.box.y1,int b.box.z1]
abbrev blks (bs:List Block):D:=.fz false 7 (bs.map Block.enc)
theorem e_bsides (b:Box):L.call 175 [b.enc] []=some (.agg [int b.x0,int b.x1,int b.y0,int b.y1,int b.z0,int b.z1],[]):=
 call_eq rfl rfl (by simp only [↓eA,eB,seval,c175])
theorem i30:inb 0 3=true:=rfl
theorem i31:inb 1 3=true:=rfl
theorem i32:inb 2 3=true:=rfl
theorem i20:inb 0 2=true:=rfl
theorem i21:inb 1 2=true:=rfl
end Tz.C18
set_option maxRecDepth 100000
open Gs Go
namespace Tz.C18
def named (n:ByteArray)(b:Block):Bool:=seq n b.name
def dupF:List Block→List Block→Bool
 | _,[]=>false
 | s,b :: r=>s.any (named b.name) || dupF (s ++ [b]) r
theorem thru_dup:∀ (r s:List Block),thru (R:=Unit) (fun (s:List Block) b=>bif s.any (named b.name) then .inl () else .inr (s ++ [b])) r s=bif dupF s r then .inl () else .inr (s ++ r)
 | [],s=>by simp [thru,dupF]
 | b :: r,s=>by
   simp only [thru,dupF]
   cases h:s.any (named b.name) with
   | true=>rfl
   | false=>simp only [cond_false,Bool.false_or]; rw [thru_dup r (s ++ [b])]; simp
end Tz.C18
set_option maxRecDepth 100000
open Gs Go
namespace Tz.C18
def over2 (a b:Box):Bool:=decide (max a.x0 b.x0 < min a.x1 b.x1) && decide (max a.y0 b.y0 < min a.y1 b.y1)
theorem e_over (a b:Box):L.call 70 [a.enc,b.enc] []=some (.bool (over2 a b),[]):=
 call_eq rfl rfl (by simp only [↓eA,eB,seval,c70]; rfl)
abbrev Block.cells (b:Block):List D:=[.str b.name,int b.box.x0,int b.box.y0,int b.box.z0,int b.box.x1,int b.box.y1,int b.box.z1]
theorem e_sort (nz:Bool)(l:List ByteArray)(hb:l.length < 4611686018427387904):L.call 106 [.ow 500000] [(500000,.row nz 1 (l.map .str) 0 false)]=some (.tup [],[(500000,.row nz 1 ((sortB l).map .str) 0 false)]):=
 ext_eq (s:=sortStrX) rfl (by simp [sortStrX,hget,strs_map,hset,hb])
def namesOf (p:Block→Bool)(bs:List Block):List ByteArray:=(bs.filter p).map (·.name)
end Tz.C18
set_option maxRecDepth 100000
open Gs Go
namespace Tz.C18
structure Bench where
 name:ByteArray
 lo:Int
 hi:Int
abbrev Bench.enc (b:Bench):D:=.agg [.str b.name,int b.lo,int b.hi]
set_option maxHeartbeats 400000 in
theorem lp_idx_block (p:Block→Bool)(g:Nat)(caps:List D)(nz:Bool)(xs:List Block)(hb:xs.length < 1000000000)(hc:closedL caps=true)
   (hp:∀ x∈xs,L.call g (Block.enc x :: caps) []=some (.bool (p x),[])) (e:Env) (h0:Gs.get e 0 = .fz nz 7 (xs.map Block.enc)) (h1:Gs.get e 1 = .fn g caps) (h7:Gs.get e 7=int xs.length) (h8:Gs.get e 8=int 0) :
   Ends T 82002 e [] (fun X e' H'=>H'=[]∧match xs.findIdx? p with | some i=>X = .ret∧Gs.get e' 4=int i | none=>X = .ex 0):=by
 refine (loop_thru (T:=T) (key:=82002) (li:=l82002.1) rfl (R:=Nat) (fun (i:Nat) x=>bif p x then .inl i else .inr (i + 1)) xs (fun i j e H=>H=[]∧j=i∧Gs.get e 0 = .fz nz 7 (xs.map Block.enc)∧Gs.get e 1 = .fn g caps∧Gs.get e 7=int xs.length∧Gs.get e 8=int i) (fun i X e' H'=>H'=[]∧X = .ret∧Gs.get e' 4=int i) (fun _ X e' H'=>H'=[]∧X = .ex 0) ?_ ?_ ?_ xs [] 0 e [] rfl ⟨rfl,rfl,h0,h1,h7,h8⟩).mono ?_
 · rintro i x j j' e H hi ⟨rfl,hji,h0,h1,h7,h8⟩ hf
   have hij:=hji.symm; subst hij
   have hlt:i < xs.length:=(List.getElem?_eq_some_iff.1 hi).1
   have hp':=hp x (List.mem_of_getElem? hi)
   have hpf:p x=false:=by cases h:p x<;>simp_all
   have hj:j'=i + 1:=by simp [hpf] at hf; exact hf.symm
   subst hj
   have hxi:(xs.map Block.enc)[i]?=some (Block.enc x):=by simp [hi]
   rw [hpf] at hp'
   simp only [↓eA,eB,seval,l82002,h0,h1,h7,h8,hlt,hxi,hp',renL_closed hc,wrap_succ (show i < 4611686018427387904 by omega)]
   exact ⟨trivial,trivial,trivial,trivial,trivial,trivial,trivial⟩
 · rintro i x j r e H hi ⟨rfl,hji,h0,h1,h7,h8⟩ hf
   have hij:=hji.symm; subst hij
   have hlt:i < xs.length:=(List.getElem?_eq_some_iff.1 hi).1
   have hp':=hp x (List.mem_of_getElem? hi)
   have hpf:p x=true:=by cases h:p x<;>simp_all
   have hj:r=i:=by simp [hpf] at hf; exact hf.symm
   subst hj
   have hxi:(xs.map Block.enc)[r]?=some (Block.enc x):=by simp [hi]
   rw [hpf] at hp'
   simp only [↓eA,eB,seval,l82002,h0,h1,h7,h8,hlt,hxi,hp',renL_closed hc]
   exact ⟨trivial,trivial,trivial,trivial⟩
 · rintro j e H ⟨rfl,rfl,h0,h1,h7,h8⟩
   simp only [↓eA,eB,seval,l82002,h0,h1,h7,h8,Nat.lt_irrefl]
   exact ⟨trivial,trivial,trivial⟩
 · intro X e' H' h
   rw [thru_idx] at h
   cases hf:xs.findIdx? p with
   | none=>rw [hf] at h; exact h
   | some i=>rw [hf] at h; simpa using h
theorem e_idx_block (p:Block→Bool)(g:Nat)(caps:List D)(nz:Bool)(xs:List Block)(hb:xs.length < 1000000000)(hc:closedL caps=true)
   (hp:∀ x∈xs,L.call g (Block.enc x :: caps) []=some (.bool (p x),[])):L.call 82 [.fz nz 7 (xs.map Block.enc),.fn g caps] []=some (int (idxOf p xs),[]):=
 call_eq rfl rfl (by
   simp only [↓eA,eB,seval,c82]
   obtain ⟨X,e',H',h,rfl,h2⟩:=lp_idx_block p g caps nz xs hb hc hp [(0,.fz nz 7 (xs.map Block.enc)),(1,.fn g caps),(4,int 0),(6,.fz nz 7 (xs.map Block.enc)),(7,int xs.length),(8,int 0)] rfl rfl rfl rfl
   rw [h]
   unfold idxOf
   cases hf:xs.findIdx? p with
   | none=>rw [hf] at h2; subst h2; simp only [↓eA,eB,seval]
   | some i=>rw [hf] at h2; obtain ⟨rfl,h4⟩:=h2; simp only [↓eA,eB,seval,h4])
theorem e_con_block (p:Block→Bool)(g:Nat)(caps:List D)(nz:Bool)(xs:List Block)(hb:xs.length < 1000000000)(hc:closedL caps=true)
   (hp:∀ x∈xs,L.call g (Block.enc x :: caps) []=some (.bool (p x),[])):L.call 148 [.fz nz 7 (xs.map Block.enc),.fn g caps] []=some (.bool (xs.any p),[]):=
 call_eq rfl rfl (by
   simp only [↓eA,eB,seval,c148,renL_closed hc,e_idx_block p g caps nz xs hb hc hp,idxOf_ge])
set_option maxHeartbeats 400000 in
theorem lp_idx_bench (p:Bench→Bool)(g:Nat)(caps:List D)(nz:Bool)(xs:List Bench)(hb:xs.length < 1000000000)(hc:closedL caps=true)
   (hp:∀ x∈xs,L.call g (Bench.enc x :: caps) []=some (.bool (p x),[])) (e:Env) (h0:Gs.get e 0 = .fz nz 3 (xs.map Bench.enc)) (h1:Gs.get e 1 = .fn g caps) (h7:Gs.get e 7=int xs.length) (h8:Gs.get e 8=int 0) :
   Ends T 173002 e [] (fun X e' H'=>H'=[]∧match xs.findIdx? p with | some i=>X = .ret∧Gs.get e' 4=int i | none=>X = .ex 0):=by
 refine (loop_thru (T:=T) (key:=173002) (li:=l173002.1) rfl (R:=Nat) (fun (i:Nat) x=>bif p x then .inl i else .inr (i + 1)) xs (fun i j e H=>H=[]∧j=i∧Gs.get e 0 = .fz nz 3 (xs.map Bench.enc)∧Gs.get e 1 = .fn g caps∧Gs.get e 7=int xs.length∧Gs.get e 8=int i) (fun i X e' H'=>H'=[]∧X = .ret∧Gs.get e' 4=int i) (fun _ X e' H'=>H'=[]∧X = .ex 0) ?_ ?_ ?_ xs [] 0 e [] rfl ⟨rfl,rfl,h0,h1,h7,h8⟩).mono ?_
 · rintro i x j j' e H hi ⟨rfl,hji,h0,h1,h7,h8⟩ hf
   have hij:=hji.symm; subst hij
   have hlt:i < xs.length:=(List.getElem?_eq_some_iff.1 hi).1
   have hp':=hp x (List.mem_of_getElem? hi)
   have hpf:p x=false:=by cases h:p x<;>simp_all
   have hj:j'=i + 1:=by simp [hpf] at hf; exact hf.symm
   subst hj
   have hxi:(xs.map Bench.enc)[i]?=some (Bench.enc x):=by simp [hi]
   rw [hpf] at hp'
   simp only [↓eA,eB,seval,l173002,h0,h1,h7,h8,hlt,hxi,hp',renL_closed hc,wrap_succ (show i < 4611686018427387904 by omega)]
   exact ⟨trivial,trivial,trivial,trivial,trivial,trivial,trivial⟩
 · rintro i x j r e H hi ⟨rfl,hji,h0,h1,h7,h8⟩ hf
   have hij:=hji.symm; subst hij
   have hlt:i < xs.length:=(List.getElem?_eq_some_iff.1 hi).1
   have hp':=hp x (List.mem_of_getElem? hi)
   have hpf:p x=true:=by cases h:p x<;>simp_all
   have hj:r=i:=by simp [hpf] at hf; exact hf.symm
   subst hj
   have hxi:(xs.map Bench.enc)[r]?=some (Bench.enc x):=by simp [hi]
   rw [hpf] at hp'
   simp only [↓eA,eB,seval,l173002,h0,h1,h7,h8,hlt,hxi,hp',renL_closed hc]
   exact ⟨trivial,trivial,trivial,trivial⟩
 · rintro j e H ⟨rfl,rfl,h0,h1,h7,h8⟩
   simp only [↓eA,eB,seval,l173002,h0,h1,h7,h8,Nat.lt_irrefl]
   exact ⟨trivial,trivial,trivial⟩
 · intro X e' H' h
   rw [thru_idx] at h
   cases hf:xs.findIdx? p with
   | none=>rw [hf] at h; exact h
   | some i=>rw [hf] at h; simpa using h
theorem e_idx_bench (p:Bench→Bool)(g:Nat)(caps:List D)(nz:Bool)(xs:List Bench)(hb:xs.length < 1000000000)(hc:closedL caps=true)
   (hp:∀ x∈xs,L.call g (Bench.enc x :: caps) []=some (.bool (p x),[])):L.call 173 [.fz nz 3 (xs.map Bench.enc),.fn g caps] []=some (int (idxOf p xs),[]):=
 call_eq rfl rfl (by
   simp only [↓eA,eB,seval,c173]
   obtain ⟨X,e',H',h,rfl,h2⟩:=lp_idx_bench p g caps nz xs hb hc hp [(0,.fz nz 3 (xs.map Bench.enc)),(1,.fn g caps),(4,int 0),(6,.fz nz 3 (xs.map Bench.enc)),(7,int xs.length),(8,int 0)] rfl rfl rfl rfl
   rw [h]
   unfold idxOf
   cases hf:xs.findIdx? p with
   | none=>rw [hf] at h2; subst h2; simp only [↓eA,eB,seval]
   | some i=>rw [hf] at h2; obtain ⟨rfl,h4⟩:=h2; simp only [↓eA,eB,seval,h4])
theorem e_con_bench (p:Bench→Bool)(g:Nat)(caps:List D)(nz:Bool)(xs:List Bench)(hb:xs.length < 1000000000)(hc:closedL caps=true)
   (hp:∀ x∈xs,L.call g (Bench.enc x :: caps) []=some (.bool (p x),[])):L.call 193 [.fz nz 3 (xs.map Bench.enc),.fn g caps] []=some (.bool (xs.any p),[]):=
 call_eq rfl rfl (by
   simp only [↓eA,eB,seval,c193,renL_closed hc,e_idx_bench p g caps nz xs hb hc hp,idxOf_ge])
theorem e_bCommon (a b:Box):L.call 197 [a.enc,b.enc] []=some (.agg [int (max a.x0 b.x0),int (min a.x1 b.x1),int (max a.y0 b.y0),int (min a.y1 b.y1),int (max a.z0 b.z0),int (min a.z1 b.z1)],[]):=
 call_eq rfl rfl (by
   simp only [↓eA,eB,seval,c197,e_bsides a,e_bsides b]
   rw [loop_unfold_c (T:=T) (k:=197003) rfl]
   simp only [↓eA,eB,seval,l197003,i30,i20,i21]
   rw [loop_unfold_c (T:=T) (k:=197003) rfl]
   simp only [↓eA,eB,seval,l197003,i31,i20,i21]
   rw [loop_unfold_c (T:=T) (k:=197003) rfl]
   simp only [↓eA,eB,seval,l197003,i32,i20,i21]
   rw [loop_unfold_c (T:=T) (k:=197003) rfl]
   simp only [↓eA,eB,seval,l197003])
def apart (a b:Box):Bool:=decide (min a.x1 b.x1≤max a.x0 b.x0) || (decide (min a.y1 b.y1≤max a.y0 b.y0) || decide (min a.z1 b.z1≤max a.z0 b.z0))
theorem e_bOverlap (a b:Box):L.call 150 [a.enc,b.enc] []=some (.bool (!apart a b),[]):=
 call_eq rfl rfl (by
   simp only [↓eA,eB,seval,c150,e_bCommon a b]
   unfold apart
   rw [loop_unfold_c (T:=T) (k:=150002) rfl]
   simp only [↓eA,eB,seval,l150002,i30,i20,i21]
   cases h0:decide (min a.x1 b.x1≤max a.x0 b.x0) with
   | true=>simp only [↓eA,eB,seval]
   | false=>
   simp only [↓eA,eB,seval]
   rw [loop_unfold_c (T:=T) (k:=150002) rfl]
   simp only [↓eA,eB,seval,l150002,i31,i20,i21]
   cases h1:decide (min a.y1 b.y1≤max a.y0 b.y0) with
   | true=>simp only [↓eA,eB,seval]
   | false=>
   simp only [↓eA,eB,seval]
   rw [loop_unfold_c (T:=T) (k:=150002) rfl]
   simp only [↓eA,eB,seval,l150002,i32,i20,i21]
   cases h2:decide (min a.z1 b.z1≤max a.z0 b.z0) with
   | true=>simp only [↓eA,eB,seval]
   | false=>
   simp only [↓eA,eB,seval]
   rw [loop_unfold_c (T:=T) (k:=150002) rfl]
   simp only [↓eA,eB,seval,l150002])
def insideB (a b:Box):Bool:=!((decide (a.x0 < b.x0) || decide (b.x1 < a.x1)) || ((decide (a.y0 < b.y0) || decide (b.y1 < a.y1)) || (decide (a.z0 < b.z0) || decide (b.z1 < a.z1))))
theorem e_bInside (a b:Box):L.call 142 [a.enc,b.enc] []=some (.bool (insideB a b),[]):=
 call_eq rfl rfl (by
   simp only [↓eA,eB,seval,c142,e_bsides a,e_bsides b]
   unfold insideB
   rw [loop_unfold_c (T:=T) (k:=142003) rfl]
   simp only [↓eA,eB,seval,l142003,i30,i20,i21]
   cases h0:(decide (a.x0 < b.x0) || decide (b.x1 < a.x1)) with
   | true=>simp only [↓eA,eB,seval]
   | false=>
   simp only [↓eA,eB,seval]
   rw [loop_unfold_c (T:=T) (k:=142003) rfl]
   simp only [↓eA,eB,seval,l142003,i31,i20,i21]
   cases h1:(decide (a.y0 < b.y0) || decide (b.y1 < a.y1)) with
   | true=>simp only [↓eA,eB,seval]
   | false=>
   simp only [↓eA,eB,seval]
   rw [loop_unfold_c (T:=T) (k:=142003) rfl]
   simp only [↓eA,eB,seval,l142003,i32,i20,i21]
   cases h2:(decide (a.z0 < b.z0) || decide (b.z1 < a.z1)) with
   | true=>simp only [↓eA,eB,seval]
   | false=>
   simp only [↓eA,eB,seval]
   rw [loop_unfold_c (T:=T) (k:=142003) rfl]
   simp only [↓eA,eB,seval,l142003])
end Tz.C18
set_option maxRecDepth 100000
open Gs Go
namespace Tz.C18
structure Stand where
 name:ByteArray
 x:Int
 y:Int
 radii:List Int
 limits:List Int
abbrev Stand.enc (s:Stand):D:=.agg [.str s.name,int s.x,int s.y,.fz false 1 (s.radii.map int),.fz false 1 (s.limits.map int)]
structure Site where
 survey:Survey
 benches:List Bench
 blocks:List Block
 safety:Safety
 stands:List Stand
 density:Int
abbrev benchs (l:List Bench):D:=.fz false 3 (l.map Bench.enc)
abbrev Site.cells (s:Site):List D:=[int s.survey.pit.x0,int s.survey.pit.y0,int s.survey.pit.z0,int s.survey.pit.x1,int s.survey.pit.y1,int s.survey.pit.z1,.bool s.survey.o0,.bool s.survey.o1,.bool s.survey.o2,.bool s.survey.o3,
 .fz false 2 (s.survey.beds.map Bed.enc),.fz false 5 (s.survey.joints.map Joint.enc),.fz false 4 (s.survey.flaws.map Flaw.enc),benchs s.benches,blks s.blocks,int s.safety.batter,int s.safety.width,.fz false 5 (s.stands.map Stand.enc),int s.density]
abbrev Site.enc (s:Site):D:=.agg s.cells
structure Site.Fit (s:Site):Prop where
 sv:s.survey.Fit
 bl:s.blocks.length < 1000000
 be:s.benches.length < 1000000
 bn:∀ b∈s.blocks,b.name.size < 1000000000
 en:∀ b∈s.benches,b.name.size < 1000000000
def cMany (s:Site):Bool:=decide (32 < (s.benches.length:Int)) || decide (256 < (s.blocks.length:Int))
theorem e_c1 (s:Site):L.call 129 [s.enc] []=some (.bool (cMany s),[]):=
 call_eq rfl rfl (by simp only [↓eA,eB,seval,c129,List.length_map]; rfl)
theorem e_span (n lo hi:Int):L.call 131 [int n,int lo,int hi] []=some (.bool (decide (lo≤n) && decide (n≤hi)),[]):=
 call_eq rfl rfl (by simp only [↓eA,eB,seval,c131])
def cRange (s:Site):Bool:=(!(decide (0≤s.safety.batter) && decide (s.safety.batter≤10000)) || !(decide (0≤s.safety.width) && decide (s.safety.width≤1000000))) || !(decide (1≤s.density) && decide (s.density≤10000))
theorem e_c2 (s:Site):L.call 130 [s.enc] []=some (.bool (cRange s),[]):=
 call_eq rfl rfl (by simp only [↓eA,eB,seval,c130,e_span]; rfl)
theorem e_c3 (s:Site)(b:Bench)(h:b.name.size < 1000000000):L.call 134 [s.enc,b.enc] []=some (.bool (!pName b.name),[]):=
 call_eq rfl rfl (by simp only [↓eA,eB,seval,c134,e_pName b.name h])
theorem e_c4 (s:Site)(b:Block)(h:b.name.size < 1000000000):L.call 136 [s.enc,b.enc] []=some (.bool (!pName b.name),[]):=
 call_eq rfl rfl (by simp only [↓eA,eB,seval,c136,e_pName b.name h])
theorem e_c5 (s:Site)(b:Bench):L.call 137 [s.enc,b.enc] []=some (.bool (decide (b.hi≤b.lo)),[]):=
 call_eq rfl rfl (by simp only [↓eA,eB,seval,c137])
def emptyB (b:Box):Bool:=(decide (b.x1≤b.x0) || decide (b.y1≤b.y0)) || decide (b.z1≤b.z0)
theorem e_empty (b:Box):L.call 139 [b.enc] []=some (.bool (emptyB b),[]):=
 call_eq rfl rfl (by simp only [↓eA,eB,seval,c139]; rfl)
theorem e_c6 (s:Site)(b:Block):L.call 138 [s.enc,b.enc] []=some (.bool (emptyB b.box),[]):=
 call_eq rfl rfl (by simp only [↓eA,eB,seval,c138,e_empty b.box])
def benchOut (s:Site)(b:Bench):Bool:=decide (b.lo < s.survey.pit.z0) || decide (s.survey.pit.z1 < b.hi)
theorem e_c7 (s:Site)(b:Bench):L.call 140 [s.enc,b.enc] []=some (.bool (benchOut s b),[]):=
 call_eq rfl rfl (by simp only [↓eA,eB,seval,c140]; rfl)
def blockOut (s:Site)(b:Block):Bool:=!insideB b.box s.survey.pit
theorem e_c8 (s:Site)(b:Block):L.call 141 [s.enc,b.enc] []=some (.bool (blockOut s b),[]):=
 call_eq rfl rfl (by simp only [↓eA,eB,seval,c141,e_bInside b.box s.survey.pit]; rfl)
abbrev geBench (a b:Bench):Bool:=decide (b.lo < a.hi)
abbrev geBlock (a b:Block):Bool:=!slt a.name b.name
abbrev Hst (s:Site):Heap:=[(1,.box s.cells false)]
theorem lp_c9 (s:Site)(hF:s.Fit)(e:Env)(h1:Gs.get e 1 = .ptr 1 0)(hi:Gs.get e 3=int (1:Nat)) :
   Ends T 143002 e (Hst s) (fun X e' H'=>H'=Hst s∧match steps s.benches geBench with | true=>X = .ret∧Gs.get e' 2 = .bool true | false=>X = .ex 0):=by
 have hb:=hF.be
 refine loop_fr (T:=T) (key:=143002) (li:=l143002.1) rfl 1 s.benches.length (badIx s.benches geBench) (Hst s) (fun k e=>Gs.get e 1 = .ptr 1 0∧Gs.get e 3=int k) (fun X e'=>X = .ret∧Gs.get e' 2 = .bool true) (fun X e'=>X = .ex 0) ?_ ?_ e ⟨h1,hi⟩
 · rintro k e hk hlt ⟨h1,h3⟩
   obtain ⟨y,hy⟩:∃ y,s.benches[k]?=some y:=⟨_,List.getElem?_eq_getElem (by omega)⟩
   obtain ⟨p,hp⟩:∃ p,s.benches[k - 1]?=some p:=⟨_,List.getElem?_eq_getElem (by omega)⟩
   have hil:k - 1 < s.benches.length:=by omega
   have hy':(s.benches.map Bench.enc)[k]?=some y.enc:=by simp [hy]
   have hp':(s.benches.map Bench.enc)[k - 1]?=some p.enc:=by simp [hp]
   have hbd:badIx s.benches geBench k=geBench p y:=by simp only [badIx,hy,hp]
   rw [hbd]
   simp only [↓eA,eB,seval,l143002,h1,h3,hlt,hil,hy',hp',wrap_pred (show 0 < k by omega) (show k < 4611686018427387904 by omega),wrap_succ (show k < 4611686018427387904 by omega)]
   cases hc:geBench p y<;>(try simp only [Bool.not_eq_true',Bool.not_eq_false'] at hc)<;>simp only [↓eA,eB,seval,hc]<;>and_intros<;>first | trivial | rfl
 · rintro k e hk _ ⟨h1,h3⟩
   have hlt:¬ k < s.benches.length:=by omega
   simp only [↓eA,eB,seval,l143002,h1,h3,hlt]
   and_intros<;>first | trivial | rfl
theorem e_c9 (s:Site)(hF:s.Fit):L.call 143 [s.enc] []=some (.bool (steps s.benches geBench),[]):=
 call_eq rfl rfl (by
   simp only [↓eA,eB,seval,c143]
   generalize hE:(lim T).loop 143002 _ _=R
   obtain ⟨X,e',H',rfl,rfl,hp⟩:=Ends.at hE (lp_c9 s hF _ rfl rfl)
   cases hs:steps s.benches geBench with
   | true=>rw [hs] at hp; obtain ⟨rfl,g2⟩:=hp; simp only [↓eA,eB,seval,g2]
   | false=>rw [hs] at hp; subst hp; simp only [↓eA,eB,seval])
theorem lp_c10 (s:Site)(hF:s.Fit)(e:Env)(h1:Gs.get e 1 = .ptr 1 0)(hi:Gs.get e 3=int (1:Nat)) :
   Ends T 145002 e (Hst s) (fun X e' H'=>H'=Hst s∧match steps s.blocks geBlock with | true=>X = .ret∧Gs.get e' 2 = .bool true | false=>X = .ex 0):=by
 have hb:=hF.bl
 refine loop_fr (T:=T) (key:=145002) (li:=l145002.1) rfl 1 s.blocks.length (badIx s.blocks geBlock) (Hst s) (fun k e=>Gs.get e 1 = .ptr 1 0∧Gs.get e 3=int k) (fun X e'=>X = .ret∧Gs.get e' 2 = .bool true) (fun X e'=>X = .ex 0) ?_ ?_ e ⟨h1,hi⟩
 · rintro k e hk hlt ⟨h1,h3⟩
   obtain ⟨y,hy⟩:∃ y,s.blocks[k]?=some y:=⟨_,List.getElem?_eq_getElem (by omega)⟩
   obtain ⟨p,hp⟩:∃ p,s.blocks[k - 1]?=some p:=⟨_,List.getElem?_eq_getElem (by omega)⟩
   have hil:k - 1 < s.blocks.length:=by omega
   have hy':(s.blocks.map Block.enc)[k]?=some y.enc:=by simp [hy]
   have hp':(s.blocks.map Block.enc)[k - 1]?=some p.enc:=by simp [hp]
   have hbd:badIx s.blocks geBlock k=geBlock p y:=by simp only [badIx,hy,hp]
   rw [hbd]
   simp only [↓eA,eB,seval,l145002,h1,h3,hlt,hil,hy',hp',wrap_pred (show 0 < k by omega) (show k < 4611686018427387904 by omega),wrap_succ (show k < 4611686018427387904 by omega)]
   cases hc:geBlock p y<;>(try simp only [Bool.not_eq_true',Bool.not_eq_false'] at hc)<;>simp only [↓eA,eB,seval,hc]<;>and_intros<;>first | trivial | rfl
 · rintro k e hk _ ⟨h1,h3⟩
   have hlt:¬ k < s.blocks.length:=by omega
   simp only [↓eA,eB,seval,l145002,h1,h3,hlt]
   and_intros<;>first | trivial | rfl
theorem e_c10 (s:Site)(hF:s.Fit):L.call 145 [s.enc] []=some (.bool (steps s.blocks geBlock),[]):=
 call_eq rfl rfl (by
   simp only [↓eA,eB,seval,c145]
   generalize hE:(lim T).loop 145002 _ _=R
   obtain ⟨X,e',H',rfl,rfl,hp⟩:=Ends.at hE (lp_c10 s hF _ rfl rfl)
   cases hs:steps s.blocks geBlock with
   | true=>rw [hs] at hp; obtain ⟨rfl,g2⟩:=hp; simp only [↓eA,eB,seval,g2]
   | false=>rw [hs] at hp; subst hp; simp only [↓eA,eB,seval])
end Tz.C18
