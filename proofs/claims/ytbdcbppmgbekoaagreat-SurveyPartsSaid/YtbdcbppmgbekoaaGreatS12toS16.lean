/- survey.Check; Lists of intervals; span.Normalize; survey.Open; part S140; survey.Jointed; no conditions. -/
import Derived.Test.YtbdcbppmgbekoaaGreatS7toS11
import Derived.Sort.AssemblyPlain
import Derived.Test.YtbdcbppmgbekoaaGreatGsF
set_option linter.all false
set_option maxRecDepth 100000
open Gs Go
namespace Tz
abbrev far6 (n:Int):Bool:=decide (n < -1000000) || decide (1000000 < n)
theorem e_nearOne (n:Int):L.call 78 [int n] []=some (.bool (far6 n),[]):=
 call_eq rfl rfl (by simp only [↓eA,eB,seval,c78])
theorem e_near6 (nz:Bool)(l:List Int)(hb:l.length < 1000000000):L.call 47 [.fz nz 1 (l.map int)] []=some (.bool (!l.any far6),[]):=
 call_eq rfl rfl (by simp only [↓eA,eB,seval,c47,e_con_int far6 78 [] nz l hb rfl (fun x _=>e_nearOne x)])
def jbad (j:Joint):Bool:=(!decide (j.axis=0) && !decide (j.axis=1)) || decide (j.hi≤j.lo)
def fbad (f:Flaw):Bool:=decide (f.hi≤f.lo)
theorem e_chk2 (j:Joint):L.call 54 [j.enc] []=some (.bool (jbad j),[]):=
 call_eq rfl rfl (by simp only [↓eA,eB,seval,c54]; unfold jbad; cases h:decide (j.axis=0)<;>cases h1:decide (j.axis=1)<;>simp_all)
theorem e_chk3 (f:Flaw):L.call 56 [f.enc] []=some (.bool (fbad f),[]):=
 call_eq rfl rfl (by simp only [↓eA,eB,seval,c56]; rfl)
def sizeBad (s:Survey):Bool:=decide (64 < (s.beds.length:Int)) || decide (128 < (s.joints.length:Int)) || decide (64 < (s.flaws.length:Int))
abbrev Box.six (b:Box):List Int:=[b.x0,b.y0,b.z0,b.x1,b.y1,b.z1]
def surveyErr (s:Survey):Int:=
 bif sizeBad s then 7 else bif s.pit.six.any far6 then 6 else bif !s.pit.ok then 1 else bif s.names.any (fun n=>!pName n) then 4 else
 bif s.joints.any jbad || s.flaws.any fbad then 1 else
 match s.flaws.find? (fun f=>!decide (polyErr f.base=0)) with
 | some f=>polyErr f.base
 | none=>bif s.flaws.any (fun f=>!convex f.base) then 10 else bif outB s then 12 else bif disordered s then 5 else 0
theorem lp_k1 (s:Survey)(hF:s.Fit)(e:Env)(H:Heap)(h1:Gs.get e 1 = .ptr 1 0)(h70:Gs.get e 70 = .fz false 4 (s.flaws.map Flaw.enc))(h71:Gs.get e 71=int s.flaws.length)(h72:Gs.get e 72=int 0)(hH:hget H 1=some (.box s.cells false)) :
   Ends T 24013 e H (fun X e' H'=>match s.flaws.find? (fun f=>!decide (polyErr f.base=0)) with | some f=>X = .ret∧Gs.get e' 2=int (polyErr f.base) | none=>X = .ex 1∧Gs.get e' 1 = .ptr 1 0∧H'=Hs s):=by
 have hb:=hF.fl
 refine (loop_thru (T:=T) (key:=24013) (li:=l24013.1) rfl (S:=Unit) (R:=Flaw) (fun s f=>bif !decide (polyErr f.base=0) then .inl f else .inr s) s.flaws (fun i _ e H=>Gs.get e 1 = .ptr 1 0∧Gs.get e 70 = .fz false 4 (s.flaws.map Flaw.enc)∧Gs.get e 71=int s.flaws.length∧Gs.get e 72=int i∧hget H 1=some (.box s.cells false)) (fun f X e' H'=>X = .ret∧Gs.get e' 2=int (polyErr f.base)) (fun _ X e' H'=>X = .ex 1∧Gs.get e' 1 = .ptr 1 0∧H'=Hs s) ?_ ?_ ?_ s.flaws [] () e H rfl ⟨h1,h70,h71,h72,hH⟩).mono ?_
 · rintro i f u u' e H hx ⟨h1,h70,h71,h72,hH⟩ hf
   have hi:i < s.flaws.length:=(List.getElem?_eq_some_iff.1 hx).1
   have hx':(s.flaws.map Flaw.enc)[i]?=some f.enc:=by simp [hx]
   have hfb:=hF.base f (List.mem_of_getElem? hx)
   cases hp:decide (polyErr f.base=0) with
   | false=>rw [hp] at hf; cases hf
   | true=>
     simp only [↓eA,eB,seval,l24013,h1,h70,h71,h72,hH,hi,hx',e_polyCheck f.base hfb,hp,wrap_succ (show i < 4611686018427387904 by omega)]
     and_intros<;>first | trivial | rfl
 · rintro i f u r e H hx ⟨h1,h70,h71,h72,hH⟩ hf
   have hi:i < s.flaws.length:=(List.getElem?_eq_some_iff.1 hx).1
   have hx':(s.flaws.map Flaw.enc)[i]?=some f.enc:=by simp [hx]
   have hfb:=hF.base f (List.mem_of_getElem? hx)
   cases hp:decide (polyErr f.base=0) with
   | true=>rw [hp] at hf; cases hf
   | false=>
     rw [hp] at hf; injection hf with hf; subst hf
     simp only [↓eA,eB,seval,l24013,h1,h70,h71,h72,hH,hi,hx',e_polyCheck f.base hfb,hp]
     and_intros<;>first | trivial | rfl
 · rintro u e H ⟨h1,h70,h71,h72,hH⟩
   simp only [↓eA,eB,seval,l24013,h1,h70,h71,h72,hH,Nat.lt_irrefl]
   and_intros<;>first | trivial | rfl
 · intro X e' H' h
   rw [thru_find] at h
   cases hf:s.flaws.find? (fun f=>!decide (polyErr f.base=0)) with
   | none=>rw [hf] at h; exact h
   | some f=>rw [hf] at h; exact h
theorem lp_k2 (s:Survey)(hF:s.Fit)(hall:∀ f∈s.flaws,polyErr f.base=0)(e:Env)(H:Heap)(h1:Gs.get e 1 = .ptr 1 0)(h70:Gs.get e 85 = .fz false 4 (s.flaws.map Flaw.enc))(h71:Gs.get e 86=int s.flaws.length)(h72:Gs.get e 87=int 0)(hH:hget H 1=some (.box s.cells false)) :
   Ends T 24020 e H (fun X e' H'=>match s.flaws.any (fun f=>!convex f.base) with | true=>X = .ret∧Gs.get e' 2=int 10 | false=>X = .ex 3∧Gs.get e' 1 = .ptr 1 0∧H'=Hs s):=by
 have hb:=hF.fl
 refine loop_anyH (T:=T) (key:=24020) (li:=l24020.1) rfl s.flaws (fun f=>!convex f.base) (fun i e H=>Gs.get e 1 = .ptr 1 0∧Gs.get e 85 = .fz false 4 (s.flaws.map Flaw.enc)∧Gs.get e 86=int s.flaws.length∧Gs.get e 87=int i∧hget H 1=some (.box s.cells false)) (fun X e' H'=>X = .ret∧Gs.get e' 2=int 10) (fun X e' H'=>X = .ex 3∧Gs.get e' 1 = .ptr 1 0∧H'=Hs s) ?_ ?_ e H ⟨h1,h70,h71,h72,hH⟩
 · rintro i f e H hx hi ⟨h1,h70,h71,h72,hH⟩
   have hx':(s.flaws.map Flaw.enc)[i]?=some f.enc:=by simp [hx]
   have hm:=List.mem_of_getElem? hx
   have hfb:=hF.base f hm
   simp only [↓eA,eB,seval,l24020,h1,h70,h71,h72,hH,hi,hx',e_convex f.base hfb (hall f hm),wrap_succ (show i < 4611686018427387904 by omega)]
   cases hc:convex f.base<;>simp only [↓eA,eB,seval,hc]<;>and_intros<;>first | trivial | rfl
 · rintro e H ⟨h1,h70,h71,h72,hH⟩
   simp only [↓eA,eB,seval,l24020,h1,h70,h71,h72,hH,Nat.lt_irrefl]
   and_intros<;>first | trivial | rfl
theorem e_pCheck (s:Survey)(hF:s.Fit):L.call 24 [s.enc] []=some (int (surveyErr s),[]):=
 call_eq rfl rfl (by
   have hb:=hF.bl; have hj:=hF.jl; have hf:=hF.fl
   have hnl:=s.names_length
   have hnr:L.call 47 [.fz false 1 [int s.pit.x0,int s.pit.y0,int s.pit.z0,int s.pit.x1,int s.pit.y1,int s.pit.z1]] []=some (.bool (!s.pit.six.any far6),[]):=e_near6 false s.pit.six (by simp)
   unfold surveyErr
   cases hz:sizeBad s with
   | true=>have hz':=hz; simp only [sizeBad] at hz'; simp only [↓eA,eB,seval,c24,hz']
   | false=>
   have hz':=hz; simp only [sizeBad] at hz'
   have hsmall:s.names.length < 1000000000:=by
     have hz2:=hz'; simp only [Bool.or_eq_false_iff,decide_eq_false_iff_not] at hz2; omega
   cases hn:s.pit.six.any far6 with
   | true=>rw [hn] at hnr; simp only [↓eA,eB,seval,c24,hz',hnr]
   | false=>
   rw [hn] at hnr
   cases hp:s.pit.ok with
   | false=>simp only [↓eA,eB,seval,c24,hz',hnr,e_proper,hp]
   | true=>
   have hnm:L.call 49 [.fz true 1 (s.names.map .str),.fn 51 []] []=some (.bool (s.names.any fun n=>!pName n),[]):=e_con_str (fun n=>!pName n) 51 [] true s.names hsmall rfl (fun x hx=>e_notName x (hF.nm x hx))
   cases hnb:s.names.any (fun n=>!pName n) with
   | true=>rw [hnb] at hnm; simp only [↓eA,eB,seval,c24,hz',hnr,e_proper,hp,e_pNames s hF,hnm]; skip
   | false=>
   rw [hnb] at hnm
   have hjj:L.call 53 [.fz false 5 (s.joints.map Joint.enc),.fn 54 []] []=some (.bool (s.joints.any jbad),[]):=e_con_joint jbad 54 [] false s.joints hj rfl (fun x _=>e_chk2 x)
   have hff:L.call 55 [.fz false 4 (s.flaws.map Flaw.enc),.fn 56 []] []=some (.bool (s.flaws.any fbad),[]):=e_con_flaw fbad 56 [] false s.flaws hf rfl (fun x _=>e_chk3 x)
   cases hsh:(s.joints.any jbad || s.flaws.any fbad) with
   | true=>simp only [↓eA,eB,seval,c24,hz',hnr,e_proper,hp,e_pNames s hF,hnm,hjj,hff,hsh]
   | false=>
   simp only [↓eA,eB,seval,c24,hz',hnr,e_proper,hp,e_pNames s hF,hnm,hjj,hff,hsh]
   generalize hE:(lim T).loop 24013 _ _=R
   obtain ⟨X,e',H',rfl,h⟩:=Ends.at hE (lp_k1 s hF _ _ rfl rfl rfl rfl rfl)
   cases hk:s.flaws.find? (fun f=>!decide (polyErr f.base=0)) with
   | some f=>rw [hk] at h; obtain ⟨rfl,g2⟩:=h; simp only [↓eA,eB,seval,g2]
   | none=>
   rw [hk] at h; obtain ⟨rfl,g1,rfl⟩:=h
   have hall:∀ f∈s.flaws,polyErr f.base=0:=by
     intro f hm; have:=List.find?_eq_none.1 hk f hm; simpa using this
   simp only [↓eA,eB,seval,g1]
   generalize hE:(lim T).loop 24020 _ _=R
   obtain ⟨X,e',H',rfl,h⟩:=Ends.at hE (lp_k2 s hF hall _ _ (by simp only [↓eA,eB,seval,g1]) (by simp only [↓eA,eB,seval]) (by simp only [↓eA,eB,seval]) (by simp only [↓eA,eB,seval]) rfl)
   cases hc:s.flaws.any (fun f=>!convex f.base) with
   | true=>rw [hc] at h; obtain ⟨rfl,g2⟩:=h; simp only [↓eA,eB,seval,g2]
   | false=>
   rw [hc] at h; obtain ⟨rfl,g1,rfl⟩:=h
   cases ho:outB s with
   | true=>simp only [↓eA,eB,seval,g1,e_outside s hF,ho]
   | false=>
   cases hd:disordered s with
   | true=>simp only [↓eA,eB,seval,g1,e_outside s hF,ho,e_disordered s hF,hd]
   | false=>simp only [↓eA,eB,seval,g1,e_outside s hF,ho,e_disordered s hF,hd])
end Tz
set_option maxRecDepth 100000
open Gs Go
namespace Tz
end Tz
set_option maxRecDepth 100000
open Gs Go
namespace Tz
theorem ltIv_swo:Sort.SWO ltIv:=⟨fun x=>by simp [ltIv],fun x y z h h'=>by simp only [ltIv,decide_eq_true_eq] at *; omega,fun x y z h h'=>by simp only [ltIv,decide_eq_false_iff_not] at *; omega⟩
theorem sortIv_all (l:List (Int×Int)):(sortIv l).Perm l∧(sortIv l).Pairwise fun a b=>a.1≤b.1:=by
 have h:=Sort.pdq_sorts ltIv ltIv_swo l.toArray 0 l.length (Lib.bitLen l.length) true true (Nat.zero_le _) (by simp) (Or.inl rfl)
 obtain ⟨⟨hsz,_,hp⟩,hs⟩:=h
 have hsz':(Sort.pdq ltIv l.toArray 0 l.length (Lib.bitLen l.length) true true).size=l.length:=by simpa using hsz
 refine ⟨?_,?_⟩
 · have e1:∀ a:Array (Int×Int),a.size=l.length→a.extract 0 l.length=a:=fun a ha=>by rw [←ha]; exact Array.extract_size
   rw [e1 _ hsz',e1 _ (by simp)] at hp
   simpa [sortIv] using hp
 · unfold sortIv
   rw [List.pairwise_iff_getElem]
   intro i j hi hj hij
   simp only [Array.length_toList] at hi hj
   have h:=hs i j (Nat.zero_le _) hij (by omega)
   simp only [ltIv,decide_eq_false_iff_not] at h
   rw [getElem!_pos _ j hj,getElem!_pos _ i hi] at h
   simp only [Array.getElem_toList]
   omega
end Tz
set_option maxRecDepth 100000
open Gs Go
namespace Tz
def outOf (b p:Box):Bool:=decide (b.x0 < p.x0) || decide (b.y0 < p.y0) || decide (b.z0 < p.z0) || decide (p.x1 < b.x1) || decide (p.y1 < b.y1) || decide (p.z1 < b.z1)
def boxedErr (s:Survey)(b:Box):Int:=bif !b.ok then 1 else bif outOf b s.pit then 12 else 0
theorem e_boxed (s:Survey)(b:Box):L.call 39 [s.enc,b.enc] []=some (int (boxedErr s b),[]):=
 call_eq rfl rfl (by
   unfold boxedErr
   cases h1:b.ok with
   | false=>simp only [↓eA,eB,seval,c39,e_proper,h1]
   | true=>
     cases h2:outOf b s.pit with
     | true=>have h2':=h2; simp only [outOf] at h2'; simp only [↓eA,eB,seval,c39,e_proper,h1,h2']
     | false=>have h2':=h2; simp only [outOf] at h2'; simp only [↓eA,eB,seval,c39,e_proper,h1,h2'])
theorem q1:IntKind.i64.wrap (Int.tdiv 1 2)=0:=by decide
theorem q2:IntKind.i64.wrap (Int.tdiv 2 2)=1:=by decide
theorem q3:IntKind.i64.wrap (Int.tdiv 3 2)=1:=by decide
theorem m0:Int.tmod 0 2=0:=by decide
theorem m1:Int.tmod 1 2=1:=by decide
theorem m2:Int.tmod 2 2=0:=by decide
theorem m3:Int.tmod 3 2=1:=by decide
theorem n0:inb 0 4=true:=by decide
theorem n1:inb 1 4=true:=by decide
theorem n2:inb 2 4=true:=by decide
theorem n3:inb 3 4=true:=by decide
end Tz
set_option maxHeartbeats 2000000
set_option maxRecDepth 100000
set_option maxRecDepth 100000
open Gs Go
namespace Tz
def prs (p:List Pt):List (Int×Int):=p.map fun a=>(a.x,a.y)
theorem prs_len (p:List Pt):(prs p).length=p.length:=List.length_map ..
theorem ptsD_poly (p:List Pt):ptsD (p.map Pt.enc)=some (prs p):=by
 have:=ptsD_map (prs p)
 rw [show p.map Pt.enc=(prs p).map (fun q=>D.agg [.int .i64 q.1,.int .i64 q.2]) by simp [prs,List.map_map,Function.comp_def]]
 exact this
theorem gfit_of {p:List Pt}(h1:0 < p.length)(h2:p.length < 1000000)(ha:AllIn p):gfit (prs p)=true:=by
 simp only [gfit,prs_len,Bool.and_eq_true,decide_eq_true_eq,List.all_eq_true]
 refine ⟨⟨h1,h2⟩,fun x hx=>?_⟩
 obtain ⟨a,ha',rfl⟩:=List.mem_map.1 hx
 have:=ha a ha'
 have h1:=this.x0; have h2:=this.x1; have h3:=this.y0; have h4:=this.y1
 simp only [gok,Bool.and_eq_true,decide_eq_true_eq]
 omega
theorem e_prConvex {p:List Pt}(h1:0 < p.length)(h2:p.length < 1000000)(ha:AllIn p):L.call 143 [poly p] []=some (.bool (gconv (prs p)),[]):=
 ext_eq (s:=convexX) rfl (by simp only [convexX,ptsD_poly,gfit_of h1 h2 ha])
theorem e_prEdge {p q:List Pt}(h1:0 < p.length)(h2:p.length < 1000000)(ha:AllIn p)(h3:0 < q.length)(h4:q.length < 1000000)(hb:AllIn q):L.call 118 [poly p,poly q] []=some (int (gedge (prs p) (prs q)),[]):=
 ext_eq (s:=edgeX) rfl (by simp only [edgeX,ptsD_poly,gfit_of h1 h2 ha,gfit_of h3 h4 hb,Bool.and_self])
theorem e_prFar (n:Int):L.call 142 [int n] []=some (.bool (far6 n),[]):=
 call_eq rfl rfl (by unfold far6; cases h:decide (n < -1000000)<;>simp only [↓eA,eB,seval,c142,h]<;>rfl)
abbrev bxc (b:Box):List D:=[int b.x0,int b.y0,int b.z0,int b.x1,int b.y1,int b.z1]
theorem lp_pb (b:Box)(l:List Int)(hl:l.length < 1000000)(hf:l.any far6=false)(e:Env)(H:Heap)(h1:Gs.get e 1 = .ptr 1 0)(h23:Gs.get e 23 = .fz false 1 (l.map int))(h24:Gs.get e 24=int l.length)(h25:Gs.get e 25=int 0)(hH:hget H 1=some (.box (bxc b) false)) :
   Ends T 117002 e H (fun X e' H'=>X = .ex 0∧e'=[(1,.ptr 1 0),(23,.fz false 1 (l.map int)),(24,int l.length),(25,int l.length),(26,.bool false)]∧H'=[(1,.box (bxc b) false)]):=by
 refine (loop_anyH (T:=T) (key:=117002) (li:=l117002.1) rfl l far6 (fun i e H=>Gs.get e 1 = .ptr 1 0∧Gs.get e 23 = .fz false 1 (l.map int)∧Gs.get e 24=int l.length∧Gs.get e 25=int i∧hget H 1=some (.box (bxc b) false)) (fun X e' _=>True) (fun X e' H'=>X = .ex 0∧e'=[(1,.ptr 1 0),(23,.fz false 1 (l.map int)),(24,int l.length),(25,int l.length),(26,.bool false)]∧H'=[(1,.box (bxc b) false)]) ?_ ?_ e H ⟨h1,h23,h24,h25,hH⟩).mono fun X e' H' h=>by rw [hf] at h; exact h
 · rintro i a e H hx hi ⟨h1,h23,h24,h25,hH⟩
   have hx':(l.map int)[i]?=some (int a):=by simp [hx]
   simp only [↓eA,eB,seval,l117002,h1,h23,h24,h25,hH,hi,hx',e_prFar,wrap_succ (show i < 4611686018427387904 by omega)]
   cases ha:far6 a<;>simp only [↓eA,eB,seval,ha]
   · and_intros<;>first | trivial | rfl
   · and_intros<;>first | trivial | rfl
 · rintro e H ⟨h1,h23,h24,h25,hH⟩
   simp only [↓eA,eB,seval,l117002,h1,h23,h24,h25,hH,Nat.lt_irrefl]
   and_intros<;>first | trivial | rfl
theorem e_prBoxed (b:Box)(h6:b.six.any far6=false)(hok:b.ok=true):L.call 117 [b.enc] []=some (.bool true,[]):=
 call_eq rfl rfl (by
   simp only [↓eA,eB,seval,c117]
   generalize hE:(lim T).loop 117002 _ _=R
   obtain ⟨X,e',H',rfl,rfl,rfl,rfl⟩:=Ends.at hE (lp_pb b b.six (by simp [Box.six]) h6 _ _ rfl rfl rfl rfl rfl)
   simp only [Box.ok,Bool.and_eq_true] at hok
   simp only [↓eA,eB,seval,hok.1.1,hok.1.2,hok.2])
end Tz
set_option maxRecDepth 100000
open Gs Go
namespace Tz
structure JB (s:Survey) (b:Box):Prop where
 z0 : -1000000≤b.z0
 z1 : -1000000≤b.z1∧b.z1≤1000000
 j:∀ j∈s.joints,-1000000≤j.hi
abbrev bx (b:Box):List D:=[int b.x0,int b.y0,int b.z0,int b.x1,int b.y1,int b.z1]
theorem boxed_ok {s:Survey}{b:Box}(h:boxedErr s b=0):b.ok=true∧outOf b s.pit=false:=by
 unfold boxedErr at h
 cases h1:b.ok with
 | false=>rw [h1] at h; cases h
 | true=>
   rw [h1] at h
   cases h2:outOf b s.pit with
   | false=>exact ⟨rfl,rfl⟩
   | true=>rw [h2] at h; cases h
structure SurveyOk (s:Survey):Prop where
 size:sizeBad s=false
 far:s.pit.six.any far6=false
 ok:s.pit.ok=true
 nm:s.names.any (fun n=>!pName n)=false
 jb:s.joints.any jbad=false
 fb:s.flaws.any fbad=false
 pe:∀ f∈s.flaws,polyErr f.base=0
 cv:s.flaws.any (fun f=>!convex f.base)=false
 out:outB s=false
 dis:disordered s=false
theorem polyErr_find {s:Survey}(h:s.flaws.find? (fun f=>!decide (polyErr f.base=0))=none):∀ f∈s.flaws,polyErr f.base=0:=by
 intro f hm; have:=List.find?_eq_none.1 h f hm; simpa using this
theorem survey_ok {s:Survey}(h:surveyErr s=0):SurveyOk s:=by
 unfold surveyErr at h
 cases h1:sizeBad s<;>rw [h1] at h<;>simp only [cond_true,cond_false] at h<;>try (cases h; done)
 cases h2:s.pit.six.any far6<;>rw [h2] at h<;>simp only [cond_true,cond_false] at h<;>try (cases h; done)
 cases h3:s.pit.ok<;>rw [h3] at h<;>simp only [Bool.not_true,Bool.not_false,cond_true,cond_false] at h<;>try (cases h; done)
 cases h4:s.names.any (fun n=>!pName n)<;>rw [h4] at h<;>simp only [cond_true,cond_false] at h<;>try (cases h; done)
 cases h5:(s.joints.any jbad || s.flaws.any fbad)<;>rw [h5] at h<;>simp only [cond_true,cond_false] at h<;>try (cases h; done)
 cases h6:s.flaws.find? (fun f=>!decide (polyErr f.base=0)) with
 | some f=>
   rw [h6] at h; simp only at h
   have:=List.find?_some h6
   rw [h] at this; simp at this
 | none=>
 rw [h6] at h; simp only at h
 cases h7:s.flaws.any (fun f=>!convex f.base)<;>rw [h7] at h<;>simp only [cond_true,cond_false] at h<;>try (cases h; done)
 cases h8:outB s<;>rw [h8] at h<;>simp only [cond_true,cond_false] at h<;>try (cases h; done)
 cases h9:disordered s<;>rw [h9] at h<;>simp only [cond_true,cond_false] at h<;>try (cases h; done)
 rw [Bool.or_eq_false_iff] at h5
 exact ⟨h1,h2,h3,h4,h5.1,h5.2,polyErr_find h6,h7,h8,h9⟩
theorem far6_no {n:Int}(h:far6 n=false) : -1000000≤n∧n≤1000000:=by
 simp only [far6,Bool.or_eq_false_iff,decide_eq_false_iff_not] at h; omega
theorem six_in {b:Box}(h:b.six.any far6=false):∀ n∈b.six,-1000000≤n∧n≤1000000:=fun n hn=>far6_no (by simpa using List.any_eq_false.1 h n hn)
end Tz
