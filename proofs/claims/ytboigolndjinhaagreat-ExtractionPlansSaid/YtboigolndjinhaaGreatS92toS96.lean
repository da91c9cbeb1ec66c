/- part S92; part S93; part S94; part S95; part S96; no conditions. -/
import Derived.Test.YtboigolndjinhaaGreatS91toS22
import Derived.Test.YtboigolndjinhaaGreatP1toP3
import Derived.Test.YtboigolndjinhaaGreatS17toS86
import Derived.Test.YtboigolndjinhaaGreatS87toS65
set_option linter.all false
set_option maxRecDepth 100000
open Gs Go
namespace Tz.C18
def placesR (s:Site):Int:=bif s.benches.any benchRev then 1 else bif s.blocks.any blkBad then 1 else bif s.benches.any (benchOut s) then 12 else bif s.blocks.any (blkOut s) then 12 else bif steps s.benches geBench then 11 else
 bif prF nameP [] s.benches then 5 else bif steps s.blocks geBlock then 5 else bif s.blocks.any (noLev s) then 10 else bif prF lapP [] s.blocks then 11 else 0
theorem e_places (s:Site)(hF:s.Fit):L.call 47 [s.enc] []=some (int (placesR s),[]):=
 call_eq rfl rfl (by
   unfold placesR
   simp only [↓eA,eB,seval,c47]
   generalize hE:(lim T).loop 47002 _ _=R
   obtain ⟨X,e1,H1,rfl,rfl,hp⟩:=Ends.at hE (lp_p1 s hF _ (by simp only [↓eA,eB,seval]) (by simp only [↓eA,eB,seval]))
   cases c1:s.benches.any benchRev with
   | true=>rw [c1] at hp; obtain ⟨rfl,g2⟩:=hp; simp only [↓eA,eB,seval,g2]
   | false=>
   rw [c1] at hp
   obtain ⟨rfl,g1⟩:=hp
   simp only [↓eA,eB,seval,g1]
   generalize hE:(lim T).loop 47007 _ _=R
   obtain ⟨X,e2,H2,rfl,rfl,hp⟩:=Ends.at hE (lp_p2 s hF _ (by simp only [↓eA,eB,seval,g1]) (by simp only [↓eA,eB,seval]))
   cases c2:s.blocks.any blkBad with
   | true=>rw [c2] at hp; obtain ⟨rfl,g2⟩:=hp; simp only [↓eA,eB,seval,g2]
   | false=>
   rw [c2] at hp
   obtain ⟨rfl,g1⟩:=hp
   simp only [↓eA,eB,seval,g1]
   generalize hE:(lim T).loop 47012 _ _=R
   obtain ⟨X,e3,H3,rfl,rfl,hp⟩:=Ends.at hE (lp_p3 s hF _ (by simp only [↓eA,eB,seval,g1]) (by simp only [↓eA,eB,seval]))
   cases c3:s.benches.any (benchOut s) with
   | true=>rw [c3] at hp; obtain ⟨rfl,g2⟩:=hp; simp only [↓eA,eB,seval,g2]
   | false=>
   rw [c3] at hp
   obtain ⟨rfl,g1⟩:=hp
   simp only [↓eA,eB,seval,g1]
   generalize hE:(lim T).loop 47017 _ _=R
   obtain ⟨X,e4,H4,rfl,rfl,hp⟩:=Ends.at hE (lp_p4 s hF _ (by simp only [↓eA,eB,seval,g1]) (by simp only [↓eA,eB,seval]))
   cases c4:s.blocks.any (blkOut s) with
   | true=>rw [c4] at hp; obtain ⟨rfl,g2⟩:=hp; simp only [↓eA,eB,seval,g2]
   | false=>
   rw [c4] at hp
   obtain ⟨rfl,g1⟩:=hp
   simp only [↓eA,eB,seval,g1]
   generalize hE:(lim T).loop 47022 _ _=R
   obtain ⟨X,e5,H5,rfl,rfl,hp⟩:=Ends.at hE (lp_p5 s hF _ (by simp only [↓eA,eB,seval,g1]) (by simp only [↓eA,eB,seval]))
   cases c5:steps s.benches geBench with
   | true=>rw [c5] at hp; obtain ⟨rfl,g2⟩:=hp; simp only [↓eA,eB,seval,g2]
   | false=>
   rw [c5] at hp
   obtain ⟨rfl,g1⟩:=hp
   simp only [↓eA,eB,seval,g1]
   generalize hE:(lim T).loop 47027 _ _=R
   obtain ⟨X,e6,H6,rfl,hp⟩:=Ends.at hE (lp_p6 s hF _ (by simp only [↓eA,eB,seval,g1]) (by simp only [↓eA,eB,seval]))
   cases c6:prF nameP [] s.benches with
   | true=>rw [c6] at hp; obtain ⟨rfl,g2⟩:=hp; simp only [↓eA,eB,seval,g2]
   | false=>
   rw [c6] at hp
   obtain ⟨rfl,g1,rfl⟩:=hp
   simp only [↓eA,eB,seval,g1]
   generalize hE:(lim T).loop 47035 _ _=R
   obtain ⟨X,e7,H7,rfl,rfl,hp⟩:=Ends.at hE (lp_p7 s hF _ (by simp only [↓eA,eB,seval,g1]) (by simp only [↓eA,eB,seval]))
   cases c7:steps s.blocks geBlock with
   | true=>rw [c7] at hp; obtain ⟨rfl,g2⟩:=hp; simp only [↓eA,eB,seval,g2]
   | false=>
   rw [c7] at hp
   obtain ⟨rfl,g1⟩:=hp
   simp only [↓eA,eB,seval,g1]
   generalize hE:(lim T).loop 47040 _ _=R
   obtain ⟨X,e8,H8,rfl,rfl,hp⟩:=Ends.at hE (lp_p8 s hF _ (by simp only [↓eA,eB,seval,g1]) (by simp only [↓eA,eB,seval]))
   cases c8:s.blocks.any (noLev s) with
   | true=>rw [c8] at hp; obtain ⟨rfl,g2⟩:=hp; simp only [↓eA,eB,seval,g2]
   | false=>
   rw [c8] at hp
   obtain ⟨rfl,g1⟩:=hp
   simp only [↓eA,eB,seval,g1]
   generalize hE:(lim T).loop 47045 _ _=R
   obtain ⟨X,e9,H9,rfl,hp⟩:=Ends.at hE (lp_p9 s hF _ (by simp only [↓eA,eB,seval,g1]) (by simp only [↓eA,eB,seval]))
   cases c9:prF lapP [] s.blocks with
   | true=>rw [c9] at hp; obtain ⟨rfl,g2⟩:=hp; simp only [↓eA,eB,seval,g2]
   | false=>
   rw [c9] at hp
   obtain ⟨rfl,g1,rfl⟩:=hp
   simp only [↓eA,eB,seval,g1])
def rngR (s:Site):Bool:=((((decide (s.safety.batter < 0) || decide (10000 < s.safety.batter)) || decide (s.safety.width < 0)) || decide (1000000 < s.safety.width)) || decide (s.density < 1)) || decide (10000 < s.density)
def badE (b:Bench):Bool:=!rName b.name
def badK (b:Block):Bool:=!rName b.name
theorem lp_k1 (s:Site)(hF:s.Fit)(e:Env)(h1:Gs.get e 1 = .ptr 1 0)(hi:Gs.get e 4=int 0) :
   Ends T 14009 e (Hst s) (fun X e' H'=>H'=Hst s∧match s.benches.any badE with | true=>X = .ret∧Gs.get e' 2=int 4 | false=>X = .ex 0∧Gs.get e' 1 = .ptr 1 0):=by
 have hbb:=hF.be
 refine loop_any (T:=T) (key:=14009) (li:=l14009.1) rfl s.benches badE (Hst s) (fun i e=>Gs.get e 1 = .ptr 1 0∧Gs.get e 4=int i)
   (fun X e'=>X = .ret∧Gs.get e' 2=int 4) (fun X e'=>X = .ex 0∧Gs.get e' 1 = .ptr 1 0) ?_ ?_ e ⟨h1,hi⟩
 · rintro i b e hx hi ⟨h1,h3⟩
   have hx':(s.benches.map Bench.enc)[i]?=some b.enc:=by simp [hx]
   have hq:=e_rName b.name (hF.en b (List.mem_of_getElem? hx))
   unfold badE
   cases hp:rName b.name<;>rw [hp] at hq<;>simp only [↓eA,eB,seval,l14009,h1,h3,hi,hx',hq,wrap_succ (show i < 4611686018427387904 by omega)]<;>and_intros<;>first | trivial | rfl
 · rintro e ⟨h1,h3⟩
   simp only [↓eA,eB,seval,l14009,h1,h3,Nat.lt_irrefl]
   and_intros<;>first | trivial | rfl
theorem lp_k2 (s:Site)(hF:s.Fit)(e:Env)(h1:Gs.get e 1 = .ptr 1 0)(hi:Gs.get e 5=int 0) :
   Ends T 14014 e (Hst s) (fun X e' H'=>H'=Hst s∧match s.blocks.any badK with | true=>X = .ret∧Gs.get e' 2=int 4 | false=>X = .ex 2∧Gs.get e' 1 = .ptr 1 0):=by
 have hbb:=hF.bl
 refine loop_any (T:=T) (key:=14014) (li:=l14014.1) rfl s.blocks badK (Hst s) (fun i e=>Gs.get e 1 = .ptr 1 0∧Gs.get e 5=int i)
   (fun X e'=>X = .ret∧Gs.get e' 2=int 4) (fun X e'=>X = .ex 2∧Gs.get e' 1 = .ptr 1 0) ?_ ?_ e ⟨h1,hi⟩
 · rintro i b e hx hi ⟨h1,h3⟩
   have hx':(s.blocks.map Block.enc)[i]?=some b.enc:=by simp [hx]
   have hq:=e_rName b.name (hF.bn b (List.mem_of_getElem? hx))
   unfold badK
   cases hp:rName b.name<;>rw [hp] at hq<;>simp only [↓eA,eB,seval,l14014,h1,h3,hi,hx',hq,wrap_succ (show i < 4611686018427387904 by omega)]<;>and_intros<;>first | trivial | rfl
 · rintro e ⟨h1,h3⟩
   simp only [↓eA,eB,seval,l14014,h1,h3,Nat.lt_irrefl]
   and_intros<;>first | trivial | rfl
def rSiteErr (s:Site):Int:=bif !decide (surveyErr s.survey=0) then surveyErr s.survey else bif cMany s then 7 else bif rngR s then 6 else bif s.benches.any badE then 4 else bif s.blocks.any badK then 4 else placesR s
theorem e_rSite (s:Site)(hF:s.Fit):L.call 14 [s.enc] []=some (int (rSiteErr s),[]):=
 call_eq rfl rfl (by
   have h1:=Tz.e_rCheck s.survey hF.sv
   rw [←check_eq] at h1
   have h2:=e_places s hF
   unfold rSiteErr
   cases hs:decide (surveyErr s.survey=0) with
   | false=>simp only [↓eA,eB,seval,c14,h1,hs]
   | true=>
   cases hm:cMany s with
   | true=>have hm':=hm; unfold cMany at hm'; simp only [↓eA,eB,seval,c14,h1,hs,hm',List.length_map]
   | false=>
   have hm':=hm
   unfold cMany at hm'
   cases hr:rngR s with
   | true=>have hr':=hr; unfold rngR at hr'; simp only [↓eA,eB,seval,c14,h1,hs,hm',hr',List.length_map]
   | false=>
   have hr':=hr
   unfold rngR at hr'
   simp only [↓eA,eB,seval,c14,h1,hs,hm',hr',List.length_map]
   generalize hE:(lim T).loop 14009 _ _=R
   obtain ⟨X,e1,H1,rfl,rfl,hp⟩:=Ends.at hE (lp_k1 s hF _ (by simp only [↓eA,eB,seval]) (by simp only [↓eA,eB,seval]))
   cases c1:s.benches.any badE with
   | true=>rw [c1] at hp; obtain ⟨rfl,g2⟩:=hp; simp only [↓eA,eB,seval,g2]
   | false=>
   rw [c1] at hp
   obtain ⟨rfl,g1⟩:=hp
   simp only [↓eA,eB,seval,g1]
   generalize hE:(lim T).loop 14014 _ _=R
   obtain ⟨X,e2,H2,rfl,rfl,hp⟩:=Ends.at hE (lp_k2 s hF _ (by simp only [↓eA,eB,seval,g1]) (by simp only [↓eA,eB,seval]))
   cases c2:s.blocks.any badK with
   | true=>rw [c2] at hp; obtain ⟨rfl,g2⟩:=hp; simp only [↓eA,eB,seval,g2]
   | false=>
   rw [c2] at hp
   obtain ⟨rfl,g1⟩:=hp
   simp only [↓eA,eB,seval,g1,h2])
theorem prF_dup:∀ (r s:List Bench),dupS (s.map (·.name)) (r.map (·.name))=prF nameP s r
 | [],_=>rfl
 | b :: r,s=>by
   have ih:=prF_dup r (s ++ [b])
   rw [List.map_append] at ih
   simp only [List.map_cons,dupS,prF,nameP]
   rw [show List.map (fun x:Bench=>x.name) s ++ [b.name]=List.map (fun x:Bench=>x.name) s ++ List.map (fun x:Bench=>x.name) [b] from rfl,ih,List.any_map]
   congr 1
theorem over_apart {a b:Box}(ha:a.ok=true)(hb:b.ok=true):overB a b = !apart a b:=by
 unfold Box.ok at ha hb
 simp only [Bool.and_eq_true,decide_eq_true_eq] at ha hb
 unfold overB flat2 apart
 rw [Bool.eq_iff_iff]
 simp only [Bool.and_eq_true,Bool.not_eq_true',Bool.or_eq_false_iff,decide_eq_true_eq,decide_eq_false_iff_not]
 omega
theorem prF_lap:∀ (r s:List Block),(∀ b∈r,b.box.ok=true)→(∀ b∈s,b.box.ok=true)→lapF s r=prF lapP s r
 | [],_,_,_=>rfl
 | b :: r,s,hr,hs=>by
   have hb:=hr b List.mem_cons_self
   simp only [lapF,prF]
   rw [prF_lap r (s ++ [b]) (fun x hx=>hr x (List.mem_cons_of_mem _ hx)) (fun x hx=>by
     rcases List.mem_append.1 hx with hx | hx
     · exact hs x hx
     · simp only [List.mem_cons,List.not_mem_nil,or_false] at hx; subst hx; exact hb)]
   congr 1
   exact any_congr fun c hc=>by unfold lapP; rw [over_apart hb (hs c hc)]
theorem empty_ok (b:Box):emptyB b = !b.ok:=by
 unfold emptyB Box.ok
 rw [Bool.eq_iff_iff]
 simp only [Bool.or_eq_true,Bool.not_eq_true',Bool.and_eq_false_iff,decide_eq_true_eq,decide_eq_false_iff_not]
 omega
theorem inside_eq (a b:Box):insideB a b=a.inside b:=rfl
theorem rng_eq (s:Site):cRange s=rngR s:=by
 unfold cRange rngR
 rw [Bool.eq_iff_iff]
 simp only [Bool.or_eq_true,Bool.not_eq_true',Bool.and_eq_false_iff,decide_eq_true_eq,decide_eq_false_iff_not]
 omega
theorem lev_conf {s:Site}(h1:s.benches.any benchRev=false)(h2:steps s.benches geBench=false)(b:Block):conflict s b=noLev s b:=by
 have hp:s.benches.Pairwise (fun a b:Bench=>a.hi≤b.lo):=by
   refine (adj_pairwise (fun a b:Bench=>a.hi≤b.lo∧a.lo < a.hi∧b.lo < b.hi) (fun a b c x y=>by omega) s.benches fun i a b ha hb=>?_).imp fun h=>h.1
   have hi:=(List.getElem?_eq_some_iff.1 hb).1
   unfold steps at h2
   have:=List.any_eq_false.1 h2 (i + 1) (by rw [List.mem_range'_1]; omega)
   simp only [badIx,Nat.add_sub_cancel,ha,hb,geBench,decide_eq_true_eq] at this
   have ra:=List.any_eq_false.1 h1 a (List.mem_of_getElem? ha)
   have rb:=List.any_eq_false.1 h1 b (List.mem_of_getElem? hb)
   simp only [benchRev,decide_eq_true_eq] at ra rb
   omega
 have hr:∀ a∈s.benches,a.lo < a.hi:=fun a ha=>by
   have ra:=List.any_eq_false.1 h1 a ha
   simp only [benchRev,decide_eq_true_eq] at ra
   omega
 have huniq:∀ l:List Bench,l.Pairwise (fun a b:Bench=>a.hi≤b.lo)→(∀ a∈l,a.lo < a.hi)→(match l.find? (onBench b) with | none=>true | some x=>decide (x.hi < b.box.z1)) = !l.any (levP b):=by
   intro l
   induction l with
   | nil=>intros; rfl
   | cons a r ih=>
     intro hp hr
     obtain ⟨p1,p2⟩:=List.pairwise_cons.1 hp
     have ha:=hr a List.mem_cons_self
     have ih:=ih p2 fun x hx=>hr x (List.mem_cons_of_mem _ hx)
     rw [List.find?_cons,List.any_cons]
     cases ho:onBench b a with
     | true=>
       have ho':=of_decide_eq_true ho
       have hno:r.any (levP b)=false:=List.any_eq_false.2 fun x hx=>by
         have:=p1 x hx
         simp only [levP,Bool.and_eq_true,decide_eq_true_eq]
         omega
       rw [hno]
       unfold levP
       rw [decide_eq_true ho',Bool.true_and,Bool.or_false]
       simp only
       rw [Bool.eq_iff_iff]
       simp only [Bool.not_eq_true',decide_eq_true_eq,decide_eq_false_iff_not]
       omega
     | false=>
       have ho':¬ a.lo=b.box.z0:=of_decide_eq_false ho
       have:levP b a=false:=by unfold levP; rw [decide_eq_false ho']; rfl
       rw [this,Bool.false_or]
       exact ih
 exact huniq s.benches hp hr
theorem cond_find (s:Site):siteErr s=bif !decide (surveyErr s.survey=0) then surveyErr s.survey else bif cMany s then 7 else bif cRange s then 6 else bif s.benches.any (fun b=>!pName b.name) || s.blocks.any (fun b=>!pName b.name) then 4 else
   bif s.benches.any (fun b=>decide (b.hi≤b.lo)) || s.blocks.any (fun b=>emptyB b.box) then 1 else bif s.benches.any (benchOut s) || s.blocks.any (blockOut s) then 12 else bif steps s.benches geBench then 11 else
   bif dupS [] (s.benches.map (·.name)) || steps s.blocks geBlock then 5 else bif s.blocks.any (conflict s) then 10 else bif lapF [] s.blocks then 11 else 0:=by
 unfold siteErr condL
 generalize cMany s=b1
 generalize cRange s=b2
 generalize (s.benches.any (fun b=>!pName b.name) || s.blocks.any (fun b=>!pName b.name))=b3
 generalize (s.benches.any (fun b=>decide (b.hi≤b.lo)) || s.blocks.any (fun b=>emptyB b.box))=b4
 generalize (s.benches.any (benchOut s) || s.blocks.any (blockOut s))=b5
 generalize steps s.benches geBench=b6
 generalize (dupS [] (s.benches.map (·.name)) || steps s.blocks geBlock)=b7
 generalize s.blocks.any (conflict s)=b8
 generalize lapF [] s.blocks=b9
 cases decide (surveyErr s.survey=0) with
 | false=>rfl
 | true=>
 cases b1
 · cases b2
   · cases b3
     · cases b4
       · cases b5
         · cases b6
           · cases b7
             · cases b8
               · cases b9<;>rfl
               · rfl
             · rfl
           · rfl
         · rfl
       · rfl
     · rfl
   · rfl
 · rfl
theorem site_eq (s:Site):rSiteErr s=siteErr s:=by
 rw [cond_find,rng_eq]
 unfold rSiteErr
 have n1:s.benches.any (fun b=>!pName b.name)=s.benches.any badE:=any_congr fun b _=>by unfold badE; rw [name_eq]
 have n2:s.blocks.any (fun b=>!pName b.name)=s.blocks.any badK:=any_congr fun b _=>by unfold badK; rw [name_eq]
 have n3:s.benches.any (fun b=>decide (b.hi≤b.lo))=s.benches.any benchRev:=rfl
 have n4:s.blocks.any (fun b=>emptyB b.box)=s.blocks.any blkBad:=any_congr fun b _=>by unfold blkBad; rw [empty_ok]
 have n5:s.blocks.any (blockOut s)=s.blocks.any (blkOut s):=any_congr fun b _=>by unfold blockOut blkOut; rw [inside_eq]
 have n6:dupS [] (s.benches.map (·.name))=prF nameP [] s.benches:=prF_dup s.benches []
 rw [n1,n2,n3,n4,n5,n6]
 unfold placesR
 have key:∀ (p q:Bool) (n m:Int),(bif p || q then n else m)=bif p then n else bif q then n else m:=fun p q n m=>by cases p<;>rfl
 simp only [key]
 cases hs:decide (surveyErr s.survey=0) with
 | false=>rfl
 | true=>
 simp only [Bool.not_true,cond_false]
 cases cMany s with
 | true=>rfl
 | false=>
 cases rngR s with
 | true=>rfl
 | false=>
 cases s.benches.any badE with
 | true=>rfl
 | false=>
 cases s.blocks.any badK with
 | true=>rfl
 | false=>
 cases h1:s.benches.any benchRev with
 | true=>rfl
 | false=>
 cases h2:s.blocks.any blkBad with
 | true=>rfl
 | false=>
 cases s.benches.any (benchOut s) with
 | true=>rfl
 | false=>
 cases s.blocks.any (blkOut s) with
 | true=>rfl
 | false=>
 cases h3:steps s.benches geBench with
 | true=>rfl
 | false=>
 have m1:s.blocks.any (conflict s)=s.blocks.any (noLev s):=any_congr fun b _=>lev_conf h1 h3 b
 have m2:lapF [] s.blocks=prF lapP [] s.blocks:=prF_lap s.blocks [] (fun b hb=>by
   have:=List.any_eq_false.1 h2 b hb
   simp only [blkBad,Bool.not_eq_true',Bool.not_eq_false] at this
   exact this) (by simp)
 rw [m1,m2]
theorem lp_rhas (nz:Bool)(l:List ByteArray)(hl:l.length < 1000000)(n:ByteArray)(e:Env)(H:Heap)(h0:Gs.get e 0 = .fz nz 1 (l.map .str))(h1:Gs.get e 1 = .str n)(h5:Gs.get e 5=int 0)(hH:H=[]) :
   Ends T 96002 e H (fun X e' H'=>match l.any (fun x=>seq x n) with | true=>X = .ret∧Gs.get e' 4 = .bool true | false=>X = .ex 0):=by
 refine (loop_anyH (T:=T) (key:=96002) (li:=l96002.1) rfl l (fun x=>seq x n) (fun i e H=>Gs.get e 0 = .fz nz 1 (l.map .str)∧Gs.get e 1 = .str n∧Gs.get e 5=int i∧H=[])
   (fun X e' H'=>X = .ret∧Gs.get e' 4 = .bool true) (fun X e' H'=>X = .ex 0) ?_ ?_ e H ⟨h0,h1,h5,hH⟩).mono fun X e' H' h=>by cases hf:l.any (fun x=>seq x n)<;>rw [hf] at h<;>exact h
 · rintro i x e H hx hi ⟨h0,h1,h5,rfl⟩
   have hx':(l.map D.str)[i]?=some (.str x):=by simp [hx]
   cases hp:seq x n<;>simp only [↓eA,eB,seval,l96002,h0,h1,h5,hi,hx',hp,wrap_succ (show i < 4611686018427387904 by omega)]<;>and_intros<;>first | trivial | rfl
 · rintro e H ⟨h0,h1,h5,rfl⟩
   simp only [↓eA,eB,seval,l96002,h0,h1,h5,Nat.lt_irrefl]
   and_intros<;>first | trivial | rfl
theorem e_rhas (nz:Bool)(l:List ByteArray)(hl:l.length < 1000000)(n:ByteArray):L.call 96 [.fz nz 1 (l.map .str),.str n] []=some (.bool (l.any (fun x=>seq x n)),[]):=
 call_eq rfl rfl (by
   simp only [↓eA,eB,seval,c96]
   generalize hE:(lim T).loop 96002 _ _=R
   obtain ⟨X,e',H',rfl,hp⟩:=Ends.at hE (lp_rhas nz l hl n _ _ (by simp only [↓eA,eB,seval]) (by simp only [↓eA,eB,seval]) (by simp only [↓eA,eB,seval]) rfl)
   cases hk:l.any (fun x=>seq x n) with
   | true=>rw [hk] at hp; obtain ⟨rfl,g2⟩:=hp; simp only [↓eA,eB,seval,g2]
   | false=>rw [hk] at hp; subst hp; simp only [↓eA,eB,seval])
theorem seq_any (l:List ByteArray)(n:ByteArray):l.any (seq n)=l.any (fun x=>seq x n):=any_congr fun x _=>seq_comm _ _
theorem cut_str (l:List ByteArray)(i:Nat):cut (l.map D.str) 0 i=(l.take i).map D.str:=by simp [cut,List.map_take]
end Tz.C18
set_option maxRecDepth 100000
open Gs Go
namespace Tz.C18
abbrev boxs (l:List Box):List D:=l.map Box.enc
theorem e_full (b:Box):L.call 264 [b.enc] []=some (.bool (fullB b),[]):=
 call_eq rfl rfl (by simp only [↓eA,eB,seval,c264]; rfl)
theorem e_common (a b:Box):L.call 272 [a.enc,b.enc] []=some ((inter a b).enc,[]):=
 call_eq rfl rfl (by simp only [↓eA,eB,seval,c272]; rfl)
theorem e_inters (a b:Box):L.call 263 [a.enc,b.enc] []=some (.tup [bif fullB (inter a b) then (inter a b).enc else .agg [int 0,int 0,int 0,int 0,int 0,int 0],.bool (fullB (inter a b))],[]):=
 call_eq rfl rfl (by
   have h1:=e_common a b
   have h2:=e_full (inter a b)
   cases h:fullB (inter a b)<;>rw [h] at h2<;>simp only [↓eA,eB,seval,c263,h1,h2])
theorem lp_sub (nz:Bool)(ps:List Box)(hp:ps.length < 1000000)(e:Env)(H:Heap)(h11:Gs.get e 11 = .fz nz 6 (boxs ps))(h12:Gs.get e 12 = .ow 1012)(h13:Gs.get e 13=int 0)(hH:hget H 1012=some (.row true 6 [] 0 true)) :
   Ends T 252008 e H (fun X e' H'=>X = .ex 0∧Gs.get e' 12 = .ow 1012∧H'=[(1012,.row true 6 (boxs (ps.filter fullB)) 0 true)]):=by
 refine (loop_fold (T:=T) (key:=252008) (li:=l252008.1) rfl ps (fun (a:List Box) (b:Box)=>bif fullB b then a ++ [b] else a)
   (fun i a e H=>Gs.get e 11 = .fz nz 6 (boxs ps)∧Gs.get e 12 = .ow 1012∧Gs.get e 13=int i∧hget H 1012=some (.row true 6 (boxs a) 0 true)∧a.length≤i)
   (fun a X e' H'=>X = .ex 0∧Gs.get e' 12 = .ow 1012∧H'=[(1012,.row true 6 (boxs a) 0 true)]) ?_ ?_ [] e H ⟨h11,h12,h13,hH,Nat.le_refl _⟩).mono ?_
 · rintro i b a e H hx hi ⟨h11,h12,h13,hH,ha⟩
   have hx':(boxs ps)[i]?=some b.enc:=by simp [boxs,hx]
   have hfit:fits (a.length + (0 + 1)) 48=true:=fits_of (by omega)
   have hc:=e_full b
   have hl:(boxs ps).length=ps.length:=by simp [boxs]
   have hl2:(boxs a).length=a.length:=by simp [boxs]
   cases hp:fullB b with
   | true=>
     rw [hp] at hc
     simp only [↓eA,eB,seval,l252008,h11,h12,h13,hH,hi,hl,hl2,hx',hc,hfit,wrap_succ (show i < 4611686018427387904 by omega)]
     refine ⟨trivial,trivial,trivial,trivial,?_,?_⟩
     · simp [boxs]
     · simp; omega
   | false=>
     rw [hp] at hc
     simp only [↓eA,eB,seval,l252008,h11,h12,h13,hH,hi,hl,hl2,hx',hc,hfit,wrap_succ (show i < 4611686018427387904 by omega)]
     refine ⟨trivial,trivial,trivial,trivial,trivial,by omega⟩
 · rintro a e H ⟨h11,h12,h13,hH,ha⟩
   have hl:(boxs ps).length=ps.length:=by simp [boxs]
   simp only [↓eA,eB,seval,l252008,h11,h12,h13,hH,hl,Nat.lt_irrefl]
   and_intros<;>first | trivial | rfl
 · rintro X e' H' ⟨rfl,g12,rfl⟩
   refine ⟨rfl,g12,?_⟩
   have key:∀ (l:List Box) (a:List Box),l.foldl (fun a b=>bif fullB b then a ++ [b] else a) a=a ++ l.filter fullB:=by
     intro l
     induction l with
     | nil=>intro a; simp
     | cons b r ih=>
       intro a
       rw [List.foldl_cons,ih]
       cases hp:fullB b<;>simp [hp]
   rw [key]; rfl
theorem e_subs (a b:Box):∃ z,L.call 252 [a.enc,b.enc] []=some (.fz z 6 (boxs (subsL a b)),[]):=by
 have h1:=e_inters a b
 unfold subsL
 cases h:fullB (inter a b) with
 | false=>
   rw [h] at h1
   exact ⟨_,call_eq rfl rfl (by
     simp only [↓eA,eB,seval,c252,h1]
     rfl)⟩
 | true=>
   rw [h] at h1
   exact ⟨true,call_eq rfl rfl (by
     simp only [↓eA,eB,seval,c252,h1]
     generalize hE:(lim T).loop 252008 _ _=R
     obtain ⟨X,e',H',rfl,rfl,g12,rfl⟩:=Ends.at hE (lp_sub false (partsL a (inter a b)) (by simp [partsL]) _ _ (by simp only [↓eA,eB,seval]<;>rfl) (by simp only [↓eA,eB,seval]) (by simp only [↓eA,eB,seval]) rfl)
     simp only [↓eA,eB,seval,g12])⟩
end Tz.C18
set_option maxRecDepth 100000
open Gs Go
namespace Tz.C18
theorem subs_len (a b:Box):(subsL a b).length≤6:=by
 unfold subsL
 cases fullB (inter a b) with
 | false=>simp
 | true=>exact Nat.le_trans (List.length_filter_le _ _) (by simp [partsL])
theorem lp_rest1 (z1 z6:Bool)(list out:List Box)(b:Box)(i:Nat)(hb:list[i]?=some b)(ho:out.length≤4096)(e:Env)(H:Heap)(h1:Gs.get e 1 = .fz z1 6 (boxs list))(h6:Gs.get e 6 = .fz z6 6 (boxs out))(h7:Gs.get e 7=int i)(h8:Gs.get e 8 = .ow 1008)(h9:Gs.get e 9=int 0)(hH:hget H 1008=some (.row true 6 [] 0 true)) :
   Ends T 235007 e H (fun X e' H'=>X = .ex 2∧Gs.get e' 1 = .fz z1 6 (boxs list)∧Gs.get e' 7=int i∧Gs.get e' 8 = .ow 1008∧H'=[(1008,.row true 6 (boxs (out.flatMap fun a=>subsL a b)) 0 true)]):=by
 have hil:=(List.getElem?_eq_some_iff.1 hb).1
 have hb':(boxs list)[i]?=some b.enc:=by simp [boxs,hb]
 have hll:(boxs list).length=list.length:=by simp [boxs]
 have hlo:(boxs out).length=out.length:=by simp [boxs]
 refine (loop_fold (T:=T) (key:=235007) (li:=l235007.1) rfl out (fun (a:List Box) (q:Box)=>a ++ subsL q b)
   (fun k a e H=>Gs.get e 1 = .fz z1 6 (boxs list)∧Gs.get e 6 = .fz z6 6 (boxs out)∧Gs.get e 7=int i∧Gs.get e 8 = .ow 1008∧Gs.get e 9=int k∧hget H 1008=some (.row true 6 (boxs a) 0 true)∧a.length≤6 * k)
   (fun a X e' H'=>X = .ex 2∧Gs.get e' 1 = .fz z1 6 (boxs list)∧Gs.get e' 7=int i∧Gs.get e' 8 = .ow 1008∧H'=[(1008,.row true 6 (boxs a) 0 true)]) ?_ ?_ [] e H ⟨h1,h6,h7,h8,h9,hH,Nat.le_refl _⟩).mono ?_
 · rintro k q a e H hx hi ⟨h1,h6,h7,h8,h9,hH,ha⟩
   have hx':(boxs out)[k]?=some q.enc:=by simp [boxs,hx]
   have hla:(boxs a).length=a.length:=by simp [boxs]
   have hs:=subs_len q b
   have hls:(boxs (subsL q b)).length=(subsL q b).length:=by simp [boxs]
   have hfit:fits (a.length + (subsL q b).length) 48=true:=fits_of (by omega)
   obtain ⟨z,hc⟩:=e_subs q b
   simp only [↓eA,eB,seval,l235007,h1,h6,h7,h8,h9,hH,hi,hil,hx',hb',hll,hlo,hla,hls,hc,hfit,wrap_succ (show k < 4611686018427387904 by omega)]
   refine ⟨trivial,trivial,trivial,trivial,trivial,trivial,?_,?_⟩
   · simp [boxs]
   · simp; omega
 · rintro a e H ⟨h1,h6,h7,h8,h9,hH,ha⟩
   simp only [↓eA,eB,seval,l235007,h1,h6,h7,h8,h9,hH,hlo,Nat.lt_irrefl]
   and_intros<;>first | trivial | rfl
 · rintro X e' H' ⟨rfl,g1,g7,g8,rfl⟩
   refine ⟨rfl,g1,g7,g8,?_⟩
   have key:∀ (l a:List Box),l.foldl (fun a q=>a ++ subsL q b) a=a ++ l.flatMap fun a=>subsL a b:=by
     intro l
     induction l with
     | nil=>intro a; simp
     | cons c r ih=>intro a; rw [List.foldl_cons,ih]; simp
   rw [key]; rfl
theorem rest_snoc (out list:List Box)(b:Box):restL out (list ++ [b])=(restL out list).flatMap fun a=>subsL a b:=by
 unfold restL
 rw [List.foldl_append]; rfl
theorem lp_rest (z1 z6:Bool)(list:List Box)(c:Box)(hl:list.length < 1000000)(hsm:∀ k,(restL [c] (list.take k)).length≤4096)(e:Env)(H:Heap)(h1:Gs.get e 1 = .fz z1 6 (boxs list))(h6:Gs.get e 6 = .fz z6 6 (boxs [c]))(h7:Gs.get e 7=int 0) :
   Ends T 235003 e H (fun X e' H'=>X = .ex 0∧(∃ z,Gs.get e' 6 = .fz z 6 (boxs (restL [c] list)))∧H'=[]):=by
 have hll:(boxs list).length=list.length:=by simp [boxs]
 refine (loop_fold (T:=T) (key:=235003) (li:=l235003.1) rfl list (fun (a:List Box) (q:Box)=>a.flatMap fun a=>subsL a q)
   (fun i a e H=>Gs.get e 1 = .fz z1 6 (boxs list)∧(∃ z,Gs.get e 6 = .fz z 6 (boxs a))∧Gs.get e 7=int i∧a=restL [c] (list.take i))
   (fun a X e' H'=>X = .ex 0∧(∃ z,Gs.get e' 6 = .fz z 6 (boxs a))∧H'=[]) ?_ ?_ [c] e H ⟨h1,⟨_,h6⟩,h7,rfl⟩).mono fun X e' H' h=>h
 · rintro i b a e H hx hi ⟨h1,⟨z,h6⟩,h7,ha⟩
   have hk:=hsm i
   rw [←ha] at hk
   have hk1:=hsm (i + 1)
   rw [List.take_add_one,hx,Option.toList_some,rest_snoc,←ha] at hk1
   have hlf:(boxs (a.flatMap fun a=>subsL a b)).length=(a.flatMap fun a=>subsL a b).length:=by simp [boxs]
   have hno:decide (4096 < ((a.flatMap fun a=>subsL a b).length:Int))=false:=decide_eq_false (by omega)
   simp only [↓eA,eB,seval,l235003,h1,h6,h7,hi,hll]
   generalize hE:(lim T).loop 235007 _ _=R
   obtain ⟨X,e1,H1,rfl,rfl,g1,g7,g8,rfl⟩:=Ends.at hE (lp_rest1 z1 z list a b i hx hk _ _ (by simp only [↓eA,eB,seval,h1]) (by simp only [↓eA,eB,seval,h6]) (by simp only [↓eA,eB,seval,h7]) (by simp only [↓eA,eB,seval]) (by simp only [↓eA,eB,seval]) rfl)
   simp only [↓eA,eB,seval,g1,g7,g8,hlf,hno,killE_nil,wrap_succ (show i < 4611686018427387904 by omega)]
   refine ⟨trivial,trivial,⟨_,rfl⟩,trivial,?_⟩
   rw [List.take_add_one,hx,Option.toList_some,rest_snoc,←ha]
 · rintro a e H ⟨h1,⟨z,h6⟩,h7,ha⟩
   simp only [↓eA,eB,seval,l235003,h1,h6,h7,hll,Nat.lt_irrefl]
   exact ⟨trivial,trivial,⟨_,rfl⟩,trivial⟩
def RestR (l:List Box)(o:Option (D×Heap)):Prop:=∃ z,o=some (.tup [.fz z 6 (boxs l),int 0],[])
def GapR (v:Bool)(o:Option (D×Heap)):Prop:=∃ p q r,o=some (.tup [.agg [int p,int q,int r],.bool v],[])
theorem e_rest (z1:Bool)(list:List Box)(c:Box)(hl:list.length < 1000000)(hsm:∀ k,(restL [c] (list.take k)).length≤4096) :
   ∃ z,L.call 235 [c.enc,.fz z1 6 (boxs list)] []=some (.tup [.fz z 6 (boxs (restL [c] list)),int 0],[]):=by
 suffices h:RestR (restL [c] list) (runF (lim T) c235 [c.enc,.fz z1 6 (boxs list)] []) by
   obtain ⟨z,h⟩:=h; exact ⟨z,call_eq rfl rfl h⟩
 simp only [↓eA,eB,seval,c235]
 generalize hE:(lim T).loop 235003 _ _=R
 obtain ⟨X,e1,H1,rfl,rfl,⟨z,g6⟩,rfl⟩:=Ends.at hE (lp_rest z1 false list c hl hsm _ _ (by simp only [↓eA,eB,seval]) (by simp only [↓eA,eB,seval]<;>rfl) (by simp only [↓eA,eB,seval]))
 simp only [↓eA,eB,seval,g6]
 exact ⟨_,rfl⟩
theorem e_before (x y z x' y' z':Int):∃ v,L.call 236 [.agg [int x,int y,int z],.agg [int x',int y',int z']] []=some (.bool v,[]):=by
 cases h1:decide (z=z') with
 | false=>exact ⟨_,call_eq rfl rfl (by simp only [↓eA,eB,seval,c236,h1]; rfl)⟩
 | true=>
 cases h2:decide (y=y') with
 | false=>exact ⟨_,call_eq rfl rfl (by simp only [↓eA,eB,seval,c236,h1,h2]; rfl)⟩
 | true=>exact ⟨_,call_eq rfl rfl (by simp only [↓eA,eB,seval,c236,h1,h2]; rfl)⟩
theorem lp_gap (z:Bool)(l:List Box)(hl:l.length < 1000000)(e:Env)(H:Heap)(h4:Gs.get e 4 = .ptr 4 0)(h6:Gs.get e 6 = .fz z 6 (boxs l))(h8:Gs.get e 8 = .ptr 8 0)(h9:Gs.get e 9=int (1:Nat))
   (hH4:hget H 4=some (.box [int 0,int 0,int 0] false)) (hH8:∃ p q r,hget H 8=some (.box [int p,int q,int r] false)) :
   Ends T 206006 e H (fun X e' H'=>X = .ex 0∧Gs.get e' 4 = .ptr 4 0∧Gs.get e' 8 = .ptr 8 0∧∃ p q r,H'=[(4,.box [int 0,int 0,int 0] false),(8,.box [int p,int q,int r] false)]):=by
 have hll:(boxs l).length=l.length:=by simp [boxs]
 refine (loop_upto (T:=T) (key:=206006) (li:=l206006.1) rfl (S:=Unit) (R:=Empty) (fun _ _=>.inr ()) l.length
   (fun i _ e H=>Gs.get e 4 = .ptr 4 0∧Gs.get e 6 = .fz z 6 (boxs l)∧Gs.get e 8 = .ptr 8 0∧Gs.get e 9=int i∧hget H 4=some (.box [int 0,int 0,int 0] false)∧∃ p q r,hget H 8=some (.box [int p,int q,int r] false))
   (fun _ X e' H'=>False) (fun _ X e' H'=>X = .ex 0∧Gs.get e' 4 = .ptr 4 0∧Gs.get e' 8 = .ptr 8 0∧∃ p q r,H'=[(4,.box [int 0,int 0,int 0] false),(8,.box [int p,int q,int r] false)]) ?_ ?_ ?_ (l.length - 1) 1 () e H rfl ⟨h4,h6,h8,h9,hH4,hH8⟩).mono fun X e' H' h=>?_
 · rintro i _ _ e H hi ⟨h4,h6,h8,h9,hH4,p,q,r,hH8⟩ hf
   obtain ⟨b,hb⟩:∃ b,l[i]?=some b:=⟨_,List.getElem?_eq_getElem hi⟩
   have hb':(boxs l)[i]?=some b.enc:=by simp [boxs,hb]
   obtain ⟨v,hv⟩:=e_before b.x0 b.y0 b.z0 p q r
   cases v with
   | false=>
     simp only [↓eA,eB,seval,l206006,h4,h6,h8,h9,hH4,hH8,hi,hll,hb',hv,wrap_succ (show i < 4611686018427387904 by omega)]
     exact ⟨trivial,trivial,trivial,trivial,trivial,trivial,_,_,_,rfl⟩
   | true=>
     simp only [↓eA,eB,seval,l206006,h4,h6,h8,h9,hH4,hH8,hi,hll,hb',hv,wrap_succ (show i < 4611686018427387904 by omega)]
     exact ⟨trivial,trivial,trivial,trivial,trivial,trivial,_,_,_,rfl⟩
 · rintro i _ r; exact r.elim
 · rintro i _ e H hi ⟨h4,h6,h8,h9,hH4,p,q,r,hH8⟩
   have hn:¬ i < l.length:=by omega
   simp only [↓eA,eB,seval,l206006,h4,h6,h8,h9,hH4,hH8,hll,hn]
   exact ⟨trivial,trivial,trivial,trivial,_,_,_,rfl⟩
 · cases hu:upto (S:=Unit) (R:=Empty) (fun _ _=>.inr ()) (l.length - 1) 1 () with
   | inl r=>exact r.elim
   | inr s=>rw [hu] at h; exact h
theorem e_gapB (z1:Bool)(list:List Box)(c:Box)(hl:list.length < 1000000)(hsm:∀ k,(restL [c] (list.take k)).length≤4096) :
   ∃ p q r,L.call 206 [c.enc,.fz z1 6 (boxs list)] []=some (.tup [.agg [int p,int q,int r],.bool !(restL [c] list).isEmpty],[]):=by
 obtain ⟨z,h1⟩:=e_rest z1 list c hl hsm
 have hl2:=hsm list.length
 rw [List.take_length] at hl2
 suffices h:GapR (!(restL [c] list).isEmpty) (runF (lim T) c206 [c.enc,.fz z1 6 (boxs list)] []) by
   obtain ⟨p,q,r,h⟩:=h; exact ⟨p,q,r,call_eq rfl rfl h⟩
 cases hr:restL [c] list with
 | nil=>rw [hr] at h1; exact ⟨0,0,0,by simp only [↓eA,eB,seval,c206,h1]<;>rfl⟩
 | cons b l=>
   rw [hr] at h1 hl2
   have hne:decide (((l.length + 1:Nat):Int)=0)=false:=decide_eq_false (by omega)
   have hll:(boxs (b :: l)).length=l.length + 1:=by simp [boxs]
   have h0:(boxs (b :: l))[0]?=some b.enc:=rfl
   have hin:inb 0 (l.length + 1)=true:=by simp [inb]
   simp only [↓eA,eB,seval,c206,h1,hne,hll,h0,hin]
   generalize hE:(lim T).loop 206006 _ _=R
   obtain ⟨X,e1,H1,rfl,rfl,g4,g8,p,q,r,rfl⟩:=Ends.at hE (lp_gap z (b :: l) (by simp at hl2 ⊢; omega) _ _ (by simp only [↓eA,eB,seval]) (by simp only [↓eA,eB,seval]<;>rfl) (by simp only [↓eA,eB,seval]) (by simp only [↓eA,eB,seval]) (by simp only [↓eA,eB,seval]) ⟨_,_,_,by simp only [↓eA,eB,seval]<;>rfl⟩)
   simp only [↓eA,eB,seval,g4,g8]
   exact ⟨p,q,r,rfl⟩
end Tz.C18
set_option maxRecDepth 100000
open Gs Go
namespace Tz.C18
theorem e_rout (b:Box)(d:Int)(h:d=0∨d=1∨d=2∨d=3):L.call 203 [b.enc,int d] []=some ((outB b d).enc,[]):=by
 rcases h with rfl | rfl | rfl | rfl
 · exact call_eq rfl rfl (by simp only [↓eA,eB,seval,c203]; rfl)
 · exact call_eq rfl rfl (by simp only [↓eA,eB,seval,c203]; rfl)
 · exact call_eq rfl rfl (by simp only [↓eA,eB,seval,c203]; rfl)
 · exact call_eq rfl rfl (by simp only [↓eA,eB,seval,c203]; rfl)
theorem lp_boxes (s:Site)(hF:s.Fit)(nz:Bool)(tk:List ByteArray)(ht:tk.length < 1000000)(e:Env)(H:Heap)(h1:Gs.get e 1=strz nz tk)(h2:Gs.get e 2 = .ptr 2 0)(h5:Gs.get e 5 = .ow 1005)(h6:Gs.get e 6=int 0)(hH2:hget H 2=some (.box s.cells false))(hH:hget H 1005=some (.row true 6 [] 0 true)) :
   Ends T 204003 e H (fun X e' H'=>X = .ex 0∧Gs.get e' 5 = .ow 1005∧H'=[(2,.box s.cells false),(1005,.row true 6 (boxs (tkB s tk)) 0 true)]):=by
 have hbl:=hF.bl
 refine (loop_fold (T:=T) (key:=204003) (li:=l204003.1) rfl s.blocks (fun (a:List Box) (b:Block)=>bif taken tk b then a ++ [b.box] else a)
   (fun i a e H=>Gs.get e 1=strz nz tk∧Gs.get e 2 = .ptr 2 0∧Gs.get e 5 = .ow 1005∧Gs.get e 6=int i∧hget H 2=some (.box s.cells false)∧hget H 1005=some (.row true 6 (boxs a) 0 true)∧a.length≤i)
   (fun a X e' H'=>X = .ex 0∧Gs.get e' 5 = .ow 1005∧H'=[(2,.box s.cells false),(1005,.row true 6 (boxs a) 0 true)]) ?_ ?_ [] e H ⟨h1,h2,h5,h6,hH2,hH,Nat.le_refl _⟩).mono ?_
 · rintro i b a e H hx hi ⟨h1,h2,h5,h6,hH2,hH,ha⟩
   have hx':(s.blocks.map Block.enc)[i]?=some b.enc:=by simp [hx]
   have hfit:fits (a.length + (0 + 1)) 48=true:=fits_of (by omega)
   have hla:(boxs a).length=a.length:=by simp [boxs]
   have hc:=e_rhas nz tk ht b.name
   rw [←seq_any] at hc
   cases hp:taken tk b with
   | true=>
     have hp':=hp
     unfold taken at hp'
     rw [hp'] at hc
     simp only [↓eA,eB,seval,l204003,h1,h2,h5,h6,hH2,hH,hi,hx',hc,hfit,hla,wrap_succ (show i < 4611686018427387904 by omega)]
     refine ⟨trivial,trivial,trivial,trivial,trivial,trivial,?_,?_⟩
     · simp [boxs]
     · simp; omega
   | false=>
     have hp':=hp
     unfold taken at hp'
     rw [hp'] at hc
     simp only [↓eA,eB,seval,l204003,h1,h2,h5,h6,hH2,hH,hi,hx',hc,hfit,hla,wrap_succ (show i < 4611686018427387904 by omega)]
     refine ⟨trivial,trivial,trivial,trivial,trivial,trivial,trivial,by omega⟩
 · rintro a e H ⟨h1,h2,h5,h6,hH2,hH,ha⟩
   simp only [↓eA,eB,seval,l204003,h1,h2,h5,h6,hH2,hH,Nat.lt_irrefl]
   and_intros<;>first | trivial | rfl
 · rintro X e' H' ⟨rfl,g5,rfl⟩
   refine ⟨rfl,g5,?_⟩
   have key:∀ (l:List Block) (a:List Box),l.foldl (fun a b=>bif taken tk b then a ++ [b.box] else a) a=a ++ (l.filter (taken tk)).map (·.box):=by
     intro l
     induction l with
     | nil=>intro a; simp
     | cons b r ih=>
       intro a
       rw [List.foldl_cons,ih]
       cases hp:taken tk b<;>simp [hp]
   rw [key]; rfl
theorem e_boxes (s:Site)(hF:s.Fit)(nz:Bool)(tk:List ByteArray)(ht:tk.length < 1000000):L.call 204 [s.enc,strz nz tk] []=some (.ow 600000,[(600000,.row true 6 (boxs (tkB s tk)) 0 true)]):=
 call_eq rfl rfl (by
   simp only [↓eA,eB,seval,c204]
   generalize hE:(lim T).loop 204003 _ _=R
   obtain ⟨X,e',H',rfl,rfl,g5,rfl⟩:=Ends.at hE (lp_boxes s hF nz tk ht _ _ (by simp only [↓eA,eB,seval]) (by simp only [↓eA,eB,seval]) (by simp only [↓eA,eB,seval]) (by simp only [↓eA,eB,seval]) rfl rfl)
   simp only [↓eA,eB,seval,g5])
def slab (c:Box)(j:Int×Int):Box:=⟨c.x0,c.y0,j.1,c.x1,c.y1,IntKind.i64.wrap (j.2 + 1)⟩
theorem lp_rfree (c:Box)(zj:Bool)(js:List (Int×Int))(bs:List Box)(hj:js.length < 1000000)(hb:bs.length < 1000000)(nz:Bool)(e:Env)(H:Heap)(h9:Gs.get e 9 = .ptr 9 0)(h10:Gs.get e 10 = .ow 1010)(h11:Gs.get e 11 = .fz zj 2 (js.map ivD))(h12:Gs.get e 12=int 0)(hH9:hget H 9=some (.box (bxc c) false))(hH:hget H 1010=some (.row nz 6 (boxs bs) 0 true)) :
   Ends T 156007 e H (fun X e' H'=>X = .ex 0∧Gs.get e' 9 = .ptr 9 0∧Gs.get e' 10 = .ow 1010∧H'=[(9,.box (bxc c) false),(1010,.row nz 6 (boxs (bs ++ js.map (slab c))) 0 true)]):=by
 refine (loop_fold (T:=T) (key:=156007) (li:=l156007.1) rfl js (fun (a:List Box) (j:Int×Int)=>a ++ [slab c j])
   (fun i a e H=>Gs.get e 9 = .ptr 9 0∧Gs.get e 10 = .ow 1010∧Gs.get e 11 = .fz zj 2 (js.map ivD)∧Gs.get e 12=int i∧hget H 9=some (.box (bxc c) false)∧hget H 1010=some (.row nz 6 (boxs a) 0 true)∧a.length=bs.length + i)
   (fun a X e' H'=>X = .ex 0∧Gs.get e' 9 = .ptr 9 0∧Gs.get e' 10 = .ow 1010∧H'=[(9,.box (bxc c) false),(1010,.row nz 6 (boxs a) 0 true)]) ?_ ?_ bs e H ⟨h9,h10,h11,h12,hH9,hH,rfl⟩).mono ?_
 · rintro i j a e H hx hi ⟨h9,h10,h11,h12,hH9,hH,ha⟩
   have hx':(js.map ivD)[i]?=some (ivD j):=by simp [hx]
   have hx2:ivD j = .agg [int j.1,int j.2]:=rfl
   rw [hx2] at hx'
   have hla:(boxs a).length=a.length:=by simp [boxs]
   have hfit:fits (a.length + (0 + 1)) 48=true:=fits_of (by omega)
   simp only [↓eA,eB,seval,l156007,h9,h10,h11,h12,hH9,hH,hi,hx',hla,hfit,List.length_map,wrap_succ (show i < 4611686018427387904 by omega)]
   refine ⟨trivial,trivial,trivial,trivial,trivial,trivial,?_,?_⟩
   · simp [boxs,slab]
   · simp; omega
 · rintro a e H ⟨h9,h10,h11,h12,hH9,hH,ha⟩
   simp only [↓eA,eB,seval,l156007,h9,h10,h11,h12,hH9,hH,List.length_map,Nat.lt_irrefl]
   and_intros<;>first | trivial | rfl
 · rintro X e' H' ⟨rfl,g9,g10,rfl⟩
   refine ⟨rfl,g9,g10,?_⟩
   have key:∀ (l:List (Int×Int)) (a:List Box),l.foldl (fun a j=>a ++ [slab c j]) a=a ++ l.map (slab c):=by
     intro l
     induction l with
     | nil=>intro a; simp
     | cons b r ih=>intro a; rw [List.foldl_cons,ih]; simp
   rw [key]
end Tz.C18
set_option maxRecDepth 100000
open Gs Go
namespace Tz.C18
theorem out_thin {b:Box}(h:BoxIn b){d:Int}(hd:d=0∨d=1∨d=2∨d=3):fullB (outB b d)=true∧((outB b d).x1=(outB b d).x0 + 1∨(outB b d).y1=(outB b d).y0 + 1):=by
 obtain ⟨h1,h2,h3,h4,h5,h6,h7,h8,h9⟩:=h
 have w1:∀ n:Int,-1000000≤n→n≤1000000→IntKind.i64.wrap (n + 1)=n + 1:=fun n h h'=>wrap_in (by omega) (by omega)
 have w2:∀ n:Int,-1000000≤n→n≤1000000→wsub n 1=n - 1:=fun n h h'=>wrap_in (by omega) (by omega)
 rcases hd with rfl | rfl | rfl | rfl
 · have e:outB b 0=⟨b.x1,b.y0,b.z0,IntKind.i64.wrap (b.x1 + 1),b.y1,b.z1⟩:=rfl
   rw [e,w1 _ (by omega) (by omega)]; exact ⟨full_iff.2 (by simp only; omega),.inl rfl⟩
 · have e:outB b 1=⟨wsub b.x0 1,b.y0,b.z0,b.x0,b.y1,b.z1⟩:=rfl
   rw [e,w2 _ (by omega) (by omega)]; exact ⟨full_iff.2 (by simp only; omega),.inl (by simp only; omega)⟩
 · have e:outB b 2=⟨b.x0,b.y1,b.z0,b.x1,IntKind.i64.wrap (b.y1 + 1),b.z1⟩:=rfl
   rw [e,w1 _ (by omega) (by omega)]; exact ⟨full_iff.2 (by simp only; omega),.inr rfl⟩
 · have e:outB b 3=⟨b.x0,wsub b.y0 1,b.z0,b.x1,b.y0,b.z1⟩:=rfl
   rw [e,w2 _ (by omega) (by omega)]; exact ⟨full_iff.2 (by simp only; omega),.inr (by simp only; omega)⟩
theorem merged_len (l:List (Int×Int)):(merged l).length≤l.length:=by
 have h1:=foldl_len mstep (fun a x=>mstep_len (acc:=a) (x:=x)) (sortIv l) []
 have h2:=(sortIv_all l).1.length_eq
 unfold merged
 simp only [List.length_nil] at h1
 omega
theorem rest_few {c:Box}{bs ss:List Box}(hc:fullB c=true)(hbs:bs.length≤12)(hss:ss.length≤128)(hs:∀ b∈ss,(b.x0≤c.x0∧c.x1≤b.x1)∧(b.y0≤c.y0∧c.y1≤b.y1))
   (hthin:c.x1=c.x0 + 1∨c.y1=c.y0 + 1∨(c.z1=c.z0 + 1∧ss=[])) (k:Nat):(restL [c] ((bs ++ ss).take k)).length≤4096:=by
 refine few (rest_off _ _ (List.pairwise_singleton _ _)) (rest_cor hs ((bs ++ ss).take k) [c] (fun b hb=>List.mem_append.1 (List.mem_of_mem_take hb)) fun q hq=>?_) hbs hss hthin
 simp only [List.mem_cons,List.not_mem_nil,or_false] at hq
 subst hq
 exact ⟨hc,by omega,by omega,by omega,List.mem_cons_self,List.mem_cons_self,List.mem_cons_self⟩
theorem tkB_len (s:Site)(tk:List ByteArray):(tkB s tk).length≤s.blocks.length:=by
 unfold tkB
 rw [List.length_map]
 exact List.length_filter_le _ _
theorem cov_iff {s:Site}{tk:List ByteArray}{x y z:Int} : (∃ b∈tkB s tk,In3 b x y z)↔Cov s tk x y z:=by
 constructor
 · rintro ⟨b,hb,hi⟩
   obtain ⟨c,hc,rfl⟩:=List.mem_map.1 hb
   obtain ⟨h1,h2⟩:=List.mem_filter.1 hc
   exact ⟨c,h1,h2,hi⟩
 · rintro ⟨c,h1,h2,hi⟩
   exact ⟨c.box,List.mem_map.2 ⟨c,List.mem_filter.2 ⟨h1,h2⟩,rfl⟩,hi⟩
theorem iv_in {s:Site}(h:SiteOk s){b:Block}(hb:b∈s.blocks){d:Int}(hd:d=0∨d=1∨d=2∨d=3):∀ j∈merged (pJointed s.survey b.box d),b.box.z0≤j.1∧j.2 < b.box.z1:=by
 obtain ⟨_,j2,j3⟩:=jointed_site h hb hd
 intro j hj
 have h12:=j2.2 j hj
 obtain ⟨p,hp,p1,p2⟩:=(j3 j.1).1 ⟨j,hj,by omega,h12⟩
 obtain ⟨q,hq,q1,q2⟩:=(j3 j.2).1 ⟨j,hj,h12,by omega⟩
 have a:=joints_in p hp
 have a':=joints_in q hq
 omega
theorem e_rFree {s:Site}(hok:SiteOk s)(hF:s.Fit)(h12:s.blocks.length≤12)(nz:Bool)(tk:List ByteArray)(ht:tk.length < 1000000){b:Block}(hb:b∈s.blocks){d:Int}(hd:d=0∨d=1∨d=2∨d=3) :
   L.call 156 [s.enc,strz nz tk,b.box.enc,int d] []=some (.bool (freeB s tk b.box d),[]):=by
 have hs:sideBad d=false:=by unfold sideBad; rcases hd with rfl | rfl | rfl | rfl<;>rfl
 have f1:=e_rOpen s.survey b.box d hs
 have hfi:=free_iff hok tk hb hd
 cases ho:openB s.survey b.box d with
 | true=>
   rw [ho] at f1
   have:freeB s tk b.box d=true:=hfi.2 (.inl ho)
   rw [this]
   exact call_eq rfl rfl (by simp only [↓eA,eB,seval,c156,f1])
 | false =>
   rw [ho] at f1
   have hi:=box_in hok hb
   have hso:=surveyOk_of hok
   have hbx:=boxed_site hok hb
   have f2:=e_rout b.box d hd
   have f3:=e_boxes s hF nz tk ht
   obtain ⟨zj,f4⟩:=e_rJointed s.survey hF.sv (by
     have hz:=hso.size
     simp only [sizeBad,Bool.or_eq_false_iff,decide_eq_false_iff_not] at hz
     omega) b.box d hs (jb_of hso hbx)
   rw [jointed_eq hso hbx] at f4
   obtain ⟨hn,e0,e1⟩:=near_out hi hd
   obtain ⟨_,j2,j3⟩:=jointed_site hok hb hd
   have hiv:=iv_in hok hb hd
   obtain ⟨hcf,hthin⟩:=out_thin hi hd
   have hml:=merged_len (pJointed s.survey b.box d)
   have hpl:(pJointed s.survey b.box d).length≤128:=by
     have:=jList_len s.survey b.box (planeAx d) (planeAt b.box d)
     have hz:=hso.size
     simp only [sizeBad,Bool.or_eq_false_iff,decide_eq_false_iff_not] at hz
     unfold pJointed
     omega
   generalize merged (pJointed s.survey b.box d)=js at f4 j2 j3 hiv hml
   have htl:=tkB_len s tk
   have hsm:=rest_few (c:=outB b.box d) (bs:=tkB s tk) (ss:=js.map (slab (outB b.box d))) hcf (by omega) (by rw [List.length_map]; omega) (fun x hx=>by
     obtain ⟨j,hj,rfl⟩:=List.mem_map.1 hx
     exact ⟨⟨Int.le_refl _,Int.le_refl _⟩,⟨Int.le_refl _,Int.le_refl _⟩⟩) (by rcases hthin with h | h; exact .inl h; exact .inr (.inl h))
   obtain ⟨p,q,r,f5⟩:=e_gapB true (tkB s tk ++ js.map (slab (outB b.box d))) (outB b.box d) (by have h1:(js.map (slab (outB b.box d))).length=js.length:=List.length_map ..; rw [List.length_append,h1]; omega) hsm
   have hval:freeB s tk b.box d=(restL [outB b.box d] (tkB s tk ++ js.map (slab (outB b.box d)))).isEmpty:=by
     rw [Bool.eq_iff_iff,List.isEmpty_iff,rest_nil hcf,hfi,ho]
     have key:∀ x y z,In3 (outB b.box d) x y z→((Cov s tk x y z∨Pts (pJointed s.survey b.box d) z)↔∃ c∈tkB s tk ++ js.map (slab (outB b.box d)),In3 c x y z):=by
       intro x y z hin
       rw [←j3,←cov_iff]
       obtain ⟨a1,a2,b1,b2,c1,c2⟩:=hin
       have hb6:=hi.z0
       have hb9:=hi.z1
       constructor
       · rintro (⟨c,hc,hci⟩ | ⟨j,hj,p1,p2⟩)
         · exact ⟨c,List.mem_append_left _ hc,hci⟩
         · have hjj:=hiv j hj
           have hw:IntKind.i64.wrap (j.2 + 1)=j.2 + 1:=wrap_in (by omega) (by omega)
           refine ⟨slab (outB b.box d) j,List.mem_append_right _ (List.mem_map.2 ⟨j,hj,rfl⟩),?_⟩
           unfold slab
           rw [hw]
           exact ⟨a1,a2,b1,b2,p1,by simp only; omega⟩
       · rintro ⟨c,hc,hci⟩
         rcases List.mem_append.1 hc with hc | hc
         · exact .inl ⟨c,hc,hci⟩
         · obtain ⟨j,hj,rfl⟩:=List.mem_map.1 hc
           have hjj:=hiv j hj
           have h12:=j2.2 j hj
           have hw:IntKind.i64.wrap (j.2 + 1)=j.2 + 1:=wrap_in (by omega) (by omega)
           obtain ⟨_,_,_,_,p1,p2⟩:=hci
           unfold slab at p1 p2
           rw [hw] at p2
           simp only at p1 p2
           exact .inr ⟨j,hj,p1,by omega⟩
     constructor
     · rintro (h | h)
       · cases h
       · exact fun x y z hin=>(key x y z hin).1 (h x y z hin)
     · exact fun h=>.inr fun x y z hin=>(key x y z hin).2 (h x y z hin)
   rw [hval]
   generalize restL [outB b.box d] (tkB s tk ++ js.map (slab (outB b.box d)))=rs at f5
   exact call_eq rfl rfl (by
     simp only [↓eA,eB,seval,c156,f1,f2,f3,f4]
     trace_state
     generalize hE:(lim T).loop 156007 _ _=R
     obtain ⟨X,e1,H1,rfl,rfl,g9,g10,rfl⟩:=Ends.at hE (lp_rfree (outB b.box d) zj js (tkB s tk) (by omega) (by omega) true _ _ (by simp only [↓eA,eB,seval]) (by simp only [↓eA,eB,seval]) (by simp only [↓eA,eB,seval]) (by simp only [↓eA,eB,seval]) rfl rfl)
     simp only [↓eA,eB,seval,g9,g10,killE_nil,f5]
     try simp only [Bool.not_not])
theorem e_rFaces {s:Site}(hok:SiteOk s)(hF:s.Fit)(h12:s.blocks.length≤12)(nz:Bool)(tk:List ByteArray)(ht:tk.length < 1000000)(nm:ByteArray){b:Block}(hn:s.blocks.find? (named nm)=some b) :
   L.call 100 [s.enc,strz nz tk,.str nm] []=some (.agg [.bool (freeB s tk b.box 0),.bool (freeB s tk b.box 1),.bool (freeB s tk b.box 2),.bool (freeB s tk b.box 3)],[]):=by
 have hb:=List.mem_of_find?_eq_some hn
 obtain ⟨j,hj,hbj⟩:=find_idx _ hn
 have hx:idxOf (named nm) s.blocks=(j:Int):=by unfold idxOf; rw [hj]
 have hi:=(List.getElem?_eq_some_iff.1 hbj).1
 have hx':(s.blocks.map Block.enc)[j]?=some b.enc:=by simp [hbj]
 have f0:=e_rFree hok hF h12 nz tk ht hb (d:=0) (by omega)
 have f1:=e_rFree hok hF h12 nz tk ht hb (d:=1) (by omega)
 have f2:=e_rFree hok hF h12 nz tk ht hb (d:=2) (by omega)
 have f3:=e_rFree hok hF h12 nz tk ht hb (d:=3) (by omega)
 have f4:=e_idx s.blocks hF.bl nm
 rw [hx] at f4
 exact call_eq rfl rfl (by
   simp only [↓eA,eB,seval,c100,f4,hi,hx',List.length_map]
   rw [loop_unfold_c (T:=T) (k:=100004) rfl]
   simp only [↓eA,eB,seval,l100004,f0,i40]
   rw [loop_unfold_c (T:=T) (k:=100004) rfl]
   simp only [↓eA,eB,seval,l100004,f1,i41]
   rw [loop_unfold_c (T:=T) (k:=100004) rfl]
   simp only [↓eA,eB,seval,l100004,f2,i42]
   rw [loop_unfold_c (T:=T) (k:=100004) rfl]
   simp only [↓eA,eB,seval,l100004,f3,i43]
   rw [loop_unfold_c (T:=T) (k:=100004) rfl]
   simp only [↓eA,eB,seval,l100004])
end Tz.C18
