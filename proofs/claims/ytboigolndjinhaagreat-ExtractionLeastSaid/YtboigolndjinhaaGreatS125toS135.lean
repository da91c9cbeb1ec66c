/- part S125; part S126; part S129; part S131; part S133; part S134; part S135; no conditions. -/
import Derived.Test.YtboigolndjinhaaGreatS98toS124
import Derived.Test.YtboigolndjinhaaGreatS87toS65
set_option linter.all false
set_option maxRecDepth 100000
open Gs Go
namespace Tz.C18
end Tz.C18
set_option maxRecDepth 100000
open Gs Go
namespace Tz.C18
end Tz.C18
set_option maxRecDepth 100000
open Gs Go
namespace Tz.C18
theorem e_CloneS (nz:Bool)(o:List ByteArray)(h0:o≠[])(hl:o.length < 1000000):L.call 64 [strz nz o] []=some (.ow 600001,[(600001,.row false 1 (o.map .str) 0 true)]):=by
 obtain ⟨x,r,rfl⟩:∃ x r,o=x :: r:=by cases o with | nil=>exact absurd rfl h0 | cons x r=>exact ⟨x,r,rfl⟩
 have hfit:fits (0 + (r.length + 1)) 16=true:=fits_of (by simp at hl; omega)
 show L.call 64 [.fz nz 1 (.str x :: r.map .str)] []=some (.ow 600001,[(600001,.row false 1 (.str x :: r.map .str) 0 true)])
 cases nz<;>exact call_eq rfl rfl (by simp only [↓eA,eB,seval,c64,hfit,List.length_map,List.isEmpty_cons])
end Tz.C18
set_option maxRecDepth 100000
open Gs Go
namespace Tz.C18
end Tz.C18
set_option maxRecDepth 100000
open Gs Go
namespace Tz.C18
theorem e_Del (o:List ByteArray)(i:Nat)(hi:i < o.length)(hl:o.length < 1000000):L.call 63 [.ow 500001,int i,int ((i + 1:Nat):Int)] [(500001,.row false 1 (o.map .str) 0 false)]=some (.win 500001 0 (o.length - 1),[(500001,.row false 1 ((o.eraseIdx i ++ [ByteArray.empty]).map .str) 0 false)]):=by
 have h1:decide ((0:Int)≤(i:Int))=true:=decide_eq_true (by omega)
 have h2:decide ((i:Int) < ((i + 1:Nat):Int))=true:=decide_eq_true (by omega)
 have h3:decide (((i + 1:Nat):Int)≤(o.length:Int))=true:=decide_eq_true (by omega)
 have h4:decide (o.length < 4611686018427387904)=true:=decide_eq_true (by omega)
 have h5:(((i + 1:Nat):Int) - (i:Int)).toNat=1:=by omega
 refine ext_eq (s:=delStrX) rfl ?_
 unfold delStrX
 simp only [hget,hset,beq_self_eq_true,cond_true,strs_map,h1,h2,h3,h4,h5,Bool.and_self,Int.toNat_natCast,List.eraseIdx_eq_take_drop_succ,List.replicate_one]
theorem cut_erase (o:List ByteArray)(i:Nat)(hi:i < o.length):cut ((o.eraseIdx i ++ [ByteArray.empty]).map D.str) 0 (o.length - 1)=(o.eraseIdx i).map D.str:=by
 have:(o.eraseIdx i).length=o.length - 1:=List.length_eraseIdx_of_lt hi
 unfold cut
 rw [List.drop_zero,List.map_append,List.take_append_of_le_length (by simp [this]),List.take_of_length_le (by simp [this])]
theorem lp_plan (s:Site)(hF:s.Fit):∀ (k:Nat) (o:List ByteArray),o.length < 1000000→k < o.length→∀ (e:Env) (H:Heap),Gs.get e 2 = .ptr 2 0→Gs.get e 7=strz false o→Gs.get e 9=int ((k:Int) - 1)→hget H 2=some (.box s.cells false)→
   Ends T 26010 e H (fun X e' H'=>X = .ex 0∧Gs.get e' 7=strz false (planF s k o)):=by
 intro k
 induction k with
 | zero=>
   intro o hl hk e H h2 h7 h9 H2
   have hz:decide ((0:Int)≤((0:Nat):Int) - 1)=false:=rfl
   refine round_ends (T:=T) (key:=26010) (li:=l26010.1) rfl ?_
   simp only [↓eA,eB,seval,l26010,h2,h7,h9,H2,hz]
   exact ⟨trivial,trivial,rfl⟩
 | succ k ih=>
   intro o hl hk e H h2 h7 h9 H2
   have hk9:((k + 1:Nat):Int) - 1=(k:Int):=by omega
   rw [hk9] at h9
   have hz:decide ((0:Int)≤(k:Int))=true:=decide_eq_true (by omega)
   have hne:o≠[]:=by intro h; rw [h] at hk; simp at hk
   have f1:=e_CloneS false o hne hl
   have hko:k < o.length:=by omega
   have f2:=e_Del o k hko hl
   have hel:(o.eraseIdx k).length=o.length - 1:=List.length_eraseIdx_of_lt hko
   have f3:=e_xpossible s hF false (o.eraseIdx k) (by omega)
   have hcut:=cut_erase o k hko
   have hML:((o.eraseIdx k ++ [ByteArray.empty]).map D.str).length=o.length:=by simp [hel]; omega
   have hle:decide (o.length - 1≤o.length)=true:=decide_eq_true (by omega)
   have hsub:IntKind.i64.wrap ((k:Int) - 1)=(k:Int) - 1:=wrap_in (by omega) (by omega)
   have hws:=wrap_succ (show k < 4611686018427387904 by omega)
   generalize (o.eraseIdx k ++ [ByteArray.empty]).map D.str=M at f2 hcut hML
   refine round_goes (T:=T) (key:=26010) (li:=l26010.1) rfl (Q:=fun e H=>Gs.get e 2 = .ptr 2 0∧Gs.get e 7=strz false (bif possO s [] (o.eraseIdx k) then o.eraseIdx k else o)∧Gs.get e 9=int ((k:Int) - 1)∧hget H 2=some (.box s.cells false)) ?_ ?_
   · cases hp:possO s [] (o.eraseIdx k)<;>rw [hp] at f3<;>simp only [↓eA,eB,seval,l26010,h2,h7,h9,H2,hz,f1,f2,f3,hcut,hML,hle,hsub,hws,Nat.zero_add,List.length_map]<;>and_intros<;>first | trivial | rfl
   · rintro e H ⟨h2,h7,h9,H2⟩
     unfold planF
     refine ih _ ?_ ?_ e H h2 h7 h9 H2
     · cases possO s [] (o.eraseIdx k)<;>simp only [cond_true,cond_false]<;>omega
     · cases possO s [] (o.eraseIdx k)<;>simp only [cond_true,cond_false]<;>omega
def planR (s:Site)(g:ByteArray):D×Int:=bif !decide (chkErr s [g]=0) then (.fz true 1 [],chkErr s [g]) else match (great s).findIdx? (seq g) with
 | none=>(.fz true 1 [],10)
 | some j=>(strz false (planF s j ((great s).take (j + 1))),0)
theorem great_len {s:Site}(h:siteErr s=0)(hF:s.Fit):(great s).length≤s.blocks.length:=known_len (great_ok h).2.1.st
theorem e_xPlan (s:Site)(hF:s.Fit)(g:ByteArray):L.call 26 [s.enc,.str g] []=some (.tup [(planR s g).1,int (planR s g).2],[]):=by
 have f1:=e_xcheck s hF false [g] (by simp)
 have f1:L.call 51 [s.enc,.fz false 1 [.str g]] []=some (int (chkErr s [g]),[]):=f1
 unfold planR
 cases hc:decide (chkErr s [g]=0) with
 | false=>
   generalize chkErr s [g]=er at hc f1
   exact call_eq rfl rfl (by simp only [↓eA,eB,seval,c26,f1,hc])
 | true=>
 obtain ⟨h0,_,hu⟩:=chk_facts (of_decide_eq_true hc)
 rw [of_decide_eq_true hc] at f1
 have f2:=e_xgreatest h0 hF
 have hgl:=great_len h0 hF
 have hbl:=hF.bl
 have f3:=e_sidx true (great s) (by omega) g
 generalize great s=gl at f2 f3 hgl
 unfold idxOf at f3
 cases hj:gl.findIdx? (seq g) with
 | none=>
   rw [hj] at f3
   exact call_eq rfl rfl (by simp only [↓eA,eB,seval,c26,f1,f2,f3])
 | some j=>
   rw [hj] at f3
   have hjl:j < gl.length:=by
     obtain ⟨h,_⟩:=List.findIdx?_eq_some_iff_getElem.1 hj
     exact h
   have hne:(gl.map D.str).isEmpty=false:=by cases gl with | nil=>simp at hjl | cons x r=>rfl
   have hneg:decide ((j:Int) < 0)=false:=decide_eq_false (by omega)
   have hws:=wrap_succ (show j < 4611686018427387904 by omega)
   have hinc:inc 0 (j + 1)=true:=by simp [inc]; omega
   have hle:decide (j + 1≤gl.length)=true:=decide_eq_true (by omega)
   have hsub:IntKind.i64.wrap ((j:Int) - 1)=(j:Int) - 1:=wrap_in (by omega) (by omega)
   have htl:(gl.take (j + 1)).length=j + 1:=by rw [List.length_take]; omega
   exact call_eq rfl rfl (by
     simp only [↓eA,eB,seval,c26,f1,f2,f3,hne,hneg,hws,hinc,hle,hsub,cut_str,Nat.sub_zero,List.length_map]
     generalize hE:(lim T).loop 26010 _ _=R
     obtain ⟨X,e',H',rfl,rfl,g7⟩:=Ends.at hE (lp_plan s hF j (gl.take (j + 1)) (by omega) (by omega) _ _ (by simp only [↓eA,eB,seval]) (by simp only [↓eA,eB,seval]) (by simp only [↓eA,eB,seval]) rfl)
     simp only [↓eA,eB,seval,g7])
end Tz.C18
set_option maxRecDepth 100000
open Gs Go
namespace Tz.C18
theorem cut_drop (o:List ByteArray)(k:Nat):cut (o.map D.str) k (o.length - k)=(o.drop k).map D.str:=by
 unfold cut
 rw [←List.map_drop,List.take_of_length_le (by simp)]
theorem plan_facts {s:Site}(h0:siteErr s=0){g:ByteArray}{j:Nat}(hj:(great s).findIdx? (seq g)=some j):∃ p,planF s j ((great s).take (j + 1))=p ++ [g]∧possO s [] (p ++ [g])=true∧(∀ n∈p,n∈great s)∧∀ k,k < p.length→possO s [] ((p ++ [g]).eraseIdx k)=false:=by
 obtain ⟨hp,hI,_⟩:=great_ok h0
 obtain ⟨hjl,hje,_⟩:=List.findIdx?_eq_some_iff_getElem.1 hj
 have hg:(great s)[j]=g:=(seq_iff.1 hje).symm
 have ht:(great s).take (j + 1)=(great s).take j ++ [g]:=by rw [List.take_add_one,List.getElem?_eq_getElem hjl,hg]; rfl
 have hp1:possO s [] ((great s).take j ++ [g])=true:=by
   rw [←List.take_append_drop (j + 1) (great s),poss_append] at hp
   simp only [Bool.and_eq_true] at hp
   rw [←ht]; exact hp.1
 rw [ht]
 obtain ⟨p,h1,h2,h3,h4⟩:=plan_ok h0 j ((great s).take j) [g] (by rw [List.length_take]; omega) hp1
 exact ⟨p,h1,h2,fun n hn=>List.mem_of_mem_take (h3 n hn),h4⟩
end Tz.C18
set_option maxRecDepth 100000
open Gs Go
namespace Tz.C18
theorem chk_of {s:Site}(h0:siteErr s=0){o:List ByteArray}(hl:o.length≤256)(hk:∀ n∈o,∃ b∈s.blocks,b.name=n):chkErr s o=0:=by
 unfold chkErr
 have h1:decide (256 < (o.length:Int))=false:=decide_eq_false (by omega)
 have h2:o.any (unknown s)=false:=List.any_eq_false.2 fun n hn=>by
   obtain ⟨b,hb,he⟩:=hk n hn
   simp only [unknown,Bool.not_eq_true',Bool.not_eq_false]
   exact List.any_eq_true.2 ⟨b,hb,by unfold called; rw [he]; exact seq_refl _⟩
 rw [decide_eq_true h0,h1,h2]; rfl
theorem lp_least (s:Site)(hF:s.Fit)(h0:siteErr s=0)(q:List ByteArray)(hql:q.length≤256)(hk:∀ n∈q,∃ b∈s.blocks,b.name=n)(m:Nat)(hm:q.length=m + 1)(hno:∀ k,k < m→possO s [] (q.eraseIdx k)=false)(e:Env)(H:Heap)(h2:Gs.get e 2 = .ptr 2 0)(h5:Gs.get e 5=strz false q)(h7:Gs.get e 7=int q.length)(h9:Gs.get e 9=int 0)(H2:hget H 2=some (.box s.cells false)) :
   Ends T 7012 e H (fun X e' H'=>X = .ex 0):=by
 have hw:IntKind.i64.wrap ((q.length:Int) - 1)=(m:Int):=by rw [wrap_in (by omega) (by omega)]; omega
 refine (loop_upto (T:=T) (key:=7012) (li:=l7012.1) rfl (S:=Unit) (R:=Empty) (fun _ _=>.inr ()) m
   (fun i _ e H=>(Gs.get e 2 = .ptr 2 0∧Gs.get e 5=strz false q∧Gs.get e 7=int q.length∧Gs.get e 9=int i∧hget H 2=some (.box s.cells false))∧i≤m) (fun _ X e' H'=>False) (fun _ X e' H'=>X = .ex 0) ?_ ?_ ?_ m 0 () e H rfl ⟨⟨h2,h5,h7,h9,H2⟩,Nat.zero_le _⟩).mono fun X e' H' h=>?_
 · rintro i _ _ e H hi ⟨⟨h2,h5,h7,h9,H2⟩,_⟩ hf
   have hio:i < q.length:=by omega
   have hel:(q.eraseIdx i).length=q.length - 1:=List.length_eraseIdx_of_lt hio
   have hce:=chk_of h0 (o:=q.eraseIdx i) (by omega) (fun n hn=>hk n (List.mem_of_mem_eraseIdx hn))
   have f1:=e_xCheck s hF false (q.eraseIdx i) (by omega)
   rw [hce] at f1
   simp only [decide_true,cond_true] at f1
   have hpo:=first_poss s (q.eraseIdx i) []
   rw [List.length_nil,Nat.zero_add,hno i hi] at hpo
   have hne:decide ((firstF s [] (q.eraseIdx i):Int)=((q.eraseIdx i).length:Int))=false:=decide_eq_false (by have:=of_decide_eq_false hpo; omega)
   have htl:(q.take i).length=i:=by rw [List.length_take]; omega
   have hdl:(q.drop (i + 1)).length=q.length - (i + 1):=List.length_drop
   have hfit1:fits (q.take i).length 16=true:=fits_of (by omega)
   have hfit2:fits ((q.take i).length + (q.drop (i + 1)).length) 16=true:=fits_of (by omega)
   have hM:(q.take i).map D.str ++ (q.drop (i + 1)).map D.str=(q.eraseIdx i).map D.str:=by rw [List.eraseIdx_eq_take_drop_succ,List.map_append]
   have hcd:=cut_drop q (i + 1)
   have hinc1:inc 0 i=true:=by simp [inc]
   have hinc2:inc ((i + 1:Nat):Int) q.length=true:=by simp [inc]; omega
   have hle1:decide (i≤q.length)=true:=decide_eq_true (by omega)
   have hle2:decide (i + 1≤q.length)=true:=decide_eq_true (by omega)
   have hlt:decide ((i:Int) < (m:Int))=true:=decide_eq_true (by omega)
   generalize firstF s [] (q.eraseIdx i)=fr at f1 hne
   simp only [↓eA,eB,seval,l7012,h2,h5,h7,h9,H2,hw,hi,hlt,f1,hne,hfit1,hfit2,hM,hcd,hinc1,hinc2,hle1,hle2,cut_str,Nat.sub_zero,Nat.zero_add,Nat.le_refl,List.length_map,get_wipeB,wrap_succ (show i < 4611686018427387904 by omega)]
   exact ⟨trivial,⟨by first | trivial | rfl | simp only [↓eA,eB,seval],by first | trivial | rfl | simp only [↓eA,eB,seval],by first | trivial | rfl | simp only [↓eA,eB,seval],by first | trivial | rfl | simp only [↓eA,eB,seval],by first | trivial | rfl⟩,by omega⟩
 · rintro i _ r; exact r.elim
 · rintro i _ e H hi ⟨⟨h2,h5,h7,h9,H2⟩,hi2⟩
   have:i=m:=by omega
   subst this
   simp only [↓eA,eB,seval,l7012,h2,h5,h7,h9,H2,hw,Nat.lt_irrefl]
   and_intros<;>first | trivial | rfl
 · cases hu:upto (S:=Unit) (R:=Empty) (fun _ _=>.inr ()) m 0 () with
   | inl r=>exact r.elim
   | inr s=>rw [hu] at h; exact h
theorem e_xleast (s:Site)(g:ByteArray):L.call 7 [s.enc,.str g] []=some (.bool true,[]):=by
 obtain ⟨v,e1,hv⟩:=small21 s false [g]
 have e1:L.call 12 [s.enc,.fz false 1 [.str g]] []=some (.bool v,[]):=e1
 cases v with
 | false=>exact call_eq rfl rfl (by simp only [↓eA,eB,seval,c7,aw21,e1])
 | true=>
 obtain ⟨hF,_,hb,_⟩:=hv rfl
 have f3:=e_xPlan s hF g
 unfold planR at f3
 cases hc:decide (chkErr s [g]=0) with
 | false=>
   rw [hc] at f3
   generalize chkErr s [g]=er at hc f3
   exact call_eq rfl rfl (by simp only [↓eA,eB,seval,c7,aw21,e1,f3,hc,List.length_nil]<;>first | rfl | simp)
 | true=>
 obtain ⟨h0,_,hu⟩:=chk_facts (of_decide_eq_true hc)
 rw [hc] at f3
 cases hj:(great s).findIdx? (seq g) with
 | none=>
   rw [hj] at f3
   exact call_eq rfl rfl (by simp only [↓eA,eB,seval,c7,aw21,e1,f3,List.length_nil]<;>first | rfl | simp)
 | some j=>
   obtain ⟨p,h1,h2,h3,h4⟩:=plan_facts h0 hj
   simp only [hj,h1,Bool.not_true,cond_false] at f3
   have hok:=site_ok h0
   have h12:=few12 hok hb
   have hI:=poss_nil_inv h0 h2
   have hk:=start_known hI.st
   have hql:=known_len hI.st
   have hm:(p ++ [g]).length=p.length + 1:=by simp
   have hgt:((p ++ [g]).map D.str)[p.length]?=some (.str g):=by simp
   have f4:=e_xCheck s hF false (p ++ [g]) (by omega)
   rw [chk_of h0 (by omega) hk] at f4
   have hpo:=first_poss s (p ++ [g]) []
   rw [List.length_nil,Nat.zero_add,h2] at hpo
   rw [of_decide_eq_true hpo] at f4
   simp only [decide_true,cond_true] at f4
   have hlz:decide (((p ++ [g]).length:Int)=0)=false:=decide_eq_false (by omega)
   have hw:IntKind.i64.wrap (((p ++ [g]).length:Int) - 1)=(p.length:Int):=by rw [wrap_in (by omega) (by omega)]; omega
   have hpl:p.length < (p ++ [g]).length:=by omega
   have hlp:=fun e H=>lp_least s hF h0 (p ++ [g]) (by omega) hk p.length hm h4 e H
   generalize p ++ [g]=q at f3 f4 hgt hlz hw hpl hlp
   exact call_eq rfl rfl (by
     simp only [↓eA,eB,seval,c7,aw21,e1,f3,f4,hgt,hlz,hw,hpl,seq_refl,Nat.lt_irrefl,List.length_nil,List.length_map]
     generalize hE:(lim T).loop 7012 _ _=R
     obtain ⟨X,e',H',rfl,rfl⟩:=Ends.at hE (hlp _ _ (by simp only [↓eA,eB,seval]) (by simp only [↓eA,eB,seval]) (by simp only [↓eA,eB,seval]) (by simp only [↓eA,eB,seval]) rfl)
     simp only [↓eA,eB,seval])
end Tz.C18
