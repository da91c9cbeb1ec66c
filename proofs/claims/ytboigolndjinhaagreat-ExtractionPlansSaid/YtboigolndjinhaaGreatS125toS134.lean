/- part S125; part S126; part S129; part S131; part S133; part S134; no conditions. -/
import Derived.Test.YtboigolndjinhaaGreatS98toS124
import Derived.Test.YtboigolndjinhaaGreatS87toS65
set_option linter.all false
set_option maxRecDepth 100000
open Gs Go
namespace Tz.C18
end Tz.C18
set_option maxRecDepth 100000
open Gs Go
namespace Tz.C18
theorem lp_rIndex (s:Site)(hF:s.Fit)(n:ByteArray)(e:Env)(H:Heap)(h1:Gs.get e 1 = .str n)(h2:Gs.get e 2 = .ptr 2 0)(h5:Gs.get e 5=int 0)(hH:hget H 2=some (.box s.cells false)) :
   Ends T 28002 e H (fun X e' H'=>match s.blocks.findIdx? (called n) with | some j=>X = .ret∧Gs.get e' 4=int j | none=>X = .ex 0):=by
 have hbl:=hF.bl
 refine (loop_thru (T:=T) (key:=28002) (li:=l28002.1) rfl (fun (i:Nat) (b:Block)=>bif called n b then .inl i else .inr (i + 1)) s.blocks
   (fun i t e H=>t=i∧Gs.get e 1 = .str n∧Gs.get e 2 = .ptr 2 0∧Gs.get e 5=int i∧hget H 2=some (.box s.cells false))
   (fun i X e' H'=>X = .ret∧Gs.get e' 4=int i) (fun _ X e' H'=>X = .ex 0) ?_ ?_ ?_ s.blocks [] 0 e H rfl ⟨rfl,h1,h2,h5,hH⟩).mono fun X e' H' h=>?_
 · rintro i b t t' e H hx ⟨rfl,h1,h2,h5,hH⟩ hf
   have hi:=(List.getElem?_eq_some_iff.1 hx).1
   have hx':(s.blocks.map Block.enc)[t]?=some b.enc:=by simp [hx]
   have hn:called n b=false:=by cases hb:called n b<;>simp_all
   rw [hn] at hf
   injection hf with hf; subst hf
   unfold called at hn
   simp only [↓eA,eB,seval,l28002,h1,h2,h5,hH,hi,hx',hn,wrap_succ (show t < 4611686018427387904 by omega)]
   and_intros<;>first | trivial | rfl
 · rintro i b t r e H hx ⟨rfl,h1,h2,h5,hH⟩ hf
   have hi:=(List.getElem?_eq_some_iff.1 hx).1
   have hx':(s.blocks.map Block.enc)[t]?=some b.enc:=by simp [hx]
   have hn:called n b=true:=by cases hb:called n b<;>simp_all
   rw [hn] at hf
   injection hf with hf; subst hf
   unfold called at hn
   simp only [↓eA,eB,seval,l28002,h1,h2,h5,hH,hi,hx',hn]
   and_intros<;>first | trivial | rfl
 · rintro t e H ⟨rfl,h1,h2,h5,hH⟩
   simp only [↓eA,eB,seval,l28002,h1,h2,h5,hH,Nat.lt_irrefl]
   and_intros<;>first | trivial | rfl
 · rw [thru_idx] at h
   cases hd:s.blocks.findIdx? (called n)<;>rw [hd] at h
   · exact h
   · simpa using h
theorem e_rIndex (s:Site)(hF:s.Fit)(n:ByteArray):L.call 28 [s.enc,.str n] []=some (int (idxOf (called n) s.blocks),[]):=
 call_eq rfl rfl (by
   simp only [↓eA,eB,seval,c28]
   generalize hE:(lim T).loop 28002 _ _=R
   obtain ⟨X,e',H',rfl,hp⟩:=Ends.at hE (lp_rIndex s hF n _ _ (by simp only [↓eA,eB,seval]) (by simp only [↓eA,eB,seval]) (by simp only [↓eA,eB,seval]) rfl)
   unfold idxOf
   cases hf:s.blocks.findIdx? (called n) with
   | some j=>rw [hf] at hp; obtain ⟨rfl,g4⟩:=hp; simp only [↓eA,eB,seval,g4]
   | none=>rw [hf] at hp; subst hp; simp only [↓eA,eB,seval])
end Tz.C18
set_option maxRecDepth 100000
open Gs Go
namespace Tz.C18
theorem e_CloneS (nz:Bool)(o:List ByteArray)(h0:o≠[])(hl:o.length < 1000000):L.call 64 [strz nz o] []=some (.ow 600001,[(600001,.row false 1 (o.map .str) 0 true)]):=by
 obtain ⟨x,r,rfl⟩:∃ x r,o=x :: r:=by cases o with | nil=>exact absurd rfl h0 | cons x r=>exact ⟨x,r,rfl⟩
 have hfit:fits (0 + (r.length + 1)) 16=true:=fits_of (by simp at hl; omega)
 show L.call 64 [.fz nz 1 (.str x :: r.map .str)] []=some (.ow 600001,[(600001,.row false 1 (.str x :: r.map .str) 0 true)])
 cases nz<;>exact call_eq rfl rfl (by simp only [↓eA,eB,seval,c64,hfit,List.length_map,List.isEmpty_cons])
end Tz.C18
set_option maxRecDepth 100000
open Gs Go
namespace Tz.C18
theorem thru_first (s:Site):∀ (r t:List ByteArray),(match thru (R:=Nat) (fun (t:List ByteArray) (n:ByteArray)=>bif freeN s t n then .inr (t ++ [n]) else .inl t.length) r t with | .inl k=>firstF s t r=k | .inr _=>firstF s t r=t.length + r.length):=by
 intro r
 induction r with
 | nil=>intro t; simp [thru,firstF]
 | cons n r ih=>
   intro t
   unfold firstF thru
   cases hfr:freeN s t n with
   | false=>simp
   | true=>
     have:=ih (t ++ [n])
     simp only [cond_true]
     cases hr:thru (R:=Nat) (fun (t:List ByteArray) (n:ByteArray)=>bif freeN s t n then .inr (t ++ [n]) else .inl t.length) r (t ++ [n]) with
     | inl k=>rw [hr] at this; exact this
     | inr u=>rw [hr] at this; simp only at this ⊢; rw [this]; simp; omega
theorem free_poss {s:Site}(hok:SiteOk s){t:List ByteArray}(hst:startErr s t=0){b:Block}(hb:b∈s.blocks):freeN s t b.name=possible s t b:=by
 unfold freeN
 rw [decide_eq_true hst,sorted_find (sorted_of hok.srt) hb]; rfl
theorem lp_rfirst (s:Site)(hF:s.Fit)(h0:siteErr s=0)(h12:s.blocks.length≤12)(nz:Bool)(o:List ByteArray)(ho:o.length < 1000000)(hu:∀ n∈o,∃ b∈s.blocks,b.name=n)(e:Env)(H:Heap)(h1:Gs.get e 1=strz nz o)(h2:Gs.get e 2 = .ptr 2 0)(h5:Gs.get e 5=int 0)(H2:hget H 2=some (.box s.cells false)) :
   Ends T 33002 e H (fun X e' H'=>(X = .ret∧Gs.get e' 4=int (firstF s [] o))∨(X = .ex 0∧Gs.get e' 1=strz nz o∧firstF s [] o=o.length)):=by
 have hok:=site_ok h0
 refine (loop_thru (T:=T) (key:=33002) (li:=l33002.1) rfl (fun (t:List ByteArray) (n:ByteArray)=>bif freeN s t n then .inr (t ++ [n]) else .inl t.length) o
   (fun i t e H=>Gs.get e 1=strz nz o∧Gs.get e 2 = .ptr 2 0∧Gs.get e 5=int i∧hget H 2=some (.box s.cells false)∧t=o.take i∧Inv s t)
   (fun (r:Nat) X e' H'=>X = .ret∧Gs.get e' 4=int r) (fun t X e' H'=>X = .ex 0∧Gs.get e' 1=strz nz o) ?_ ?_ ?_ o [] [] e H rfl ⟨h1,h2,h5,H2,rfl,inv_nil (start_of h0 List.nodup_nil (by simp))⟩).mono fun X e' H' h=>?_
 · rintro i n t t' e H hx ⟨h1,h2,h5,H2,rfl,hI⟩ hf
   have hi:=(List.getElem?_eq_some_iff.1 hx).1
   have hx':(o.map D.str)[i]?=some (.str n):=by simp [hx]
   obtain ⟨b,hb,rfl⟩:=hu n (List.mem_of_getElem? hx)
   have hfr:freeN s (o.take i) b.name=true:=by cases hb:freeN s (o.take i) b.name<;>simp_all
   rw [hfr] at hf
   have hpb:possible s (o.take i) b=true:=by rw [←free_poss hok hI.st hb]; exact hfr
   have hq:=fun nz=>e_rWhy hok hF h12 nz (o.take i) (by simp; omega) hb
   have hz:decide ((whyB s (o.take i) b).1=0)=true:=hpb
   have hinc:inc 0 i=true:=by simp [inc]
   have hle:decide (i≤o.length)=true:=decide_eq_true (by omega)
   injection hf with hf
   simp only [↓eA,eB,seval,l33002,h1,h2,h5,H2,hi,hx',hq,hz,cut_str,hinc,hle,Nat.sub_zero,List.length_map,wrap_succ (show i < 4611686018427387904 by omega)]
   have ht:t'=o.take (i + 1):=by rw [←hf,List.take_add_one,hx]; rfl
   exact ⟨trivial,trivial,trivial,trivial,trivial,ht,by rw [←hf]; exact inv_step hI hb hpb⟩
 · rintro i n t r e H hx ⟨h1,h2,h5,H2,rfl,hI⟩ hf
   have hi:=(List.getElem?_eq_some_iff.1 hx).1
   have hx':(o.map D.str)[i]?=some (.str n):=by simp [hx]
   obtain ⟨b,hb,rfl⟩:=hu n (List.mem_of_getElem? hx)
   have hfr:freeN s (o.take i) b.name=false:=by cases hb:freeN s (o.take i) b.name<;>simp_all
   rw [hfr] at hf
   have hq:=fun nz=>e_rWhy hok hF h12 nz (o.take i) (by simp; omega) hb
   have hz:decide ((whyB s (o.take i) b).1=0)=false:=by rw [free_poss hok hI.st hb] at hfr; exact hfr
   have hinc:inc 0 i=true:=by simp [inc]
   have hle:decide (i≤o.length)=true:=decide_eq_true (by omega)
   injection hf with hf
   have hr:r=i:=by rw [←hf]; simp; omega
   subst hr
   simp only [↓eA,eB,seval,l33002,h1,h2,h5,H2,hi,hx',hq,hz,cut_str,hinc,hle,Nat.sub_zero,List.length_map]
   and_intros<;>first | trivial | rfl
 · rintro t e H ⟨h1,h2,h5,H2,ht,hI⟩
   simp only [↓eA,eB,seval,l33002,h1,h2,h5,H2,Nat.lt_irrefl,List.length_map]
   and_intros<;>first | trivial | rfl
 · have hk:=thru_first s o []
   cases hr:thru (R:=Nat) (fun (t:List ByteArray) (n:ByteArray)=>bif freeN s t n then .inr (t ++ [n]) else .inl t.length) o [] with
   | inl k=>rw [hr] at h hk; exact .inl ⟨h.1,by rw [hk]; exact h.2⟩
   | inr u=>rw [hr] at h hk; exact .inr ⟨h.1,h.2,by simpa using hk⟩
theorem e_rFirst (s:Site)(hF:s.Fit)(h0:siteErr s=0)(h12:s.blocks.length≤12)(nz:Bool)(o:List ByteArray)(ho:o.length < 1000000)(hu:∀ n∈o,∃ b∈s.blocks,b.name=n):L.call 33 [s.enc,strz nz o] []=some (int (firstF s [] o),[]):=
 call_eq rfl rfl (by
   simp only [↓eA,eB,seval,c33,List.length_map]
   generalize hE:(lim T).loop 33002 _ _=R
   obtain ⟨X,e',H',rfl,hp⟩:=Ends.at hE (lp_rfirst s hF h0 h12 nz o ho hu _ _ (by simp only [↓eA,eB,seval]) (by simp only [↓eA,eB,seval]) (by simp only [↓eA,eB,seval]) rfl)
   rcases hp with ⟨rfl,g4⟩ | ⟨rfl,g1,g2⟩
   · simp only [↓eA,eB,seval,g4]
   · rw [g2]; simp only [↓eA,eB,seval,g1,List.length_map])
theorem e_rPossible (s:Site)(hF:s.Fit)(h0:siteErr s=0)(h12:s.blocks.length≤12)(nz:Bool)(o:List ByteArray)(ho:o.length < 1000000)(hu:∀ n∈o,∃ b∈s.blocks,b.name=n):L.call 36 [s.enc,strz nz o] []=some (.bool (possO s [] o),[]):=by
 have h1:=e_rFirst s hF h0 h12 nz o ho hu
 have h2:=first_poss s o []
 rw [List.length_nil,Nat.zero_add] at h2
 rw [←h2]
 have h3:decide ((firstF s [] o:Int)=(o.length:Int))=decide (firstF s [] o=o.length):=by
   by_cases h:firstF s [] o=o.length
   · rw [h]; simp
   · rw [decide_eq_false h,decide_eq_false (by omega)]
 exact call_eq rfl rfl (by simp only [↓eA,eB,seval,c36,h1,h3,List.length_map])
end Tz.C18
set_option maxRecDepth 100000
open Gs Go
namespace Tz.C18
theorem e_Del (o:List ByteArray)(i:Nat)(hi:i < o.length)(hl:o.length < 1000000):L.call 63 [.ow 500001,int i,int ((i + 1:Nat):Int)] [(500001,.row false 1 (o.map .str) 0 false)]=some (.win 500001 0 (o.length - 1),[(500001,.row false 1 ((o.eraseIdx i ++ [ByteArray.empty]).map .str) 0 false)]):=by
 have h1:decide ((0:Int)≤(i:Int))=true:=decide_eq_true (by omega)
 have h2:decide ((i:Int) < ((i + 1:Nat):Int))=true:=decide_eq_true (by omega)
 have h3:decide (((i + 1:Nat):Int)≤(o.length:Int))=true:=decide_eq_true (by omega)
 have h4:decide (o.length < 4611686018427387904)=true:=decide_eq_true (by omega)
 have h5:(((i + 1:Nat):Int) - (i:Int)).toNat=1:=by omega
 refine ext_eq (s:=delStrX) rfl ?_
 unfold delStrX
 simp only [hget,hset,beq_self_eq_true,cond_true,strs_map,h1,h2,h3,h4,h5,Bool.and_self,Int.toNat_natCast,List.eraseIdx_eq_take_drop_succ,List.replicate_one]
theorem cut_erase (o:List ByteArray)(i:Nat)(hi:i < o.length):cut ((o.eraseIdx i ++ [ByteArray.empty]).map D.str) 0 (o.length - 1)=(o.eraseIdx i).map D.str:=by
 have:(o.eraseIdx i).length=o.length - 1:=List.length_eraseIdx_of_lt hi
 unfold cut
 rw [List.drop_zero,List.map_append,List.take_append_of_le_length (by simp [this]),List.take_of_length_le (by simp [this])]
theorem lp_plan (s:Site)(hF:s.Fit):∀ (k:Nat) (o:List ByteArray),o.length < 1000000→k < o.length→∀ (e:Env) (H:Heap),Gs.get e 2 = .ptr 2 0→Gs.get e 7=strz false o→Gs.get e 9=int ((k:Int) - 1)→hget H 2=some (.box s.cells false)→
   Ends T 26010 e H (fun X e' H'=>X = .ex 0∧Gs.get e' 7=strz false (planF s k o)):=by
 intro k
 induction k with
 | zero=>
   intro o hl hk e H h2 h7 h9 H2
   have hz:decide ((0:Int)≤((0:Nat):Int) - 1)=false:=rfl
   refine round_ends (T:=T) (key:=26010) (li:=l26010.1) rfl ?_
   simp only [↓eA,eB,seval,l26010,h2,h7,h9,H2,hz]
   exact ⟨trivial,trivial,rfl⟩
 | succ k ih=>
   intro o hl hk e H h2 h7 h9 H2
   have hk9:((k + 1:Nat):Int) - 1=(k:Int):=by omega
   rw [hk9] at h9
   have hz:decide ((0:Int)≤(k:Int))=true:=decide_eq_true (by omega)
   have hne:o≠[]:=by intro h; rw [h] at hk; simp at hk
   have f1:=e_CloneS false o hne hl
   have hko:k < o.length:=by omega
   have f2:=e_Del o k hko hl
   have hel:(o.eraseIdx k).length=o.length - 1:=List.length_eraseIdx_of_lt hko
   have f3:=e_xpossible s hF false (o.eraseIdx k) (by omega)
   have hcut:=cut_erase o k hko
   have hML:((o.eraseIdx k ++ [ByteArray.empty]).map D.str).length=o.length:=by simp [hel]; omega
   have hle:decide (o.length - 1≤o.length)=true:=decide_eq_true (by omega)
   have hsub:IntKind.i64.wrap ((k:Int) - 1)=(k:Int) - 1:=wrap_in (by omega) (by omega)
   have hws:=wrap_succ (show k < 4611686018427387904 by omega)
   generalize (o.eraseIdx k ++ [ByteArray.empty]).map D.str=M at f2 hcut hML
   refine round_goes (T:=T) (key:=26010) (li:=l26010.1) rfl (Q:=fun e H=>Gs.get e 2 = .ptr 2 0∧Gs.get e 7=strz false (bif possO s [] (o.eraseIdx k) then o.eraseIdx k else o)∧Gs.get e 9=int ((k:Int) - 1)∧hget H 2=some (.box s.cells false)) ?_ ?_
   · cases hp:possO s [] (o.eraseIdx k)<;>rw [hp] at f3<;>simp only [↓eA,eB,seval,l26010,h2,h7,h9,H2,hz,f1,f2,f3,hcut,hML,hle,hsub,hws,Nat.zero_add,List.length_map]<;>and_intros<;>first | trivial | rfl
   · rintro e H ⟨h2,h7,h9,H2⟩
     unfold planF
     refine ih _ ?_ ?_ e H h2 h7 h9 H2
     · cases possO s [] (o.eraseIdx k)<;>simp only [cond_true,cond_false]<;>omega
     · cases possO s [] (o.eraseIdx k)<;>simp only [cond_true,cond_false]<;>omega
def planR (s:Site)(g:ByteArray):D×Int:=bif !decide (chkErr s [g]=0) then (.fz true 1 [],chkErr s [g]) else match (great s).findIdx? (seq g) with
 | none=>(.fz true 1 [],10)
 | some j=>(strz false (planF s j ((great s).take (j + 1))),0)
theorem great_len {s:Site}(h:siteErr s=0)(hF:s.Fit):(great s).length≤s.blocks.length:=known_len (great_ok h).2.1.st
theorem e_xPlan (s:Site)(hF:s.Fit)(g:ByteArray):L.call 26 [s.enc,.str g] []=some (.tup [(planR s g).1,int (planR s g).2],[]):=by
 have f1:=e_xcheck s hF false [g] (by simp)
 have f1:L.call 51 [s.enc,.fz false 1 [.str g]] []=some (int (chkErr s [g]),[]):=f1
 unfold planR
 cases hc:decide (chkErr s [g]=0) with
 | false=>
   generalize chkErr s [g]=er at hc f1
   exact call_eq rfl rfl (by simp only [↓eA,eB,seval,c26,f1,hc])
 | true=>
 obtain ⟨h0,_,hu⟩:=chk_facts (of_decide_eq_true hc)
 rw [of_decide_eq_true hc] at f1
 have f2:=e_xgreatest h0 hF
 have hgl:=great_len h0 hF
 have hbl:=hF.bl
 have f3:=e_sidx true (great s) (by omega) g
 generalize great s=gl at f2 f3 hgl
 unfold idxOf at f3
 cases hj:gl.findIdx? (seq g) with
 | none=>
   rw [hj] at f3
   exact call_eq rfl rfl (by simp only [↓eA,eB,seval,c26,f1,f2,f3])
 | some j=>
   rw [hj] at f3
   have hjl:j < gl.length:=by
     obtain ⟨h,_⟩:=List.findIdx?_eq_some_iff_getElem.1 hj
     exact h
   have hne:(gl.map D.str).isEmpty=false:=by cases gl with | nil=>simp at hjl | cons x r=>rfl
   have hneg:decide ((j:Int) < 0)=false:=decide_eq_false (by omega)
   have hws:=wrap_succ (show j < 4611686018427387904 by omega)
   have hinc:inc 0 (j + 1)=true:=by simp [inc]; omega
   have hle:decide (j + 1≤gl.length)=true:=decide_eq_true (by omega)
   have hsub:IntKind.i64.wrap ((j:Int) - 1)=(j:Int) - 1:=wrap_in (by omega) (by omega)
   have htl:(gl.take (j + 1)).length=j + 1:=by rw [List.length_take]; omega
   exact call_eq rfl rfl (by
     simp only [↓eA,eB,seval,c26,f1,f2,f3,hne,hneg,hws,hinc,hle,hsub,cut_str,Nat.sub_zero,List.length_map]
     generalize hE:(lim T).loop 26010 _ _=R
     obtain ⟨X,e',H',rfl,rfl,g7⟩:=Ends.at hE (lp_plan s hF j (gl.take (j + 1)) (by omega) (by omega) _ _ (by simp only [↓eA,eB,seval]) (by simp only [↓eA,eB,seval]) (by simp only [↓eA,eB,seval]) rfl)
     simp only [↓eA,eB,seval,g7])
end Tz.C18
set_option maxRecDepth 100000
open Gs Go
namespace Tz.C18
def atN (l:List ByteArray)(g:ByteArray):Nat:=match l.findIdx? (seq g) with
  | some j=>j
  | none=>l.length
theorem thru_at (g:ByteArray):∀ (l:List ByteArray) (i:Nat),thru (R:=Nat) (fun (i:Nat) (x:ByteArray)=>bif seq g x then .inl i else .inr (i + 1)) l i=match l.findIdx? (seq g) with | some j=>.inl (i + j) | none=>.inr (i + l.length)
 | [],i=>by simp [thru]
 | x :: r,i=>by
   rw [List.findIdx?_cons]
   unfold thru
   cases hx:seq g x with
   | true=>simp
   | false=>
     simp only [cond_false,if_false,Bool.false_eq_true]
     rw [thru_at g r (i + 1)]
     cases r.findIdx? (seq g) with
     | none=>simp; omega
     | some j=>simp; omega
theorem lp_rat (s:Site)(al:List ByteArray)(hl:al.length < 1000000)(g:ByteArray)(e:Env)(H:Heap)(h1:Gs.get e 1 = .str g)(h2:Gs.get e 2 = .ptr 2 0)(h5:Gs.get e 5=strz false al)(h6:Gs.get e 6=int 0)(H2:hget H 2=some (.box s.cells false)) :
   Ends T 29003 e H (fun X e' H'=>X = .ex 0∧Gs.get e' 1 = .str g∧Gs.get e' 2 = .ptr 2 0∧Gs.get e' 5=strz false al∧Gs.get e' 6=int (atN al g)∧H'=[(2,.box s.cells false)]):=by
 refine (loop_thru (T:=T) (key:=29003) (li:=l29003.1) rfl (fun (i:Nat) (x:ByteArray)=>bif seq g x then .inl i else .inr (i + 1)) al
   (fun i t e H=>t=i∧Gs.get e 1 = .str g∧Gs.get e 2 = .ptr 2 0∧Gs.get e 5=strz false al∧Gs.get e 6=int i∧hget H 2=some (.box s.cells false))
   (fun j X e' H'=>X = .ex 0∧Gs.get e' 1 = .str g∧Gs.get e' 2 = .ptr 2 0∧Gs.get e' 5=strz false al∧Gs.get e' 6=int j∧H'=[(2,.box s.cells false)])
   (fun j X e' H'=>X = .ex 0∧Gs.get e' 1 = .str g∧Gs.get e' 2 = .ptr 2 0∧Gs.get e' 5=strz false al∧Gs.get e' 6=int j∧H'=[(2,.box s.cells false)]) ?_ ?_ ?_ al [] 0 e H rfl ⟨rfl,h1,h2,h5,h6,H2⟩).mono fun X e' H' h=>?_
 · rintro i x t t' e H hx ⟨rfl,h1,h2,h5,h6,H2⟩ hf
   have hi:=(List.getElem?_eq_some_iff.1 hx).1
   have hx':(al.map D.str)[t]?=some (.str x):=by simp [hx]
   have hn:seq g x=false:=by cases hb:seq g x<;>simp_all
   rw [hn] at hf
   injection hf with hf; subst hf
   rw [seq_comm] at hn
   simp only [↓eA,eB,seval,l29003,h1,h2,h5,h6,H2,hi,hx',hn,List.length_map,get_wipeB,wrap_succ (show t < 4611686018427387904 by omega)]
   and_intros<;>first | trivial | rfl
 · rintro i x t r e H hx ⟨rfl,h1,h2,h5,h6,H2⟩ hf
   have hi:=(List.getElem?_eq_some_iff.1 hx).1
   have hx':(al.map D.str)[t]?=some (.str x):=by simp [hx]
   have hn:seq g x=true:=by cases hb:seq g x<;>simp_all
   rw [hn] at hf
   injection hf with hf; subst hf
   rw [seq_comm] at hn
   simp only [↓eA,eB,seval,l29003,h1,h2,h5,h6,H2,hi,hx',hn,List.length_map,get_wipeB]
   and_intros<;>first | trivial | rfl
 · rintro t e H ⟨rfl,h1,h2,h5,h6,H2⟩
   simp only [↓eA,eB,seval,l29003,h1,h2,h5,h6,H2,Nat.lt_irrefl,List.length_map,get_wipeB]
   and_intros<;>first | trivial | rfl
 · rw [thru_at] at h
   unfold atN
   cases hj:al.findIdx? (seq g)<;>rw [hj] at h<;>simpa using h
theorem cut_drop (o:List ByteArray)(k:Nat):cut (o.map D.str) k (o.length - k)=(o.drop k).map D.str:=by
 unfold cut
 rw [←List.map_drop,List.take_of_length_le (by simp)]
theorem lp_rplan (s:Site)(hF:s.Fit)(h0:siteErr s=0)(h12:s.blocks.length≤12):∀ (k:Nat) (o:List ByteArray),o.length < 1000000→k < o.length→(∀ n∈o,∃ b∈s.blocks,b.name=n)→∀ (e:Env) (H:Heap),Gs.get e 2 = .ptr 2 0→Gs.get e 7=strz false o→Gs.get e 8=int ((k:Int) - 1)→hget H 2=some (.box s.cells false)→hget H 1007=none→(∃ R0,hget H 1030=some R0)→
   Ends T 29009 e H (fun X e' H'=>X = .ex 2∧Gs.get e' 7=strz false (planF s k o)):=by
 intro k
 induction k with
 | zero=>
   rintro o hl hk hu e H h2 h7 h8 H2 H7 ⟨R0,H3⟩
   have hz:decide ((0:Int)≤((0:Nat):Int) - 1)=false:=rfl
   refine round_ends (T:=T) (key:=29009) (li:=l29009.1) rfl ?_
   simp only [↓eA,eB,seval,l29009,h2,h7,h8,H2,H7,H3,hz]
   exact ⟨trivial,trivial,rfl⟩
 | succ k ih=>
   rintro o hl hk hu e H h2 h7 h8 H2 H7 ⟨R0,H3⟩
   have hk8:((k + 1:Nat):Int) - 1=(k:Int):=by omega
   rw [hk8] at h8
   have hz:decide ((0:Int)≤(k:Int))=true:=decide_eq_true (by omega)
   have hko:k < o.length:=by omega
   have hel:(o.eraseIdx k).length=o.length - 1:=List.length_eraseIdx_of_lt hko
   have hue:∀ n∈o.eraseIdx k,∃ b∈s.blocks,b.name=n:=fun n hn=>hu n (List.mem_of_mem_eraseIdx hn)
   have f3:=e_rPossible s hF h0 h12 false (o.eraseIdx k) (by omega) hue
   have htl:(o.take k).length=k:=by rw [List.length_take]; omega
   have hdl:(o.drop (k + 1)).length=o.length - (k + 1):=List.length_drop
   have hfit1:fits (o.take k).length 16=true:=fits_of (by omega)
   have hfit2:fits ((o.take k).length + (o.drop (k + 1)).length) 16=true:=fits_of (by omega)
   have hM:(o.take k).map D.str ++ (o.drop (k + 1)).map D.str=(o.eraseIdx k).map D.str:=by rw [List.eraseIdx_eq_take_drop_succ,List.map_append]
   have hcd:=cut_drop o (k + 1)
   have hinc1:inc 0 k=true:=by simp [inc]
   have hinc2:inc ((k + 1:Nat):Int) o.length=true:=by simp [inc]; omega
   have hle1:decide (k≤o.length)=true:=decide_eq_true (by omega)
   have hle2:decide (k + 1≤o.length)=true:=decide_eq_true (by omega)
   have hsub:IntKind.i64.wrap ((k:Int) - 1)=(k:Int) - 1:=wrap_in (by omega) (by omega)
   have hws:=wrap_succ (show k < 4611686018427387904 by omega)
   refine round_goes (T:=T) (key:=29009) (li:=l29009.1) rfl (Q:=fun e H=>Gs.get e 2 = .ptr 2 0∧Gs.get e 7=strz false (bif possO s [] (o.eraseIdx k) then o.eraseIdx k else o)∧Gs.get e 8=int ((k:Int) - 1)∧hget H 2=some (.box s.cells false)∧hget H 1007=none∧∃ R0,hget H 1030=some R0) ?_ ?_
   · cases hp:possO s [] (o.eraseIdx k)<;>rw [hp] at f3<;>simp only [↓eA,eB,seval,l29009,h2,h7,h8,H2,H7,H3,hz,f3,hfit1,hfit2,hM,hcd,hinc1,hinc2,hle1,hle2,hsub,hws,cut_str,Nat.sub_zero,Nat.zero_add,Nat.le_refl,List.length_map]<;>exact ⟨trivial,trivial,trivial,trivial,trivial,trivial,_,rfl⟩
   · rintro e H ⟨h2,h7,h8,H2,H7,H3⟩
     unfold planF
     refine ih _ ?_ ?_ ?_ e H h2 h7 h8 H2 H7 H3
     · cases possO s [] (o.eraseIdx k)<;>simp only [cond_true,cond_false]<;>omega
     · cases possO s [] (o.eraseIdx k)<;>simp only [cond_true,cond_false]<;>omega
     · cases possO s [] (o.eraseIdx k)<;>simp only [cond_true,cond_false]<;>assumption
def planD (s:Site)(g:ByteArray):D:=match (great s).findIdx? (seq g) with
  | none=>.fz true 1 []
  | some j=>strz false (planF s j ((great s).take (j + 1)))
theorem e_rPlan (s:Site)(hF:s.Fit)(h0:siteErr s=0)(h12:s.blocks.length≤12)(g:ByteArray):L.call 29 [s.enc,.str g] []=some (planD s g,[]):=by
 have f1:=e_rgreat h0 hF h12
 have hgl:=great_len h0 hF
 have hbl:=hF.bl
 obtain ⟨_,hI,_⟩:=great_ok h0
 have hk:=start_known hI.st
 unfold planD
 generalize great s=gl at f1 hgl hk
 have hat:atN gl g=atN gl g:=rfl
 unfold atN at hat
 refine call_eq rfl rfl ?_
 simp only [↓eA,eB,seval,c29,f1]
 generalize hE:(lim T).loop 29003 _ _=R
 obtain ⟨X,e',H',rfl,rfl,g1,g2,g5,g6,rfl⟩:=Ends.at hE (lp_rat s gl (by omega) g _ _ (by simp only [↓eA,eB,seval]) (by simp only [↓eA,eB,seval]) (by simp only [↓eA,eB,seval]) (by simp only [↓eA,eB,seval]) rfl)
 unfold atN at g6
 cases hj:gl.findIdx? (seq g) with
 | none=>
   rw [hj] at g6
   simp only [↓eA,eB,seval,g1,g2,g5,g6,List.length_map]
 | some j=>
   rw [hj] at g6
   have hjl:j < gl.length:=by
     obtain ⟨h,_⟩:=List.findIdx?_eq_some_iff_getElem.1 hj
     exact h
   have hne:decide ((j:Int)=(gl.length:Int))=false:=decide_eq_false (by omega)
   have htl:(gl.take (j + 1)).length=j + 1:=by rw [List.length_take]; omega
   have hfit:fits (0 + (gl.take (j + 1)).length) 16=true:=fits_of (by omega)
   have hws:=wrap_succ (show j < 4611686018427387904 by omega)
   have hinc:inc 0 (j + 1)=true:=by simp [inc]; omega
   have hle:decide (j + 1≤gl.length)=true:=decide_eq_true (by omega)
   have hsub:IntKind.i64.wrap ((j:Int) - 1)=(j:Int) - 1:=wrap_in (by omega) (by omega)
   simp only [↓eA,eB,seval,g1,g2,g5,g6,hne,hfit,hws,hinc,hle,hsub,cut_str,Nat.sub_zero,List.length_map,get_killE,killD]
   generalize hE:(lim T).loop 29009 _ _=R
   obtain ⟨X,e2,H2,rfl,rfl,g7⟩:=Ends.at hE (lp_rplan s hF h0 h12 j (gl.take (j + 1)) (by omega) (by omega) (fun n hn=>hk n (List.mem_of_mem_take hn)) _ _ (by simp only [↓eA,eB,seval,g2,get_killE,killD]) (by simp only [↓eA,eB,seval,get_killE,killD]) (by simp only [↓eA,eB,seval,get_killE,killD]) (by rfl) (by rfl) (by exact ⟨_,rfl⟩))
   simp only [↓eA,eB,seval,g7]
theorem plan_facts {s:Site}(h0:siteErr s=0){g:ByteArray}{j:Nat}(hj:(great s).findIdx? (seq g)=some j):∃ p,planF s j ((great s).take (j + 1))=p ++ [g]∧possO s [] (p ++ [g])=true∧(∀ n∈p,n∈great s)∧∀ k,k < p.length→possO s [] ((p ++ [g]).eraseIdx k)=false:=by
 obtain ⟨hp,hI,_⟩:=great_ok h0
 obtain ⟨hjl,hje,_⟩:=List.findIdx?_eq_some_iff_getElem.1 hj
 have hg:(great s)[j]=g:=(seq_iff.1 hje).symm
 have ht:(great s).take (j + 1)=(great s).take j ++ [g]:=by rw [List.take_add_one,List.getElem?_eq_getElem hjl,hg]; rfl
 have hp1:possO s [] ((great s).take j ++ [g])=true:=by
   rw [←List.take_append_drop (j + 1) (great s),poss_append] at hp
   simp only [Bool.and_eq_true] at hp
   rw [←ht]; exact hp.1
 rw [ht]
 obtain ⟨p,h1,h2,h3,h4⟩:=plan_ok h0 j ((great s).take j) [g] (by rw [List.length_take]; omega) hp1
 exact ⟨p,h1,h2,fun n hn=>List.mem_of_mem_take (h3 n hn),h4⟩
theorem e_xplans (s:Site)(g:ByteArray):L.call 6 [s.enc,.str g] []=some (.bool true,[]):=by
 obtain ⟨v,e1,hv⟩:=small21 s false [g]
 have e1:L.call 12 [s.enc,.fz false 1 [.str g]] []=some (.bool v,[]):=e1
 cases v with
 | false=>exact call_eq rfl rfl (by simp only [↓eA,eB,seval,c6,aw21,e1])
 | true=>
 obtain ⟨hF,_,hb,_⟩:=hv rfl
 have f2:=e_xGreatest s hF
 have f3:=e_xPlan s hF g
 have f4:=e_rSite s hF
 rw [site_eq] at f4
 unfold planR chkErr at f3
 cases hs:decide (siteErr s=0) with
 | false=>
   rw [hs] at f2 f3
   simp only [Bool.not_false,cond_true,cond_false,hs,List.map_nil] at f2 f3
   generalize siteErr s=er at hs f2 f3 f4
   exact call_eq rfl rfl (by simp only [↓eA,eB,seval,c6,aw21,e1,f2,f3,f4,hs,List.length_nil]<;>first | rfl | simp)
 | true=>
 have h0:=of_decide_eq_true hs
 have hok:=site_ok h0
 have h12:=few12 hok hb
 rw [hs] at f2 f3
 rw [h0] at f2 f4
 have h1l:decide (256 < (([g]:List ByteArray).length:Int))=false:=rfl
 rw [h1l] at f3
 simp only [Bool.not_true,cond_true,cond_false,List.any_cons,List.any_nil,Bool.or_false] at f2 f3
 have hgl:=great_len h0 hF
 have hbl:=hF.bl
 have f5:=e_rgreat h0 hF h12
 have f6:=e_same true false (great s) (by omega)
 have f7:=e_rIndex s hF g
 have hz:decide (idxOf (called g) s.blocks < 0)=unknown s g:=idx_lt0 _ _
 cases hu:unknown s g with
 | true=>
   rw [hu] at f3 hz
   generalize great s=gl at f2 f5 f6
   exact call_eq rfl rfl (by simp only [↓eA,eB,seval,c6,aw21,e1,f2,f3,f4,f5,f6,f7,hz,List.length_nil])
 | false=>
 rw [hu] at f3 hz
 have f8:=e_rPlan s hF h0 h12 g
 unfold planD at f8
 simp only [cond_false,decide_true,Bool.not_true] at f3
 cases hj:(great s).findIdx? (seq g) with
 | none=>
   rw [hj] at f3 f8
   generalize great s=gl at f2 f5 f6
   exact call_eq rfl rfl (by simp only [↓eA,eB,seval,c6,aw21,e1,f2,f3,f4,f5,f6,f7,f8,hz,List.length_nil])
 | some j=>
   obtain ⟨p,h1,h2,h3,_⟩:=plan_facts h0 hj
   simp only [hj,h1] at f3 f8
   have hpl:(p ++ [g]).length < 1000000:=by have:=known_len (poss_nil_inv h0 h2).st; omega
   have f9:=e_same false false (p ++ [g]) hpl
   have hlz:decide (((p ++ [g]).length:Int)=0)=false:=decide_eq_false (by simp; omega)
   generalize p ++ [g]=q at f3 f8 f9 hlz
   generalize great s=gl at f2 f5 f6
   exact call_eq rfl rfl (by simp only [↓eA,eB,seval,c6,aw21,e1,f2,f3,f4,f5,f6,f7,f8,f9,hz,hlz,List.length_nil,List.length_map])
end Tz.C18
