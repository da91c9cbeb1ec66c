/- part S98; part S110; part S120; part S128; part S121; part S122; no conditions. -/
import Derived.Test.YtboigolndjinhaaGreatS97
import Derived.Test.YtboigolndjinhaaGreatS0A
import Derived.Test.YtboigolndjinhaaGreatS92toS88
set_option linter.all false
set_option maxRecDepth 100000
open Gs Go
namespace Tz.C18
def hP (s:Site)(tk:List ByteArray)(x:Block):Bool:=!taken tk x && (restL [under x.box] (tkB s tk)).isEmpty
theorem small18b (s:Site)(nz:Bool)(tk:List ByteArray):∃ v,L.call 41 [s.enc,.fz nz 1 (tk.map .str)] []=some (.bool v,[])∧(v=true→s.Fit∧tk.length≤20∧(s.blocks.length≤12∨256 < s.blocks.length)):=by
 obtain ⟨w,e1,hw⟩:=small17 s
 refine ⟨(w && (decide ((s.blocks.length:Int)≤12) || decide (256 < (s.blocks.length:Int)))) && decide ((tk.length:Int)≤20),call_eq rfl rfl (by simp only [↓eA,eB,seval,c41,e1,List.length_map]),fun h=>?_⟩
 simp only [Bool.and_eq_true,Bool.or_eq_true,decide_eq_true_eq] at h
 exact ⟨hw h.1.1,by omega,by omega⟩
theorem few12 {s:Site}(hok:SiteOk s)(h:s.blocks.length≤12∨256 < s.blocks.length):s.blocks.length≤12:=by
 have hm:=hok.many
 simp only [cMany,Bool.or_eq_false_iff,decide_eq_false_iff_not] at hm
 omega
end Tz.C18
set_option maxRecDepth 100000
open Gs Go
namespace Tz.C18
def freeN (s:Site)(tk:List ByteArray)(n:ByteArray):Bool:=decide (startErr s tk=0) && match s.blocks.find? (called n) with
 | some b=>possible s tk b
 | none=>false
def firstF (s:Site):List ByteArray→List ByteArray→Nat
 | pre,[]=>pre.length
 | pre,n :: r=>bif freeN s pre n then firstF s (pre ++ [n]) r else pre.length
def possO (s:Site):List ByteArray→List ByteArray→Bool
 | _,[]=>true
 | pre,n :: r=>freeN s pre n && possO s (pre ++ [n]) r
theorem first_ge (s:Site):∀ (r pre:List ByteArray),pre.length≤firstF s pre r∧firstF s pre r≤pre.length + r.length
 | [],pre=>by simp [firstF]
 | n :: r,pre=>by
   unfold firstF
   cases freeN s pre n with
   | true=>have:=first_ge s r (pre ++ [n]); simp only [cond_true,List.length_append,List.length_cons,List.length_nil] at *; omega
   | false=>simp
theorem first_poss (s:Site):∀ (r pre:List ByteArray),decide (firstF s pre r=pre.length + r.length)=possO s pre r
 | [],pre=>by simp [firstF,possO]
 | n :: r,pre=>by
   unfold firstF possO
   cases freeN s pre n with
   | true=>
     have:=first_poss s r (pre ++ [n])
     simp only [cond_true,Bool.true_and,←this,List.length_append,List.length_cons,List.length_nil]
     congr 1
     rw [Nat.add_assoc,Nat.add_comm 1]
   | false=>simp
theorem start_of {s:Site}(h:siteErr s=0){tk:List ByteArray}(hn:tk.Nodup)(hk:∀ n∈tk,∃ b∈s.blocks,b.name=n):startErr s tk=0:=by
 unfold startErr
 have h1:tk.any (unknown s)=false:=List.any_eq_false.2 fun n hx=>by
   obtain ⟨b,hb,he⟩:=hk n hx
   simp only [unknown,Bool.not_eq_true',Bool.not_eq_false]
   exact List.any_eq_true.2 ⟨b,hb,by unfold called; rw [he]; exact seq_refl _⟩
 have h2:dupS [] tk=false:=(dupS_iff tk []).2 ⟨by simp,hn⟩
 rw [decide_eq_true h,h1,h2]; rfl
end Tz.C18
set_option maxRecDepth 100000
open Gs Go
namespace Tz.C18
theorem e_xfree (s:Site)(hF:s.Fit)(nz:Bool)(tk:List ByteArray)(ht:tk.length < 1000000)(nm:ByteArray):L.call 84 [s.enc,strz nz tk,.str nm] []=some (.bool (freeN s tk nm),[]):=by
 unfold freeN
 cases hs:decide (startErr s tk=0) with
 | false=>
   have h1:=e_Why_bad s hF nz tk ht nm hs
   generalize startErr s tk=er at hs h1
   exact call_eq rfl rfl (by simp only [↓eA,eB,seval,c84,h1,hs])
 | true=>
   have hs0:=of_decide_eq_true hs
   cases hn:s.blocks.find? (called nm) with
   | none=>
     have h1:=e_Why_no s hF nz tk ht nm hs0 hn
     exact call_eq rfl rfl (by simp only [↓eA,eB,seval,c84,h1])
   | some b=>
     have h1:=e_Why_ok s hF nz tk ht nm hs0 b hn
     exact call_eq rfl rfl (by simp only [↓eA,eB,seval,c84,h1]; rfl)
abbrev namesB (l:List Block):List ByteArray:=l.map (·.name)
theorem names_new {bs:List Block}(h:Sorted bs){i:Nat}{b:Block}(hb:bs[i]?=some b):(namesB (bs.take i)).any (seq b.name)=false:=by
 refine List.any_eq_false.2 fun n hn he=>?_
 obtain ⟨c,hc,rfl⟩:=List.mem_map.1 hn
 have hi:=(List.getElem?_eq_some_iff.1 hb).1
 have hsp:bs=bs.take i ++ bs.drop i:=(List.take_append_drop i bs).symm
 have hbd:b∈bs.drop i:=by
   have:bs.drop i=b :: bs.drop (i + 1):=by
     rw [←List.getElem_cons_drop hi]; congr 1; exact (List.getElem?_eq_some_iff.1 hb).2
   rw [this]; exact List.mem_cons_self
 rw [hsp] at h
 have:=(List.pairwise_append.1 h).2.2 c hc b hbd
 rw [seq_iff.1 he,slt_irrefl] at this
 cases this
theorem lp_xblocks (s:Site)(hF:s.Fit)(hsr:Sorted s.blocks)(e:Env)(H:Heap)(h3:Gs.get e 3 = .mp 9)(h11:Gs.get e 11=blks s.blocks)(h12:Gs.get e 12=int s.blocks.length)(h13:Gs.get e 13=int 0)(hH:hget H 9=some (.mapB [] false)) :
   Ends T 52003 e H (fun X e' H'=>X = .ex 0∧Gs.get e' 3 = .mp 9∧H'=[(9,.mapB (entT (namesB s.blocks)) false)]):=by
 have hbl:=hF.bl
 refine (loop_fold (T:=T) (key:=52003) (li:=l52003.1) rfl s.blocks (fun (a:Nat) (_:Block)=>a + 1)
   (fun i a e H=>Gs.get e 3 = .mp 9∧Gs.get e 11=blks s.blocks∧Gs.get e 12=int s.blocks.length∧Gs.get e 13=int i∧hget H 9=some (.mapB (entT (namesB (s.blocks.take i))) false)∧a=i)
   (fun a X e' H'=>X = .ex 0∧Gs.get e' 3 = .mp 9∧H'=[(9,.mapB (entT (namesB s.blocks)) false)]) ?_ ?_ 0 e H ⟨h3,h11,h12,h13,hH,rfl⟩).mono fun X e' H' h=>h
 · rintro i b a e H hx hi ⟨h3,h11,h12,h13,hH,rfl⟩
   have hx':(s.blocks.map Block.enc)[a]?=some b.enc:=by simp [hx]
   have hp:=mput_entT b.name (namesB (s.blocks.take a)) (names_new hsr hx)
   simp only [↓eA,eB,seval,l52003,h3,h11,h12,h13,hH,hi,hx',hp,List.length_map,wrap_succ (show a < 4611686018427387904 by omega)]
   refine ⟨trivial,trivial,trivial,trivial,trivial,?_,trivial⟩
   rw [List.take_add_one,hx]; simp
 · rintro a e H ⟨h3,h11,h12,h13,hH,ha⟩
   rw [List.take_length] at hH
   simp only [↓eA,eB,seval,l52003,h3,h11,h12,h13,hH,Nat.lt_irrefl]
   and_intros<;>first | trivial | rfl
theorem e_xblocks (s:Site)(hF:s.Fit)(hsr:Sorted s.blocks):L.call 52 [s.enc] []=some (.mp 600000,[(600000,.mapB (entT (namesB s.blocks)) false)]):=
 call_eq rfl rfl (by
   simp only [↓eA,eB,seval,c52,List.length_map]
   generalize hE:(lim T).loop 52003 _ _=R
   obtain ⟨X,e',H',rfl,rfl,g3,rfl⟩:=Ends.at hE (lp_xblocks s hF hsr _ _ (by simp only [↓eA,eB,seval]) (by simp only [↓eA,eB,seval]) (by simp only [↓eA,eB,seval]) (by simp only [↓eA,eB,seval]) rfl)
   simp only [↓eA,eB,seval,g3])
theorem e_xchk1 (ns:List ByteArray)(n:ByteArray):L.call 103 [.str n,.fp [.fm (entT ns)] 0] []=some (.bool (!ns.any (seq n)),[]):=by
 have hm:=mfind_entT n ns
 cases h:ns.any (seq n)<;>rw [h] at hm<;>exact call_eq rfl rfl (by simp only [↓eA,eB,seval,c103,hm])
def chkErr (s:Site)(order:List ByteArray):Int:=bif !decide (siteErr s=0) then siteErr s else bif decide (256 < (order.length:Int)) then 7 else bif order.any (unknown s) then 3 else 0
theorem unknown_names (s:Site)(n:ByteArray):unknown s n = !(namesB s.blocks).any (seq n):=by
 unfold unknown namesB
 rw [List.any_map]
 congr 1
 exact any_congr fun b _=>seq_comm _ _
theorem e_xcheck (s:Site)(hF:s.Fit)(nz:Bool)(order:List ByteArray)(ho:order.length < 1000000):L.call 51 [s.enc,strz nz order] []=some (int (chkErr s order),[]):=by
 have h1:=e_siteCheck s hF
 unfold chkErr
 cases hs:decide (siteErr s=0) with
 | false=>exact call_eq rfl rfl (by simp only [↓eA,eB,seval,c51,h1,hs])
 | true=>
 cases hl:decide (256 < (order.length:Int)) with
 | true=>exact call_eq rfl rfl (by simp only [↓eA,eB,seval,c51,h1,hs,hl,List.length_map])
 | false=>
 have hok:=site_ok (of_decide_eq_true hs)
 have h2:=e_xblocks s hF (sorted_of hok.srt)
 have h3:=e_con_str (fun n=>!(namesB s.blocks).any (seq n)) 103 [.fp [.fm (entT (namesB s.blocks))] 0] nz order (by omega) (by
   have:∀ l:List ByteArray,closedL (entT l)=true:=by
     intro l
     induction l with
     | nil=>rfl
     | cons n r ih=>unfold entT; simp only [closedL,closed,ih]; rfl
   simp only [closedL,closed,this]; rfl) (fun n _=>e_xchk1 _ n)
 rw [show order.any (unknown s)=order.any (fun n=>!(namesB s.blocks).any (seq n)) from any_congr fun n _=>unknown_names s n]
 cases hu:order.any (fun n=>!(namesB s.blocks).any (seq n))<;>rw [hu] at h3<;>exact call_eq rfl rfl (by simp only [↓eA,eB,seval,c51,h1,hs,hl,h2,h3,List.length_map])
theorem lp_xfirst (s:Site)(hF:s.Fit)(nz:Bool)(o:List ByteArray)(ho:o.length < 1000000)(e:Env)(H:Heap)(h1:Gs.get e 1=strz nz o)(h2:Gs.get e 2 = .ptr 2 0)(h7:Gs.get e 7=strz nz o)(h8:Gs.get e 8=int o.length)(h9:Gs.get e 9=int 0)(hH:hget H 2=some (.box s.cells false)) :
   Ends T 57002 e H (fun X e' H'=>(X = .ret∧Gs.get e' 4=int (firstF s [] o))∨(X = .ex 0∧Gs.get e' 1=strz nz o∧firstF s [] o=o.length)):=by
 refine (loop_thru (T:=T) (key:=57002) (li:=l57002.1) rfl (fun (t:List ByteArray) (n:ByteArray)=>bif freeN s t n then .inr (t ++ [n]) else .inl t.length) o
   (fun i t e H=>Gs.get e 1=strz nz o∧Gs.get e 2 = .ptr 2 0∧Gs.get e 7=strz nz o∧Gs.get e 8=int o.length∧Gs.get e 9=int i∧hget H 2=some (.box s.cells false)∧t=o.take i)
   (fun (r:Nat) X e' H'=>X = .ret∧Gs.get e' 4=int r) (fun t X e' H'=>X = .ex 0∧Gs.get e' 1=strz nz o) ?_ ?_ ?_ o [] [] e H rfl ⟨h1,h2,h7,h8,h9,hH,rfl⟩).mono fun X e' H' h=>?_
 · rintro i n t t' e H hx ⟨h1,h2,h7,h8,h9,hH,rfl⟩ hf
   have hi:=(List.getElem?_eq_some_iff.1 hx).1
   have hx':(o.map D.str)[i]?=some (.str n):=by simp [hx]
   have hfr:freeN s (o.take i) n=true:=by cases hb:freeN s (o.take i) n<;>simp_all
   have hq:=fun nz=>e_xfree s hF nz (o.take i) (by simp; omega) n
   rw [hfr] at hf hq
   have hinc:inc 0 i=true:=by simp [inc]
   have hle:decide (i≤o.length)=true:=decide_eq_true (by omega)
   injection hf with hf
   simp only [↓eA,eB,seval,l57002,h1,h2,h7,h8,h9,hH,hi,hx',hq,cut_str,hinc,hle,Nat.sub_zero,List.length_map,wrap_succ (show i < 4611686018427387904 by omega)]
   refine ⟨trivial,trivial,trivial,trivial,trivial,trivial,trivial,?_⟩
   rw [←hf,List.take_add_one,hx]; rfl
 · rintro i n t r e H hx ⟨h1,h2,h7,h8,h9,hH,rfl⟩ hf
   have hi:=(List.getElem?_eq_some_iff.1 hx).1
   have hx':(o.map D.str)[i]?=some (.str n):=by simp [hx]
   have hfr:freeN s (o.take i) n=false:=by cases hb:freeN s (o.take i) n<;>simp_all
   have hq:=fun nz=>e_xfree s hF nz (o.take i) (by simp; omega) n
   rw [hfr] at hf hq
   have hinc:inc 0 i=true:=by simp [inc]
   have hle:decide (i≤o.length)=true:=decide_eq_true (by omega)
   injection hf with hf
   have hr:r=i:=by rw [←hf]; simp; omega
   subst hr
   simp only [↓eA,eB,seval,l57002,h1,h2,h7,h8,h9,hH,hi,hx',hq,cut_str,hinc,hle,Nat.sub_zero,List.length_map]
   and_intros<;>first | trivial | rfl
 · rintro t e H ⟨h1,h2,h7,h8,h9,hH,ht⟩
   simp only [↓eA,eB,seval,l57002,h1,h2,h7,h8,h9,hH,Nat.lt_irrefl]
   and_intros<;>first | trivial | rfl
 · have key:∀ (r t:List ByteArray),(match thru (R:=Nat) (fun (t:List ByteArray) (n:ByteArray)=>bif freeN s t n then .inr (t ++ [n]) else .inl t.length) r t with | .inl k=>firstF s t r=k | .inr _=>firstF s t r=t.length + r.length):=by
     intro r
     induction r with
     | nil=>intro t; simp [thru,firstF]
     | cons n r ih=>
       intro t
       unfold firstF thru
       cases hfr:freeN s t n with
       | false=>simp
       | true=>
         have:=ih (t ++ [n])
         simp only [cond_true]
         cases hr:thru (R:=Nat) (fun (t:List ByteArray) (n:ByteArray)=>bif freeN s t n then .inr (t ++ [n]) else .inl t.length) r (t ++ [n]) with
         | inl k=>rw [hr] at this; exact this
         | inr u=>rw [hr] at this; simp only at this ⊢; rw [this]; simp; omega
   have hk:=key o []
   cases hr:thru (R:=Nat) (fun (t:List ByteArray) (n:ByteArray)=>bif freeN s t n then .inr (t ++ [n]) else .inl t.length) o [] with
   | inl k=>rw [hr] at h hk; exact .inl ⟨h.1,by rw [hk]; exact h.2⟩
   | inr u=>rw [hr] at h hk; exact .inr ⟨h.1,h.2,by simpa using hk⟩
theorem e_xfirst (s:Site)(hF:s.Fit)(nz:Bool)(o:List ByteArray)(ho:o.length < 1000000):L.call 57 [s.enc,strz nz o] []=some (int (firstF s [] o),[]):=
 call_eq rfl rfl (by
   simp only [↓eA,eB,seval,c57,List.length_map]
   generalize hE:(lim T).loop 57002 _ _=R
   obtain ⟨X,e',H',rfl,hp⟩:=Ends.at hE (lp_xfirst s hF nz o ho _ _ (by simp only [↓eA,eB,seval]) (by simp only [↓eA,eB,seval]) (by simp only [↓eA,eB,seval]) (by simp only [↓eA,eB,seval]) (by simp only [↓eA,eB,seval]) rfl)
   rcases hp with ⟨rfl,g4⟩ | ⟨rfl,g1,g2⟩
   · simp only [↓eA,eB,seval,g4]
   · rw [g2]; simp only [↓eA,eB,seval,g1,List.length_map])
theorem e_xpossible (s:Site)(hF:s.Fit)(nz:Bool)(o:List ByteArray)(ho:o.length < 1000000):L.call 65 [s.enc,strz nz o] []=some (.bool (possO s [] o),[]):=by
 have h1:=e_xfirst s hF nz o ho
 have h2:=first_poss s o []
 rw [List.length_nil,Nat.zero_add] at h2
 rw [←h2]
 have h3:decide ((firstF s [] o:Int)=(o.length:Int))=decide (firstF s [] o=o.length):=by
   by_cases h:firstF s [] o=o.length
   · rw [h]; simp
   · rw [decide_eq_false h,decide_eq_false (by omega)]
 exact call_eq rfl rfl (by simp only [↓eA,eB,seval,c65,h1,h3,List.length_map])
theorem e_xCheck (s:Site)(hF:s.Fit)(nz:Bool)(o:List ByteArray)(ho:o.length < 1000000):L.call 23 [s.enc,strz nz o] []=some (.tup [int (bif decide (chkErr s o=0) then (firstF s [] o:Int) else 0),int (chkErr s o)],[]):=by
 have h1:=e_xcheck s hF nz o ho
 cases hs:decide (chkErr s o=0) with
 | false=>
   generalize chkErr s o=er at hs h1
   exact call_eq rfl rfl (by simp only [↓eA,eB,seval,c23,h1,hs])
 | true=>
   have h2:=e_xfirst s hF nz o ho
   rw [of_decide_eq_true hs] at h1
   rw [of_decide_eq_true hs]
   exact call_eq rfl rfl (by simp only [↓eA,eB,seval,c23,h1,h2])
end Tz.C18
set_option maxRecDepth 100000
open Gs Go
namespace Tz.C18
theorem e_isNaNS (a:ByteArray):L.call 223 [.str a] []=some (.bool false,[]):=
 call_eq rfl rfl (by simp only [↓eA,eB,seval,c223,seq_refl])
def cmpB (a b:ByteArray):Int:=bif slt a b then -1 else bif slt b a then 1 else 0
theorem e_CompareS (a b:ByteArray):L.call 172 [.str a,.str b] []=some (int (cmpB a b),[]):=by
 unfold cmpB
 have h1:=e_isNaNS a
 have h2:=e_isNaNS b
 cases h3:slt a b with
 | true=>exact call_eq rfl rfl (by simp only [↓eA,eB,seval,c172,h1,h2,h3])
 | false=>
 cases h4:slt b a with
 | true=>exact call_eq rfl rfl (by simp only [↓eA,eB,seval,c172,h1,h2,h3,(seq_comm a b).trans (slt_ne h4)])
 | false=>exact call_eq rfl rfl (by simp only [↓eA,eB,seval,c172,h1,h2,h3,seq_iff.2 (slt_total h3 h4)])
theorem e_find1 (b:Block)(n:ByteArray):L.call 171 [b.enc,.str n] []=some (int (cmpB b.name n),[]):=
 call_eq rfl rfl (by simp only [↓eA,eB,seval,c171,e_CompareS b.name n])
theorem cmp_neg (a b:ByteArray):decide (cmpB a b < 0)=slt a b:=by
 unfold cmpB
 cases h1:slt a b with
 | true=>rfl
 | false=>cases h2:slt b a<;>rfl
theorem cmp_zero (a b:ByteArray):decide (cmpB a b=0)=seq a b:=by
 unfold cmpB
 cases h1:slt a b with
 | true=>rw [slt_ne h1]; rfl
 | false=>
   cases h2:slt b a with
   | true=>rw [seq_comm,slt_ne h2]; rfl
   | false=>rw [slt_total h1 h2,seq_refl]; rfl
theorem half_ok {lo hi:Nat}(h1:lo < 1000000)(h2:hi < 1000000):IntKind.i64.wrap ((IntKind.u64.wrap (IntKind.i64.wrap ((lo:Int) + (hi:Int)))).fdiv 2)=(((lo + hi) / 2:Nat):Int):=by
 have e1:IntKind.i64.wrap ((lo:Int) + (hi:Int))=((lo + hi:Nat):Int):=by rw [wrap_in (by omega) (by omega)]; omega
 have e2:IntKind.u64.wrap ((lo + hi:Nat):Int)=((lo + hi:Nat):Int):=by
   show ((lo + hi:Nat):Int) % 18446744073709551616=_
   omega
 rw [e1,e2]
 have e3:Int.fdiv ((lo + hi:Nat):Int) 2=(((lo + hi) / 2:Nat):Int):=by
   rw [Int.fdiv_eq_ediv_of_nonneg _ (by omega)]; omega
 rw [e3,wrap_in (by omega) (by omega)]
abbrev EnvH (bs:List Block)(n:ByteArray)(lo hi:Nat)(e:Env):Prop:=
 Gs.get e 0=blks bs∧Gs.get e 1 = .str n∧Gs.get e 2 = .fn 171 []∧Gs.get e 8=int bs.length∧Gs.get e 9=int lo∧Gs.get e 10=int hi
abbrev Less (bs:List Block)(n:ByteArray)(lo:Nat):Prop:=∀ (j:Nat) (b:Block),bs[j]?=some b→j < lo→slt b.name n=true
abbrev More (bs:List Block)(n:ByteArray)(hi:Nat):Prop:=∀ (j:Nat) (b:Block),bs[j]?=some b→hi≤j→slt b.name n=false
theorem sorted_at {bs:List Block}(hs:Sorted bs){i j:Nat}{a b:Block}(ha:bs[i]?=some a)(hb:bs[j]?=some b)(hij:i < j):slt a.name b.name=true:=by
 obtain ⟨hi,rfl⟩:=List.getElem?_eq_some_iff.1 ha
 obtain ⟨hj,rfl⟩:=List.getElem?_eq_some_iff.1 hb
 exact List.pairwise_iff_getElem.1 hs i j hi hj hij
theorem lp_bsf {bs:List Block}(hs:Sorted bs)(hl:bs.length < 1000000)(n:ByteArray):∀ (k lo hi:Nat),hi - lo≤k→lo≤hi→hi≤bs.length→Less bs n lo→More bs n hi→∀ (e:Env) (H:Heap),EnvH bs n lo hi e→
   Ends T 170003 e H (fun X e' H'=>X = .ex 0∧H'=[]∧∃ i,EnvH bs n i i e'∧i≤bs.length∧Less bs n i∧More bs n i):=by
 intro k
 induction k with
 | zero=>
   rintro lo hi hk hle hbl h1 h2 e H ⟨g0,g1,g2,g8,g9,g10⟩
   have:hi=lo:=by omega
   subst this
   refine round_ends (T:=T) (key:=170003) (li:=l170003.1) rfl ?_
   simp only [↓eA,eB,seval,l170003,g0,g1,g2,g8,g9,g10,Nat.lt_irrefl]
   exact ⟨trivial,trivial,trivial,hi,⟨by simp only [↓eA,eB,seval,g0],by simp only [↓eA,eB,seval,g1],by simp only [↓eA,eB,seval,g2],by simp only [↓eA,eB,seval,g8],by simp only [↓eA,eB,seval,g9],by simp only [↓eA,eB,seval,g10]⟩,hbl,h1,h2⟩
 | succ k ih=>
   rintro lo hi hk hle hbl h1 h2 e H ⟨g0,g1,g2,g8,g9,g10⟩
   by_cases hlt:lo < hi
   · have hm1:(lo + hi) / 2 < hi:=by omega
     have hm2:lo≤(lo + hi) / 2:=by omega
     have hm3:(lo + hi) / 2 < bs.length:=by omega
     have hhalf:=half_ok (show lo < 1000000 by omega) (show hi < 1000000 by omega)
     generalize (lo + hi) / 2=m at hm1 hm2 hm3 hhalf
     obtain ⟨b,hb⟩:∃ b,bs[m]?=some b:=⟨bs[m],List.getElem?_eq_getElem hm3⟩
     have hb':(bs.map Block.enc)[m]?=some b.enc:=by simp [hb]
     have hc:=e_find1 b n
     have hz:=cmp_neg b.name n
     cases hs1:slt b.name n with
     | true=>
       rw [hs1] at hz
       refine round_goes (T:=T) (key:=170003) (li:=l170003.1) rfl (Q:=fun e H=>EnvH bs n (m + 1) hi e) ?_ ?_
       · simp only [↓eA,eB,seval,l170003,g0,g1,g2,g8,g9,g10,hlt,hhalf,hm3,hb',hc,hz,List.length_map,wrap_succ (show m < 4611686018427387904 by omega)]
         and_intros<;>first | trivial | rfl
       · intro e H hE
         refine ih (m + 1) hi (by omega) (by omega) hbl (fun j c hj hjm=>?_) h2 e H hE
         by_cases hjm':j=m
         · subst hjm'; rw [hb] at hj; injection hj with hj; subst hj; exact hs1
         · exact slt_trans (sorted_at hs hj hb (by omega)) hs1
     | false=>
       rw [hs1] at hz
       refine round_goes (T:=T) (key:=170003) (li:=l170003.1) rfl (Q:=fun e H=>EnvH bs n lo m e) ?_ ?_
       · simp only [↓eA,eB,seval,l170003,g0,g1,g2,g8,g9,g10,hlt,hhalf,hm3,hb',hc,hz,List.length_map]
         and_intros<;>first | trivial | rfl
       · intro e H hE
         refine ih lo m (by omega) hm2 (by omega) h1 (fun j c hj hjm=>?_) e H hE
         by_cases hjm':j=m
         · subst hjm'; rw [hb] at hj; injection hj with hj; subst hj; exact hs1
         · cases h:slt c.name n with
           | false=>rfl
           | true=>have:=slt_trans (sorted_at hs hb hj (by omega)) h; rw [hs1] at this; cases this
   · have:hi=lo:=by omega
     subst this
     exact ih hi hi (by omega) (Nat.le_refl _) hbl h1 h2 e H ⟨g0,g1,g2,g8,g9,g10⟩
def lowN (bs:List Block)(n:ByteArray):Nat:=bs.findIdx fun b=>!slt b.name n
theorem low_less (bs:List Block)(n:ByteArray):Less bs n (lowN bs n):=fun j b hj h=>by
 have:=List.not_of_lt_findIdx h
 obtain ⟨hl,rfl⟩:=List.getElem?_eq_some_iff.1 hj
 simpa using this
theorem low_more {bs:List Block}(hs:Sorted bs)(n:ByteArray):More bs n (lowN bs n):=fun j b hj h=>by
 have hl:lowN bs n < bs.length:=by have:=(List.getElem?_eq_some_iff.1 hj).1; omega
 have h1:slt (bs[lowN bs n]).name n=false:=(Bool.not_eq_true' _).mp (List.findIdx_getElem (p:=fun b:Block=>!slt b.name n) (xs:=bs) (w:=hl))
 have h2:bs[lowN bs n]?=some bs[lowN bs n]:=List.getElem?_eq_getElem hl
 by_cases he:j=lowN bs n
 · rw [he,h2] at hj; injection hj with hj; rw [←hj]; exact h1
 · cases hc:slt b.name n with
   | false=>rfl
   | true=>have:=slt_trans (sorted_at hs h2 hj (by omega)) hc; rw [h1] at this; cases this
theorem low_eq {bs:List Block}(hs:Sorted bs){n:ByteArray}{i:Nat}(hi:i≤bs.length)(h1:Less bs n i)(h2:More bs n i):i=lowN bs n:=by
 have hl:lowN bs n≤bs.length:=List.findIdx_le_length
 rcases Nat.lt_trichotomy i (lowN bs n) with h | h | h
 · have hb:=List.getElem?_eq_getElem (l:=bs) (i:=i) (by omega)
   have e1:=low_less bs n i _ hb h
   rw [h2 i _ hb (Nat.le_refl _)] at e1; cases e1
 · exact h
 · have hb:=List.getElem?_eq_getElem (l:=bs) (i:=lowN bs n) (by omega)
   have e1:=h1 _ _ hb h
   rw [low_more hs n _ _ hb (Nat.le_refl _)] at e1; cases e1
theorem low_found {bs:List Block}(hs:Sorted bs){n:ByteArray}{b:Block}(hb:b∈bs)(hc:called n b=true):bs[lowN bs n]?=some b:=by
 obtain ⟨j,hj,hjb⟩:=List.getElem_of_mem hb
 have hj':bs[j]?=some b:=by rw [List.getElem?_eq_getElem hj,hjb]
 have he:b.name=n:=seq_iff.1 hc
 subst he
 rcases Nat.lt_trichotomy j (lowN bs b.name) with h | h | h
 · have:=low_less bs b.name j b hj' h; rw [slt_irrefl] at this; cases this
 · rw [←h]; exact hj'
 · have h2:=List.getElem?_eq_getElem (l:=bs) (i:=lowN bs b.name) (by omega)
   have h3:=low_more hs b.name _ _ h2 (Nat.le_refl _)
   rw [sorted_at hs h2 hj' h] at h3; cases h3
theorem e_bsf {bs:List Block}(hs:Sorted bs)(hl:bs.length < 1000000)(n:ByteArray):L.call 170 [blks bs,.str n,.fn 171 []] []=some (.tup [int (lowN bs n),.bool (bs.any (called n))],[]):=
 call_eq rfl rfl (by
   simp only [↓eA,eB,seval,c170,List.length_map]
   generalize hE:(lim T).loop 170003 _ _=R
   obtain ⟨X,e',H',rfl,rfl,rfl,i,⟨g0,g1,g2,g8,g9,g10⟩,hi,h1,h2⟩:=Ends.at hE (lp_bsf hs hl n bs.length 0 bs.length (by omega) (Nat.zero_le _) (Nat.le_refl _) (fun j b _ h=>absurd h (Nat.not_lt_zero _)) (fun j b hj h=>absurd (List.getElem?_eq_some_iff.1 hj).1 (by omega)) _ _ ⟨by simp only [↓eA,eB,seval],by simp only [↓eA,eB,seval],by simp only [↓eA,eB,seval],by simp only [↓eA,eB,seval],by simp only [↓eA,eB,seval],by simp only [↓eA,eB,seval]⟩)
   have hi':=low_eq hs hi h1 h2
   subst hi'
   cases hb:bs[lowN bs n]? with
   | none=>
     have hlt:¬ lowN bs n < bs.length:=fun h=>by rw [List.getElem?_eq_getElem h] at hb; cases hb
     have ha:bs.any (called n)=false:=List.any_eq_false.2 fun b hm hc=>by rw [low_found hs hm hc] at hb; cases hb
     rw [ha]
     simp only [↓eA,eB,seval,g0,g1,g2,g8,g9,g10,hlt,get_wipeB]
   | some b=>
     have hlt:=(List.getElem?_eq_some_iff.1 hb).1
     have hb':(bs.map Block.enc)[lowN bs n]?=some b.enc:=by simp [hb]
     have hc:=e_find1 b n
     have hz:=cmp_zero b.name n
     cases hq:seq b.name n with
     | true=>
       have ha:bs.any (called n)=true:=List.any_eq_true.2 ⟨b,List.mem_of_getElem? hb,hq⟩
       rw [ha]
       rw [hq] at hz
       simp only [↓eA,eB,seval,g0,g1,g2,g8,g9,g10,hlt,hb',hc,hz,List.length_map,get_wipeB]
     | false=>
       have ha:bs.any (called n)=false:=List.any_eq_false.2 fun c hm hcc=>by
         have:=low_found hs hm hcc
         rw [hb] at this; injection this with this; subst this
         unfold called at hcc; rw [hq] at hcc; cases hcc
       rw [ha]
       rw [hq] at hz
       simp only [↓eA,eB,seval,g0,g1,g2,g8,g9,g10,hlt,hb',hc,hz,List.length_map,get_wipeB])
theorem e_Find (s:Site)(hF:s.Fit)(hok:SiteOk s)(h0:siteErr s=0){b:Block}(hb:b∈s.blocks):L.call 111 [s.enc,.str b.name] []=some (.tup [b.enc,int 0],[]):=by
 have h1:=e_siteCheck s hF
 rw [h0] at h1
 have hs:=sorted_of hok.srt
 have h2:=e_bsf hs hF.bl b.name
 have h3:=low_found hs hb (seq_refl _)
 have ha:s.blocks.any (called b.name)=true:=List.any_eq_true.2 ⟨b,hb,seq_refl _⟩
 rw [ha] at h2
 have hlt:=(List.getElem?_eq_some_iff.1 h3).1
 have h3':(s.blocks.map Block.enc)[lowN s.blocks b.name]?=some b.enc:=by simp [h3]
 exact call_eq rfl rfl (by simp only [↓eA,eB,seval,c111,h1,h2,h3',hlt,List.length_map])
theorem lev_idx (b:Block):∀ (l:List Bench) (x:Bench),l.find? (onBench b)=some x→b.box.z1≤x.hi→∃ j,l.findIdx? (onBench b)=some j∧l.findIdx? (levP b)=some j∧j < l.length
 | [],x,h,_=>by cases h
 | a :: r,x,h,hx=>by
   rw [List.find?_cons] at h
   rw [List.findIdx?_cons,List.findIdx?_cons]
   cases ho:onBench b a with
   | true=>
     rw [ho] at h
     injection h with h
     subst h
     have hl:levP b a=true:=by unfold levP; unfold onBench at ho; rw [ho,decide_eq_true hx]; rfl
     exact ⟨0,rfl,by rw [hl]; rfl,by simp⟩
   | false=>
     rw [ho] at h
     obtain ⟨j,h1,h2,h3⟩:=lev_idx b r x h hx
     have hl:levP b a=false:=by unfold levP; unfold onBench at ho; rw [ho]; rfl
     exact ⟨j + 1,by simp [h1],by rw [hl]; simp [h2],by simp; omega⟩
def lvlB (s:Site)(b:Block):Nat:=(s.benches.findIdx? (onBench b)).getD 0
theorem lvl_ok {s:Site}(hok:SiteOk s){b:Block}(hb:b∈s.blocks):idxOf (onBench b) s.benches=(lvlB s b:Int)∧idxOf (levP b) s.benches=(lvlB s b:Int)∧lvlB s b < s.benches.length:=by
 have hc:=List.any_eq_false.1 hok.cfl b hb
 unfold conflict at hc
 cases hf:s.benches.find? (onBench b) with
 | none=>rw [hf] at hc; simp at hc
 | some x=>
   rw [hf] at hc
   obtain ⟨j,h1,h2,h3⟩:=lev_idx b s.benches x hf (by simpa using hc)
   unfold lvlB idxOf
   rw [h1,h2]
   exact ⟨rfl,rfl,h3⟩
theorem e_Level (s:Site)(hF:s.Fit)(hok:SiteOk s)(h0:siteErr s=0){b:Block}(hb:b∈s.blocks):L.call 66 [s.enc,.str b.name] []=some (.tup [int (lvlB s b),int 0],[]):=by
 have h1:=e_Find s hF hok h0 hb
 have h2:=e_level s hF b
 rw [(lvl_ok hok hb).1] at h2
 exact call_eq rfl rfl (by simp only [↓eA,eB,seval,c66,h1,h2])
end Tz.C18
set_option maxRecDepth 100000
open Gs Go
namespace Tz.C18
end Tz.C18
set_option maxRecDepth 100000
open Gs Go
namespace Tz.C18
theorem aw21:L.call 11 [] []=some (.bool true,[]):=Aw.aw_run
def longN (n:ByteArray):Bool:=decide (100 < (n.size:Int))
theorem lp_sm21 (nz:Bool)(o:List ByteArray)(ho:o.length < 1000000)(e:Env)(H:Heap)(h1:Gs.get e 1=strz nz o)(h5:Gs.get e 5=int 0) :
   Ends T 12004 e H (fun X e' H'=>match o.any longN with | true=>X = .ret∧Gs.get e' 4 = .bool false | false=>X = .ex 0):=by
 refine (loop_anyH (T:=T) (key:=12004) (li:=l12004.1) rfl o longN (fun i e H=>Gs.get e 1=strz nz o∧Gs.get e 5=int i)
   (fun X e' H'=>X = .ret∧Gs.get e' 4 = .bool false) (fun X e' H'=>X = .ex 0) ?_ ?_ e H ⟨h1,h5⟩).mono fun X e' H' h=>by cases hf:o.any longN<;>rw [hf] at h<;>exact h
 · rintro i n e H hx hi ⟨h1,h5⟩
   have hx':(o.map D.str)[i]?=some (.str n):=by simp [hx]
   cases hp:longN n<;>unfold longN at hp<;>simp only [↓eA,eB,seval,l12004,h1,h5,hi,hx',hp,wrap_succ (show i < 4611686018427387904 by omega)]<;>and_intros<;>first | trivial | rfl
 · rintro e H ⟨h1,h5⟩
   simp only [↓eA,eB,seval,l12004,h1,h5,Nat.lt_irrefl]
   and_intros<;>first | trivial | rfl
theorem small21 (s:Site)(nz:Bool)(o:List ByteArray):∃ v,L.call 12 [s.enc,strz nz o] []=some (.bool v,[])∧(v=true→s.Fit∧o.length≤260∧(s.blocks.length≤12∨256 < s.blocks.length)∧(o.length≤16∨256 < o.length)):=by
 obtain ⟨w,e1,hw⟩:=small18b s true []
 have e1':L.call 41 [s.enc,.fz true 1 []] []=some (.bool w,[]):=e1
 cases hg:(!w || (decide (16 < (o.length:Int)) && decide ((o.length:Int)≤256))) || decide (260 < (o.length:Int)) with
 | true=>exact ⟨false,call_eq rfl rfl (by simp only [↓eA,eB,seval,c12,e1',hg,List.length_map]),fun h=>by cases h⟩
 | false=>
 have hg':=hg
 simp only [Bool.or_eq_false_iff,Bool.and_eq_false_iff,decide_eq_false_iff_not,Bool.not_eq_false'] at hg'
 obtain ⟨⟨g1,g2⟩,g3⟩:=hg'
 obtain ⟨hF,_,hb⟩:=hw g1
 refine ⟨!o.any longN,call_eq rfl rfl ?_,fun _=>⟨hF,by omega,hb,by omega⟩⟩
 simp only [↓eA,eB,seval,c12,e1',hg,List.length_map]
 generalize hE:(lim T).loop 12004 _ _=R
 obtain ⟨X,e',H',rfl,hp⟩:=Ends.at hE (lp_sm21 nz o (by omega) _ _ (by simp only [↓eA,eB,seval]) (by simp only [↓eA,eB,seval]))
 cases ha:o.any longN with
 | true=>rw [ha] at hp; obtain ⟨rfl,g2⟩:=hp; simp only [↓eA,eB,seval,g2]
 | false=>rw [ha] at hp; subst hp; simp only [↓eA,eB,seval]
theorem chk_facts {s:Site}{o:List ByteArray}(h:chkErr s o=0):siteErr s=0∧o.length≤256∧o.any (unknown s)=false:=by
 unfold chkErr at h
 cases h1:decide (siteErr s=0) with
 | false=>rw [h1] at h; simp only [Bool.not_false,cond_true] at h; rw [h] at h1; simp at h1
 | true=>
 rw [h1] at h
 simp only [Bool.not_true,cond_false] at h
 cases h2:decide (256 < (o.length:Int)) with
 | true=>rw [h2] at h; simp at h
 | false=>
 rw [h2] at h
 simp only [cond_false] at h
 cases h3:o.any (unknown s) with
 | true=>rw [h3] at h; simp at h
 | false=>
 have:=of_decide_eq_false h2
 exact ⟨of_decide_eq_true h1,by omega,rfl⟩
end Tz.C18
