/- part S98; part S120; part S128; part S121; part S122; part S123; part S124; no conditions. -/
import Derived.Test.YtboigolndjinhaaGreatS92toS97
import Derived.Test.YtboigolndjinhaaGreatS0A
import Derived.Test.YtboigolndjinhaaGreatS87toS65
set_option linter.all false
set_option maxRecDepth 100000
open Gs Go
namespace Tz.C18
def hP (s:Site)(tk:List ByteArray)(x:Block):Bool:=!taken tk x && (restL [under x.box] (tkB s tk)).isEmpty
theorem small18b (s:Site)(nz:Bool)(tk:List ByteArray):∃ v,L.call 41 [s.enc,.fz nz 1 (tk.map .str)] []=some (.bool v,[])∧(v=true→s.Fit∧tk.length≤20∧(s.blocks.length≤12∨256 < s.blocks.length)):=by
 obtain ⟨w,e1,hw⟩:=small17 s
 refine ⟨(w && (decide ((s.blocks.length:Int)≤12) || decide (256 < (s.blocks.length:Int)))) && decide ((tk.length:Int)≤20),call_eq rfl rfl (by simp only [↓eA,eB,seval,c41,e1,List.length_map]),fun h=>?_⟩
 simp only [Bool.and_eq_true,Bool.or_eq_true,decide_eq_true_eq] at h
 exact ⟨hw h.1.1,by omega,by omega⟩
end Tz.C18
set_option maxRecDepth 100000
open Gs Go
namespace Tz.C18
theorem e_xfree (s:Site)(hF:s.Fit)(nz:Bool)(tk:List ByteArray)(ht:tk.length < 1000000)(nm:ByteArray):L.call 84 [s.enc,strz nz tk,.str nm] []=some (.bool (freeN s tk nm),[]):=by
 unfold freeN
 cases hs:decide (startErr s tk=0) with
 | false=>
   have h1:=e_Why_bad s hF nz tk ht nm hs
   generalize startErr s tk=er at hs h1
   exact call_eq rfl rfl (by simp only [↓eA,eB,seval,c84,h1,hs])
 | true=>
   have hs0:=of_decide_eq_true hs
   cases hn:s.blocks.find? (called nm) with
   | none=>
     have h1:=e_Why_no s hF nz tk ht nm hs0 hn
     exact call_eq rfl rfl (by simp only [↓eA,eB,seval,c84,h1])
   | some b=>
     have h1:=e_Why_ok s hF nz tk ht nm hs0 b hn
     exact call_eq rfl rfl (by simp only [↓eA,eB,seval,c84,h1]; rfl)
abbrev namesB (l:List Block):List ByteArray:=l.map (·.name)
theorem names_new {bs:List Block}(h:Sorted bs){i:Nat}{b:Block}(hb:bs[i]?=some b):(namesB (bs.take i)).any (seq b.name)=false:=by
 refine List.any_eq_false.2 fun n hn he=>?_
 obtain ⟨c,hc,rfl⟩:=List.mem_map.1 hn
 have hi:=(List.getElem?_eq_some_iff.1 hb).1
 have hsp:bs=bs.take i ++ bs.drop i:=(List.take_append_drop i bs).symm
 have hbd:b∈bs.drop i:=by
   have:bs.drop i=b :: bs.drop (i + 1):=by
     rw [←List.getElem_cons_drop hi]; congr 1; exact (List.getElem?_eq_some_iff.1 hb).2
   rw [this]; exact List.mem_cons_self
 rw [hsp] at h
 have:=(List.pairwise_append.1 h).2.2 c hc b hbd
 rw [seq_iff.1 he,slt_irrefl] at this
 cases this
theorem lp_xblocks (s:Site)(hF:s.Fit)(hsr:Sorted s.blocks)(e:Env)(H:Heap)(h3:Gs.get e 3 = .mp 9)(h11:Gs.get e 11=blks s.blocks)(h12:Gs.get e 12=int s.blocks.length)(h13:Gs.get e 13=int 0)(hH:hget H 9=some (.mapB [] false)) :
   Ends T 52003 e H (fun X e' H'=>X = .ex 0∧Gs.get e' 3 = .mp 9∧H'=[(9,.mapB (entT (namesB s.blocks)) false)]):=by
 have hbl:=hF.bl
 refine (loop_fold (T:=T) (key:=52003) (li:=l52003.1) rfl s.blocks (fun (a:Nat) (_:Block)=>a + 1)
   (fun i a e H=>Gs.get e 3 = .mp 9∧Gs.get e 11=blks s.blocks∧Gs.get e 12=int s.blocks.length∧Gs.get e 13=int i∧hget H 9=some (.mapB (entT (namesB (s.blocks.take i))) false)∧a=i)
   (fun a X e' H'=>X = .ex 0∧Gs.get e' 3 = .mp 9∧H'=[(9,.mapB (entT (namesB s.blocks)) false)]) ?_ ?_ 0 e H ⟨h3,h11,h12,h13,hH,rfl⟩).mono fun X e' H' h=>h
 · rintro i b a e H hx hi ⟨h3,h11,h12,h13,hH,rfl⟩
   have hx':(s.blocks.map Block.enc)[a]?=some b.enc:=by simp [hx]
   have hp:=mput_entT b.name (namesB (s.blocks.take a)) (names_new hsr hx)
   simp only [↓eA,eB,seval,l52003,h3,h11,h12,h13,hH,hi,hx',hp,List.length_map,wrap_succ (show a < 4611686018427387904 by omega)]
   refine ⟨trivial,trivial,trivial,trivial,trivial,?_,trivial⟩
   rw [List.take_add_one,hx]; simp
 · rintro a e H ⟨h3,h11,h12,h13,hH,ha⟩
   rw [List.take_length] at hH
   simp only [↓eA,eB,seval,l52003,h3,h11,h12,h13,hH,Nat.lt_irrefl]
   and_intros<;>first | trivial | rfl
theorem e_xblocks (s:Site)(hF:s.Fit)(hsr:Sorted s.blocks):L.call 52 [s.enc] []=some (.mp 600000,[(600000,.mapB (entT (namesB s.blocks)) false)]):=
 call_eq rfl rfl (by
   simp only [↓eA,eB,seval,c52,List.length_map]
   generalize hE:(lim T).loop 52003 _ _=R
   obtain ⟨X,e',H',rfl,rfl,g3,rfl⟩:=Ends.at hE (lp_xblocks s hF hsr _ _ (by simp only [↓eA,eB,seval]) (by simp only [↓eA,eB,seval]) (by simp only [↓eA,eB,seval]) (by simp only [↓eA,eB,seval]) rfl)
   simp only [↓eA,eB,seval,g3])
theorem e_xchk1 (ns:List ByteArray)(n:ByteArray):L.call 103 [.str n,.fp [.fm (entT ns)] 0] []=some (.bool (!ns.any (seq n)),[]):=by
 have hm:=mfind_entT n ns
 cases h:ns.any (seq n)<;>rw [h] at hm<;>exact call_eq rfl rfl (by simp only [↓eA,eB,seval,c103,hm])
def chkErr (s:Site)(order:List ByteArray):Int:=bif !decide (siteErr s=0) then siteErr s else bif decide (256 < (order.length:Int)) then 7 else bif order.any (unknown s) then 3 else 0
theorem unknown_names (s:Site)(n:ByteArray):unknown s n = !(namesB s.blocks).any (seq n):=by
 unfold unknown namesB
 rw [List.any_map]
 congr 1
 exact any_congr fun b _=>seq_comm _ _
theorem e_xcheck (s:Site)(hF:s.Fit)(nz:Bool)(order:List ByteArray)(ho:order.length < 1000000):L.call 51 [s.enc,strz nz order] []=some (int (chkErr s order),[]):=by
 have h1:=e_siteCheck s hF
 unfold chkErr
 cases hs:decide (siteErr s=0) with
 | false=>exact call_eq rfl rfl (by simp only [↓eA,eB,seval,c51,h1,hs])
 | true=>
 cases hl:decide (256 < (order.length:Int)) with
 | true=>exact call_eq rfl rfl (by simp only [↓eA,eB,seval,c51,h1,hs,hl,List.length_map])
 | false=>
 have hok:=site_ok (of_decide_eq_true hs)
 have h2:=e_xblocks s hF (sorted_of hok.srt)
 have h3:=e_con_str (fun n=>!(namesB s.blocks).any (seq n)) 103 [.fp [.fm (entT (namesB s.blocks))] 0] nz order (by omega) (by
   have:∀ l:List ByteArray,closedL (entT l)=true:=by
     intro l
     induction l with
     | nil=>rfl
     | cons n r ih=>unfold entT; simp only [closedL,closed,ih]; rfl
   simp only [closedL,closed,this]; rfl) (fun n _=>e_xchk1 _ n)
 rw [show order.any (unknown s)=order.any (fun n=>!(namesB s.blocks).any (seq n)) from any_congr fun n _=>unknown_names s n]
 cases hu:order.any (fun n=>!(namesB s.blocks).any (seq n))<;>rw [hu] at h3<;>exact call_eq rfl rfl (by simp only [↓eA,eB,seval,c51,h1,hs,hl,h2,h3,List.length_map])
theorem lp_xfirst (s:Site)(hF:s.Fit)(nz:Bool)(o:List ByteArray)(ho:o.length < 1000000)(e:Env)(H:Heap)(h1:Gs.get e 1=strz nz o)(h2:Gs.get e 2 = .ptr 2 0)(h7:Gs.get e 7=strz nz o)(h8:Gs.get e 8=int o.length)(h9:Gs.get e 9=int 0)(hH:hget H 2=some (.box s.cells false)) :
   Ends T 57002 e H (fun X e' H'=>(X = .ret∧Gs.get e' 4=int (firstF s [] o))∨(X = .ex 0∧Gs.get e' 1=strz nz o∧firstF s [] o=o.length)):=by
 refine (loop_thru (T:=T) (key:=57002) (li:=l57002.1) rfl (fun (t:List ByteArray) (n:ByteArray)=>bif freeN s t n then .inr (t ++ [n]) else .inl t.length) o
   (fun i t e H=>Gs.get e 1=strz nz o∧Gs.get e 2 = .ptr 2 0∧Gs.get e 7=strz nz o∧Gs.get e 8=int o.length∧Gs.get e 9=int i∧hget H 2=some (.box s.cells false)∧t=o.take i)
   (fun (r:Nat) X e' H'=>X = .ret∧Gs.get e' 4=int r) (fun t X e' H'=>X = .ex 0∧Gs.get e' 1=strz nz o) ?_ ?_ ?_ o [] [] e H rfl ⟨h1,h2,h7,h8,h9,hH,rfl⟩).mono fun X e' H' h=>?_
 · rintro i n t t' e H hx ⟨h1,h2,h7,h8,h9,hH,rfl⟩ hf
   have hi:=(List.getElem?_eq_some_iff.1 hx).1
   have hx':(o.map D.str)[i]?=some (.str n):=by simp [hx]
   have hfr:freeN s (o.take i) n=true:=by cases hb:freeN s (o.take i) n<;>simp_all
   have hq:=fun nz=>e_xfree s hF nz (o.take i) (by simp; omega) n
   rw [hfr] at hf hq
   have hinc:inc 0 i=true:=by simp [inc]
   have hle:decide (i≤o.length)=true:=decide_eq_true (by omega)
   injection hf with hf
   simp only [↓eA,eB,seval,l57002,h1,h2,h7,h8,h9,hH,hi,hx',hq,cut_str,hinc,hle,Nat.sub_zero,List.length_map,wrap_succ (show i < 4611686018427387904 by omega)]
   refine ⟨trivial,trivial,trivial,trivial,trivial,trivial,trivial,?_⟩
   rw [←hf,List.take_add_one,hx]; rfl
 · rintro i n t r e H hx ⟨h1,h2,h7,h8,h9,hH,rfl⟩ hf
   have hi:=(List.getElem?_eq_some_iff.1 hx).1
   have hx':(o.map D.str)[i]?=some (.str n):=by simp [hx]
   have hfr:freeN s (o.take i) n=false:=by cases hb:freeN s (o.take i) n<;>simp_all
   have hq:=fun nz=>e_xfree s hF nz (o.take i) (by simp; omega) n
   rw [hfr] at hf hq
   have hinc:inc 0 i=true:=by simp [inc]
   have hle:decide (i≤o.length)=true:=decide_eq_true (by omega)
   injection hf with hf
   have hr:r=i:=by rw [←hf]; simp; omega
   subst hr
   simp only [↓eA,eB,seval,l57002,h1,h2,h7,h8,h9,hH,hi,hx',hq,cut_str,hinc,hle,Nat.sub_zero,List.length_map]
   and_intros<;>first | trivial | rfl
 · rintro t e H ⟨h1,h2,h7,h8,h9,hH,ht⟩
   simp only [↓eA,eB,seval,l57002,h1,h2,h7,h8,h9,hH,Nat.lt_irrefl]
   and_intros<;>first | trivial | rfl
 · have key:∀ (r t:List ByteArray),(match thru (R:=Nat) (fun (t:List ByteArray) (n:ByteArray)=>bif freeN s t n then .inr (t ++ [n]) else .inl t.length) r t with | .inl k=>firstF s t r=k | .inr _=>firstF s t r=t.length + r.length):=by
     intro r
     induction r with
     | nil=>intro t; simp [thru,firstF]
     | cons n r ih=>
       intro t
       unfold firstF thru
       cases hfr:freeN s t n with
       | false=>simp
       | true=>
         have:=ih (t ++ [n])
         simp only [cond_true]
         cases hr:thru (R:=Nat) (fun (t:List ByteArray) (n:ByteArray)=>bif freeN s t n then .inr (t ++ [n]) else .inl t.length) r (t ++ [n]) with
         | inl k=>rw [hr] at this; exact this
         | inr u=>rw [hr] at this; simp only at this ⊢; rw [this]; simp; omega
   have hk:=key o []
   cases hr:thru (R:=Nat) (fun (t:List ByteArray) (n:ByteArray)=>bif freeN s t n then .inr (t ++ [n]) else .inl t.length) o [] with
   | inl k=>rw [hr] at h hk; exact .inl ⟨h.1,by rw [hk]; exact h.2⟩
   | inr u=>rw [hr] at h hk; exact .inr ⟨h.1,h.2,by simpa using hk⟩
theorem e_xfirst (s:Site)(hF:s.Fit)(nz:Bool)(o:List ByteArray)(ho:o.length < 1000000):L.call 57 [s.enc,strz nz o] []=some (int (firstF s [] o),[]):=
 call_eq rfl rfl (by
   simp only [↓eA,eB,seval,c57,List.length_map]
   generalize hE:(lim T).loop 57002 _ _=R
   obtain ⟨X,e',H',rfl,hp⟩:=Ends.at hE (lp_xfirst s hF nz o ho _ _ (by simp only [↓eA,eB,seval]) (by simp only [↓eA,eB,seval]) (by simp only [↓eA,eB,seval]) (by simp only [↓eA,eB,seval]) (by simp only [↓eA,eB,seval]) rfl)
   rcases hp with ⟨rfl,g4⟩ | ⟨rfl,g1,g2⟩
   · simp only [↓eA,eB,seval,g4]
   · rw [g2]; simp only [↓eA,eB,seval,g1,List.length_map])
theorem e_xpossible (s:Site)(hF:s.Fit)(nz:Bool)(o:List ByteArray)(ho:o.length < 1000000):L.call 65 [s.enc,strz nz o] []=some (.bool (possO s [] o),[]):=by
 have h1:=e_xfirst s hF nz o ho
 have h2:=first_poss s o []
 rw [List.length_nil,Nat.zero_add] at h2
 rw [←h2]
 have h3:decide ((firstF s [] o:Int)=(o.length:Int))=decide (firstF s [] o=o.length):=by
   by_cases h:firstF s [] o=o.length
   · rw [h]; simp
   · rw [decide_eq_false h,decide_eq_false (by omega)]
 exact call_eq rfl rfl (by simp only [↓eA,eB,seval,c65,h1,h3,List.length_map])
theorem e_xCheck (s:Site)(hF:s.Fit)(nz:Bool)(o:List ByteArray)(ho:o.length < 1000000):L.call 23 [s.enc,strz nz o] []=some (.tup [int (bif decide (chkErr s o=0) then (firstF s [] o:Int) else 0),int (chkErr s o)],[]):=by
 have h1:=e_xcheck s hF nz o ho
 cases hs:decide (chkErr s o=0) with
 | false=>
   generalize chkErr s o=er at hs h1
   exact call_eq rfl rfl (by simp only [↓eA,eB,seval,c23,h1,hs])
 | true=>
   have h2:=e_xfirst s hF nz o ho
   rw [of_decide_eq_true hs] at h1
   rw [of_decide_eq_true hs]
   exact call_eq rfl rfl (by simp only [↓eA,eB,seval,c23,h1,h2])
end Tz.C18
set_option maxRecDepth 100000
open Gs Go
namespace Tz.C18
end Tz.C18
set_option maxRecDepth 100000
open Gs Go
namespace Tz.C18
def delF (n:ByteArray):List ByteArray→List ByteArray
 | []=>[]
 | x :: r=>bif seq n x then r else x :: delF n r
theorem mdel_entT (n:ByteArray):∀ l,mdel (.str n) (entT l)=some (entT (delF n l))
 | []=>rfl
 | x :: r=>by
   simp only [entT,mdel,keyEq,delF]
   cases h:seq n x with
   | true=>rfl
   | false=>rw [mdel_entT n r]; rfl
abbrev standN (s:Site)(tk:List ByteArray):List ByteArray:=namesB (s.blocks.filter fun b=>!taken tk b)
theorem filter_same {α:Type}{p q:α→Bool}{l:List α}(h:∀ x∈l,p x=q x):l.filter p=l.filter q:=List.filter_congr h
theorem del_stand {tk:List ByteArray}{b:Block}(hb:taken tk b=false):∀ {l:List Block},Sorted l→delF b.name (namesB (l.filter fun x=>!taken tk x))=namesB (l.filter fun x=>!taken (tk ++ [b.name]) x)
 | [],_=>rfl
 | x :: r,h=>by
   obtain ⟨h1,h2⟩:=List.pairwise_cons.1 h
   have ih:=del_stand hb h2
   rw [List.filter_cons,List.filter_cons,taken_snoc]
   cases ht:taken tk x with
   | true=>simp only [Bool.not_true,Bool.true_or,Bool.false_eq_true,if_false]; exact ih
   | false=>
     cases hs:seq x.name b.name with
     | true=>
       simp only [Bool.not_false,Bool.false_or,Bool.not_true,Bool.false_eq_true,if_false,if_true,List.map_cons,delF]
       rw [seq_comm,hs,cond_true]
       congr 1
       refine filter_same fun y hy=>?_
       have hlt:=h1 y hy
       have:seq y.name b.name=false:=by
         rw [←seq_iff.1 hs]
         cases he:seq y.name x.name with
         | false=>rfl
         | true=>rw [seq_iff.1 he,slt_irrefl] at hlt; cases hlt
       rw [taken_snoc,this,Bool.or_false]
     | false=>
       simp only [Bool.not_false,Bool.false_or,if_true,List.map_cons,delF]
       rw [seq_comm,hs,cond_false,ih]
theorem stand_any {s:Site}(hsr:Sorted s.blocks)(tk:List ByteArray){b:Block}(hb:b∈s.blocks):(standN s tk).any (seq b.name) = !taken tk b:=by
 rw [Bool.eq_iff_iff,List.any_eq_true]
 constructor
 · rintro ⟨n,hn,he⟩
   obtain ⟨c,hc,rfl⟩:=List.mem_map.1 hn
   obtain ⟨h1,h2⟩:=List.mem_filter.1 hc
   rw [sorted_inj hsr hb h1 (seq_iff.1 he)]; exact h2
 · intro h
   exact ⟨b.name,List.mem_map.2 ⟨b,List.mem_filter.2 ⟨hb,h⟩,rfl⟩,seq_refl _⟩
theorem e_xgr1 (s:Site)(hF:s.Fit)(nz:Bool)(tk:List ByteArray)(ht:tk.length < 1000000)(ns:List ByteArray)(b:Block) :
   L.call 83 [b.enc,.fp [.fm (entT ns)] 0,.fp s.cells 0,.fp [strz nz tk] 0] []=some (.bool (ns.any (seq b.name) && freeN s tk b.name),[]):=by
 have hm:=mfind_entT b.name ns
 have hf:=e_xfree s hF nz tk ht b.name
 cases h:ns.any (seq b.name)<;>rw [h] at hm
 · exact call_eq rfl rfl (by simp only [↓eA,eB,seval,c83,hm])
 · cases hq:freeN s tk b.name<;>rw [hq] at hf<;>exact call_eq rfl rfl (by simp only [↓eA,eB,seval,c83,hm,hf])
theorem closed_entT:∀ l:List ByteArray,closedL (entT l)=true
 | []=>rfl
 | n :: r=>by unfold entT; simp only [closedL,closed,closed_entT r]; rfl
theorem closed_strs:∀ l:List ByteArray,closedL (l.map D.str)=true
 | []=>rfl
 | n :: r=>by rw [List.map_cons]; simp only [closedL,closed,closed_strs r]; rfl
theorem free_possible {s:Site}(hok:SiteOk s){tk:List ByteArray}(hst:startErr s tk=0){b:Block}(hb:b∈s.blocks):((standN s tk).any (seq b.name) && freeN s tk b.name)=possible s tk b:=by
 rw [stand_any (sorted_of hok.srt) tk hb]
 have hf:freeN s tk b.name=possible s tk b:=by
   unfold freeN
   rw [decide_eq_true hst,sorted_find (sorted_of hok.srt) hb]; rfl
 rw [hf]
 cases hp:possible s tk b with
 | false=>simp
 | true=>rw [(possible_facts hp).1]; rfl
abbrev NG (s:Site)(tk:List ByteArray)(H:Heap):Prop:=hget H 1=some (.box s.cells false)∧hget H 3=some (.box [.mp 10140] false)∧hget H 10140=some (.mapB (entT (standN s tk)) false)∧
 ((tk=[]∧hget H 4=some (.box [.fz true 1 []] false)∧hget H 1023=none)∨(hget H 4=some (.box [.ow 1023] false)∧∃ p,hget H 1023=some (.row true 1 (tk.map .str) p true)))
abbrev EG (e:Env):Prop:=Gs.get e 1 = .ptr 1 0∧Gs.get e 3 = .ptr 3 0∧Gs.get e 4 = .ptr 4 0
theorem step_great {s:Site}(hok:SiteOk s)(hF:s.Fit){tk:List ByteArray}(hI:Inv s tk)(ht:tk.length < 1000000){b:Block}(hf:s.blocks.find? (possible s tk)=some b)(e:Env)(H:Heap)(hE:EG e)(hH:NG s tk H) :
   Good (round (lim T) l44003 e H) fun X e' H'=>isNor X=true∧EG e'∧NG s (tk ++ [b.name]) H':=by
 have hbl:=hF.bl
 have hb:=List.mem_of_find?_eq_some hf
 have hp:possible s tk b=true:=List.find?_some hf
 obtain ⟨j,hj,hbj⟩:=find_idx _ hf
 have hx:idxOf (possible s tk) s.blocks=(j:Int):=by unfold idxOf; rw [hj]
 have hi:=(List.getElem?_eq_some_iff.1 hbj).1
 have hx':(s.blocks.map Block.enc)[j]?=some b.enc:=by simp [hbj]
 have hneg:decide ((j:Int) < 0)=false:=decide_eq_false (by omega)
 have hdel:=mdel_entT b.name (standN s tk)
 rw [del_stand (possible_facts hp).1 (sorted_of hok.srt)] at hdel
 have hidx:=fun nz=>e_idx_block (possible s tk) 83 [.fp [.fm (entT (standN s tk))] 0,.fp s.cells 0,.fp [strz nz tk] 0] false s.blocks (by omega) (by
   simp only [closedL,closed,closed_entT,closed_strs,Site.cells]
   rfl) (fun x hx=>by rw [←free_possible hok hI.st hx]; exact e_xgr1 s hF nz tk ht _ x)
 rw [hx] at hidx
 obtain ⟨h1,h3,h4⟩:=hE
 obtain ⟨n1,n3,nm,hc⟩:=hH
 rcases hc with ⟨rfl,n4,n5⟩ | ⟨n4,p,n5⟩
 · have hidx0:L.call 82 [blks s.blocks,.fn 83 [.fp [.fm (entT (standN s []))] 0,.fp s.cells 0,.fp [.fz true 1 []] 0]] []=some (int j,[]):=hidx true
   have hfit:fits 1 16=true:=rfl
   simp only [↓eA,eB,seval,l44003,h1,h3,h4,n1,n3,n4,n5,nm,hi,hx',hidx0,hneg,hdel,hfit,List.length_map]
   exact ⟨trivial,⟨rfl,rfl,rfl⟩,rfl,rfl,rfl,.inr ⟨rfl,_,rfl⟩⟩
 · have hfit:fits (tk.length + 1) 16=true:=fits_of (by omega)
   have hmap:tk.map D.str ++ [D.str b.name]=(tk ++ [b.name]).map D.str:=by simp
   simp only [↓eA,eB,seval,l44003,h1,h3,h4,n1,n3,n4,n5,nm,hi,hx',hidx,hneg,hdel,hfit,hmap,List.length_map]
   exact ⟨trivial,⟨rfl,rfl,rfl⟩,rfl,rfl,rfl,.inr ⟨rfl,_,rfl⟩⟩
theorem end_great {s:Site}(hok:SiteOk s)(hF:s.Fit){tk:List ByteArray}(hI:Inv s tk)(ht:tk.length < 1000000)(hf:s.blocks.find? (possible s tk)=none)(e:Env)(H:Heap)(hE:EG e)(hH:NG s tk H) :
   Good (round (lim T) l44003 e H) fun X e' H'=>isNor X=false∧X = .ret∧Gs.get e' 2 = .fz true 1 (tk.map .str):=by
 have hbl:=hF.bl
 have hx:idxOf (possible s tk) s.blocks = -1:=by
   rcases find_idx' (possible s tk) s.blocks with ⟨_,g⟩ | ⟨a,j,g,_,_⟩
   · unfold idxOf; rw [g]
   · rw [hf] at g; cases g
 have hidx:=fun nz=>e_idx_block (possible s tk) 83 [.fp [.fm (entT (standN s tk))] 0,.fp s.cells 0,.fp [strz nz tk] 0] false s.blocks (by omega) (by
   simp only [closedL,closed,closed_entT,closed_strs,Site.cells]
   rfl) (fun x hx=>by rw [←free_possible hok hI.st hx]; exact e_xgr1 s hF nz tk ht _ x)
 rw [hx] at hidx
 obtain ⟨h1,h3,h4⟩:=hE
 obtain ⟨n1,n3,nm,hc⟩:=hH
 rcases hc with ⟨rfl,n4,n5⟩ | ⟨n4,p,n5⟩
 · have hidx0:L.call 82 [blks s.blocks,.fn 83 [.fp [.fm (entT (standN s []))] 0,.fp s.cells 0,.fp [.fz true 1 []] 0]] []=some (int (-1),[]):=hidx true
   simp only [↓eA,eB,seval,l44003,h1,h3,h4,n1,n3,n4,n5,nm,hidx0]
   exact ⟨trivial,trivial,rfl⟩
 · simp only [↓eA,eB,seval,l44003,h1,h3,h4,n1,n3,n4,n5,nm,hidx]
   exact ⟨trivial,trivial,trivial⟩
theorem lp_great {s:Site}(hs:siteErr s=0)(hF:s.Fit):∀ (k:Nat) (tk:List ByteArray),Inv s tk→leftN s tk≤k→tk.length + k < 1000000→∀ (e:Env) (H:Heap),EG e→NG s tk H→
   Ends T 44003 e H (fun X e' H'=>X = .ret∧Gs.get e' 2 = .fz true 1 ((greatF s k tk).map .str))
 | 0,tk,hI,hl,hk,e,H,hE,hH=>by
   have hok:=site_ok hs
   have hf:s.blocks.find? (possible s tk)=none:=List.find?_eq_none.2 fun b hb hp=>by have:=left_step hb hp; omega
   exact round_ends rfl (end_great hok hF hI (by omega) hf e H hE hH)
 | k + 1,tk,hI,hl,hk,e,H,hE,hH=>by
   have hok:=site_ok hs
   unfold greatF
   cases hf:s.blocks.find? (possible s tk) with
   | none=>exact round_ends rfl (end_great hok hF hI (by omega) hf e H hE hH)
   | some b=>
     have hb:=List.mem_of_find?_eq_some hf
     have hp:possible s tk b=true:=List.find?_some hf
     have:=left_step hb hp
     exact round_goes rfl (step_great hok hF hI (by omega) hf e H hE hH) fun e' H' ⟨g1,g2⟩=>lp_great hs hF k (tk ++ [b.name]) (inv_step hI hb hp) (by omega) (by simp; omega) e' H' g1 g2
theorem e_xgreatest {s:Site}(hs:siteErr s=0)(hF:s.Fit):L.call 44 [s.enc] []=some (.fz true 1 ((great s).map .str),[]):=by
 have hok:=site_ok hs
 have hbl:=hF.bl
 have hst:startErr s []=0:=start_of hs List.nodup_nil (by simp)
 have h1:=e_xblocks s hF (sorted_of hok.srt)
 have hsn:namesB s.blocks=standN s []:=by
   unfold standN
   congr 1
   exact (List.filter_eq_self.2 fun b _=>rfl).symm
 rw [hsn] at h1
 exact call_eq rfl rfl (by
   simp only [↓eA,eB,seval,c44,h1]
   generalize hE:(lim T).loop 44003 _ _=R
   obtain ⟨X,e',H',rfl,rfl,g2⟩:=Ends.at hE (lp_great hs hF s.blocks.length [] (inv_nil hst) (List.length_filter_le _ _) (by simp; omega) _ _ ⟨by simp only [↓eA,eB,seval],by simp only [↓eA,eB,seval],by simp only [↓eA,eB,seval]⟩ ⟨rfl,rfl,rfl,.inl ⟨rfl,rfl,rfl⟩⟩)
   simp only [↓eA,eB,seval,g2]
   rfl)
theorem e_xGreatest (s:Site)(hF:s.Fit):L.call 22 [s.enc] []=some (.tup [.fz true 1 ((bif decide (siteErr s=0) then great s else []).map .str),int (siteErr s)],[]):=by
 have h1:=e_siteCheck s hF
 cases hs:decide (siteErr s=0) with
 | false=>
   generalize siteErr s=er at hs h1
   exact call_eq rfl rfl (by simp only [↓eA,eB,seval,c22,h1,hs]<;>rfl)
 | true=>
   have h2:=e_xgreatest (of_decide_eq_true hs) hF
   rw [of_decide_eq_true hs] at h1 ⊢
   exact call_eq rfl rfl (by simp only [↓eA,eB,seval,c22,h1,h2])
end Tz.C18
set_option maxRecDepth 100000
open Gs Go
namespace Tz.C18
theorem aw21:L.call 11 [] []=some (.bool true,[]):=Aw.aw_run
def longN (n:ByteArray):Bool:=decide (100 < (n.size:Int))
theorem lp_sm21 (nz:Bool)(o:List ByteArray)(ho:o.length < 1000000)(e:Env)(H:Heap)(h1:Gs.get e 1=strz nz o)(h5:Gs.get e 5=int 0) :
   Ends T 12004 e H (fun X e' H'=>match o.any longN with | true=>X = .ret∧Gs.get e' 4 = .bool false | false=>X = .ex 0):=by
 refine (loop_anyH (T:=T) (key:=12004) (li:=l12004.1) rfl o longN (fun i e H=>Gs.get e 1=strz nz o∧Gs.get e 5=int i)
   (fun X e' H'=>X = .ret∧Gs.get e' 4 = .bool false) (fun X e' H'=>X = .ex 0) ?_ ?_ e H ⟨h1,h5⟩).mono fun X e' H' h=>by cases hf:o.any longN<;>rw [hf] at h<;>exact h
 · rintro i n e H hx hi ⟨h1,h5⟩
   have hx':(o.map D.str)[i]?=some (.str n):=by simp [hx]
   cases hp:longN n<;>unfold longN at hp<;>simp only [↓eA,eB,seval,l12004,h1,h5,hi,hx',hp,wrap_succ (show i < 4611686018427387904 by omega)]<;>and_intros<;>first | trivial | rfl
 · rintro e H ⟨h1,h5⟩
   simp only [↓eA,eB,seval,l12004,h1,h5,Nat.lt_irrefl]
   and_intros<;>first | trivial | rfl
theorem small21 (s:Site)(nz:Bool)(o:List ByteArray):∃ v,L.call 12 [s.enc,strz nz o] []=some (.bool v,[])∧(v=true→s.Fit∧o.length≤260∧(s.blocks.length≤12∨256 < s.blocks.length)∧(o.length≤16∨256 < o.length)):=by
 obtain ⟨w,e1,hw⟩:=small18b s true []
 have e1':L.call 41 [s.enc,.fz true 1 []] []=some (.bool w,[]):=e1
 cases hg:(!w || (decide (16 < (o.length:Int)) && decide ((o.length:Int)≤256))) || decide (260 < (o.length:Int)) with
 | true=>exact ⟨false,call_eq rfl rfl (by simp only [↓eA,eB,seval,c12,e1',hg,List.length_map]),fun h=>by cases h⟩
 | false=>
 have hg':=hg
 simp only [Bool.or_eq_false_iff,Bool.and_eq_false_iff,decide_eq_false_iff_not,Bool.not_eq_false'] at hg'
 obtain ⟨⟨g1,g2⟩,g3⟩:=hg'
 obtain ⟨hF,_,hb⟩:=hw g1
 refine ⟨!o.any longN,call_eq rfl rfl ?_,fun _=>⟨hF,by omega,hb,by omega⟩⟩
 simp only [↓eA,eB,seval,c12,e1',hg,List.length_map]
 generalize hE:(lim T).loop 12004 _ _=R
 obtain ⟨X,e',H',rfl,hp⟩:=Ends.at hE (lp_sm21 nz o (by omega) _ _ (by simp only [↓eA,eB,seval]) (by simp only [↓eA,eB,seval]))
 cases ha:o.any longN with
 | true=>rw [ha] at hp; obtain ⟨rfl,g2⟩:=hp; simp only [↓eA,eB,seval,g2]
 | false=>rw [ha] at hp; subst hp; simp only [↓eA,eB,seval]
theorem known_len {s:Site}{tk:List ByteArray}(h:startErr s tk=0):tk.length≤s.blocks.length:=by
 have:=nodup_le (start_nodup h) (m:=namesB s.blocks) fun n hn=>by
   obtain ⟨b,hb,rfl⟩:=start_known h n hn
   exact List.mem_map.2 ⟨b,hb,rfl⟩
 simpa using this
theorem chk_ok {s:Site}(hs:siteErr s=0){tk:List ByteArray}(h:startErr s tk=0):chkErr s tk=0:=by
 have hl:=known_len h
 have hm:=(site_ok hs).many
 simp only [cMany,Bool.or_eq_false_iff,decide_eq_false_iff_not] at hm
 unfold chkErr
 rw [decide_eq_true hs,(start_ok h).2.1,decide_eq_false (by omega)]; rfl
theorem chk_facts {s:Site}{o:List ByteArray}(h:chkErr s o=0):siteErr s=0∧o.length≤256∧o.any (unknown s)=false:=by
 unfold chkErr at h
 cases h1:decide (siteErr s=0) with
 | false=>rw [h1] at h; simp only [Bool.not_false,cond_true] at h; rw [h] at h1; simp at h1
 | true=>
 rw [h1] at h
 simp only [Bool.not_true,cond_false] at h
 cases h2:decide (256 < (o.length:Int)) with
 | true=>rw [h2] at h; simp at h
 | false=>
 rw [h2] at h
 simp only [cond_false] at h
 cases h3:o.any (unknown s) with
 | true=>rw [h3] at h; simp at h
 | false=>
 have:=of_decide_eq_false h2
 exact ⟨of_decide_eq_true h1,by omega,rfl⟩
end Tz.C18
set_option maxRecDepth 100000
open Gs Go
namespace Tz.C18
theorem lp_sidx (nz:Bool)(l:List ByteArray)(hl:l.length < 1000000)(n:ByteArray)(e:Env)(H:Heap)(h0:Gs.get e 0=strz nz l)(h1:Gs.get e 1 = .str n)(h7:Gs.get e 7=int l.length)(h8:Gs.get e 8=int 0)(hH:H=[]) :
   Ends T 62002 e H (fun X e' H'=>match l.findIdx? (seq n) with | some j=>X = .ret∧Gs.get e' 4=int j | none=>X = .ex 0):=by
 refine (loop_thru (T:=T) (key:=62002) (li:=l62002.1) rfl (fun (i:Nat) x=>bif seq n x then .inl i else .inr (i + 1)) l
   (fun i t e H=>t=i∧Gs.get e 0=strz nz l∧Gs.get e 1 = .str n∧Gs.get e 7=int l.length∧Gs.get e 8=int i∧H=[])
   (fun i X e' H'=>X = .ret∧Gs.get e' 4=int i) (fun _ X e' H'=>X = .ex 0) ?_ ?_ ?_ l [] 0 e H rfl ⟨rfl,h0,h1,h7,h8,hH⟩).mono fun X e' H' h=>?_
 · rintro i x t t' e H hx ⟨rfl,h0,h1,h7,h8,rfl⟩ hf
   have hi:=(List.getElem?_eq_some_iff.1 hx).1
   have hx':(l.map D.str)[t]?=some (.str x):=by simp [hx]
   have hn:seq n x=false:=by cases hb:seq n x<;>simp_all
   rw [hn] at hf
   injection hf with hf; subst hf
   simp only [↓eA,eB,seval,l62002,h0,h1,h7,h8,hi,hx',hn,List.length_map,wrap_succ (show t < 4611686018427387904 by omega)]
   and_intros<;>first | trivial | rfl
 · rintro i x t r e H hx ⟨rfl,h0,h1,h7,h8,rfl⟩ hf
   have hi:=(List.getElem?_eq_some_iff.1 hx).1
   have hx':(l.map D.str)[t]?=some (.str x):=by simp [hx]
   have hn:seq n x=true:=by cases hb:seq n x<;>simp_all
   rw [hn] at hf
   injection hf with hf; subst hf
   simp only [↓eA,eB,seval,l62002,h0,h1,h7,h8,hi,hx',hn,List.length_map]
   and_intros<;>first | trivial | rfl
 · rintro t e H ⟨rfl,h0,h1,h7,h8,rfl⟩
   simp only [↓eA,eB,seval,l62002,h0,h1,h7,h8,Nat.lt_irrefl]
   and_intros<;>first | trivial | rfl
 · rw [thru_idx] at h
   cases hd:l.findIdx? (seq n)<;>rw [hd] at h
   · exact h
   · simpa using h
theorem e_sidx (nz:Bool)(l:List ByteArray)(hl:l.length < 1000000)(n:ByteArray):L.call 62 [strz nz l,.str n] []=some (int (idxOf (seq n) l),[]):=
 call_eq rfl rfl (by
   simp only [↓eA,eB,seval,c62,List.length_map]
   generalize hE:(lim T).loop 62002 _ _=R
   obtain ⟨X,e',H',rfl,hp⟩:=Ends.at hE (lp_sidx nz l hl n _ _ (by simp only [↓eA,eB,seval]) (by simp only [↓eA,eB,seval]) (by simp only [↓eA,eB,seval]) (by simp only [↓eA,eB,seval]) rfl)
   unfold idxOf
   cases hf:l.findIdx? (seq n) with
   | some j=>rw [hf] at hp; obtain ⟨rfl,g4⟩:=hp; simp only [↓eA,eB,seval,g4]
   | none=>rw [hf] at hp; subst hp; simp only [↓eA,eB,seval])
theorem e_scon (nz:Bool)(l:List ByteArray)(hl:l.length < 1000000)(n:ByteArray):L.call 80 [strz nz l,.str n] []=some (.bool (l.any (seq n)),[]):=
 call_eq rfl rfl (by simp only [↓eA,eB,seval,c80,e_sidx nz l hl n,idxOf_ge])
abbrev Rf:=ByteArray×Int×ByteArray
abbrev rfD (r:Rf):D:=.agg [.str r.1,int r.2.1,.str r.2.2]
def refL (s:Site)(tk:List ByteArray):List Rf:=(s.blocks.filter fun b=>!taken tk b).map fun b=>(b.name,(whyB s tk b).1,(whyB s tk b).2)
abbrev rfz (nz:Bool)(l:List Rf):D:=.fz nz 3 (l.map rfD)
theorem lp_refuse {s:Site}(hF:s.Fit)(nz:Bool)(tk:List ByteArray)(ht:tk.length < 1000000)(hst:startErr s tk=0)(e:Env)(H:Heap)(h1:Gs.get e 1=strz nz tk)(h2:Gs.get e 2 = .ptr 2 0)(h5:Gs.get e 5 = .ow 1005)(h11:Gs.get e 11=blks s.blocks)(h12:Gs.get e 12=int s.blocks.length)(h13:Gs.get e 13=int 0)(hH2:hget H 2=some (.box s.cells false))(hH:hget H 1005=some (.row true 3 [] 0 true)) :
   Ends T 43003 e H (fun X e' H'=>X = .ex 0∧Gs.get e' 5 = .ow 1005∧H'=[(2,.box s.cells false),(1005,.row true 3 ((refL s tk).map rfD) 0 true)]):=by
 have hbl:=hF.bl
 have hok:=site_ok (start_ok hst).1
 refine (loop_fold (T:=T) (key:=43003) (li:=l43003.1) rfl s.blocks (fun (a:List Rf) (b:Block)=>bif taken tk b then a else a ++ [(b.name,(whyB s tk b).1,(whyB s tk b).2)])
   (fun i a e H=>Gs.get e 1=strz nz tk∧Gs.get e 2 = .ptr 2 0∧Gs.get e 5 = .ow 1005∧Gs.get e 11=blks s.blocks∧Gs.get e 12=int s.blocks.length∧Gs.get e 13=int i∧hget H 2=some (.box s.cells false)∧hget H 1005=some (.row true 3 (a.map rfD) 0 true)∧a.length≤i)
   (fun a X e' H'=>X = .ex 0∧Gs.get e' 5 = .ow 1005∧H'=[(2,.box s.cells false),(1005,.row true 3 (a.map rfD) 0 true)]) ?_ ?_ [] e H ⟨h1,h2,h5,h11,h12,h13,hH2,hH,Nat.le_refl _⟩).mono ?_
 · rintro i b a e H hx hi ⟨h1,h2,h5,h11,h12,h13,hH2,hH,ha⟩
   have hx':(s.blocks.map Block.enc)[i]?=some b.enc:=by simp [hx]
   have hbm:=List.mem_of_getElem? hx
   have hfit:fits (a.length + (0 + 1)) 40=true:=fits_of (by omega)
   have hc:=e_scon nz tk ht b.name
   have hw:=e_Why_ok s hF nz tk ht b.name hst b (sorted_find (sorted_of hok.srt) hbm)
   cases hp:taken tk b with
   | true=>
     unfold taken at hp
     rw [hp] at hc
     simp only [↓eA,eB,seval,l43003,h1,h2,h5,h11,h12,h13,hH2,hH,hi,hx',hc,List.length_map,wrap_succ (show i < 4611686018427387904 by omega)]
     exact ⟨trivial,trivial,trivial,trivial,trivial,trivial,trivial,trivial,trivial,by omega⟩
   | false=>
     unfold taken at hp
     rw [hp] at hc
     simp only [↓eA,eB,seval,l43003,h1,h2,h5,h11,h12,h13,hH2,hH,hi,hx',hc,hw,hfit,List.length_map,wrap_succ (show i < 4611686018427387904 by omega)]
     refine ⟨trivial,trivial,trivial,trivial,trivial,trivial,trivial,trivial,?_,?_⟩
     · simp
     · simp; omega
 · rintro a e H ⟨h1,h2,h5,h11,h12,h13,hH2,hH,ha⟩
   simp only [↓eA,eB,seval,l43003,h1,h2,h5,h11,h12,h13,hH2,hH,Nat.lt_irrefl]
   and_intros<;>first | trivial | rfl
 · rintro X e' H' ⟨rfl,g5,rfl⟩
   refine ⟨rfl,g5,?_⟩
   have key:∀ (l:List Block) (a:List Rf),l.foldl (fun a b=>bif taken tk b then a else a ++ [(b.name,(whyB s tk b).1,(whyB s tk b).2)]) a=a ++ (l.filter fun b=>!taken tk b).map fun b=>(b.name,(whyB s tk b).1,(whyB s tk b).2):=by
     intro l
     induction l with
     | nil=>intro a; simp
     | cons b r ih=>
       intro a
       rw [List.foldl_cons,ih]
       cases hp:taken tk b<;>simp [hp]
   rw [key]; rfl
theorem e_refuse {s:Site}(hF:s.Fit)(nz:Bool)(tk:List ByteArray)(ht:tk.length < 1000000)(hst:startErr s tk=0):L.call 43 [s.enc,strz nz tk] []=some (rfz true (refL s tk),[]):=
 call_eq rfl rfl (by
   simp only [↓eA,eB,seval,c43,List.length_map]
   generalize hE:(lim T).loop 43003 _ _=R
   obtain ⟨X,e',H',rfl,rfl,g5,rfl⟩:=Ends.at hE (lp_refuse hF nz tk ht hst _ _ (by simp only [↓eA,eB,seval]) (by simp only [↓eA,eB,seval]) (by simp only [↓eA,eB,seval]) (by simp only [↓eA,eB,seval]) (by simp only [↓eA,eB,seval]) (by simp only [↓eA,eB,seval]) rfl rfl)
   simp only [↓eA,eB,seval,g5])
def refuseR (s:Site):List Rf×Int:=bif !decide (siteErr s=0) then ([],siteErr s) else bif (refL s (great s)).isEmpty then ([],9) else (refL s (great s),0)
theorem e_Refuse (s:Site)(hF:s.Fit):L.call 13 [s.enc] []=some (.tup [rfz true (refuseR s).1,int (refuseR s).2],[]):=by
 have h1:=e_siteCheck s hF
 unfold refuseR
 cases hs:decide (siteErr s=0) with
 | false=>
   generalize siteErr s=er at hs h1
   exact call_eq rfl rfl (by simp only [↓eA,eB,seval,c13,h1,hs]<;>rfl)
 | true=>
 have hs0:=of_decide_eq_true hs
 rw [hs0] at h1
 obtain ⟨_,g2,_⟩:=great_ok hs0
 have hlen:=known_len g2.st
 have hbl:=hF.bl
 have h2:=e_xgreatest hs0 hF
 have h3:=e_refuse hF true (great s) (by omega) g2.st
 cases hr:refL s (great s) with
 | nil=>rw [hr] at h3; exact call_eq rfl rfl (by simp only [↓eA,eB,seval,c13,h1,h2,h3,List.map_nil]<;>rfl)
 | cons a r=>
   rw [hr] at h3
   have hne:decide (((r.length + 1:Nat):Int)=0)=false:=decide_eq_false (by omega)
   exact call_eq rfl rfl (by simp only [↓eA,eB,seval,c13,h1,h2,h3,hne,List.length_map,List.isEmpty_cons]<;>rfl)
end Tz.C18
set_option maxRecDepth 100000
open Gs Go
namespace Tz.C18
theorem lp_ours (nz:Bool)(l:List Rf)(hl:l.length < 1000000)(e:Env)(H:Heap)(h0:Gs.get e 0=rfz nz l)(h3:Gs.get e 3 = .ow 1003)(h4:Gs.get e 4=int 0)(hH:hget H 1003=some (.row false 3 [] 0 true)) :
   Ends T 20003 e H (fun X e' H'=>X = .ex 0∧Gs.get e' 3 = .ow 1003∧H'=[(1003,.row false 3 (l.map rfD) 0 true)]):=by
 refine (loop_fold (T:=T) (key:=20003) (li:=l20003.1) rfl l (fun (a:List Rf) (x:Rf)=>a ++ [x])
   (fun i a e H=>Gs.get e 0=rfz nz l∧Gs.get e 3 = .ow 1003∧Gs.get e 4=int i∧hget H 1003=some (.row false 3 (a.map rfD) 0 true)∧a.length=i)
   (fun a X e' H'=>X = .ex 0∧Gs.get e' 3 = .ow 1003∧H'=[(1003,.row false 3 (a.map rfD) 0 true)]) ?_ ?_ [] e H ⟨h0,h3,h4,hH,rfl⟩).mono ?_
 · rintro i x a e H hx hi ⟨h0,h3,h4,hH,ha⟩
   have hx':(l.map rfD)[i]?=some (.agg [.str x.1,int x.2.1,.str x.2.2]):=by simp [hx]
   have hfit:fits (a.length + (0 + 1)) 40=true:=fits_of (by omega)
   simp only [↓eA,eB,seval,l20003,h0,h3,h4,hH,hi,hx',hfit,List.length_map,wrap_succ (show i < 4611686018427387904 by omega)]
   refine ⟨trivial,trivial,trivial,trivial,?_,?_⟩
   · simp
   · simp; omega
 · rintro a e H ⟨h0,h3,h4,hH,ha⟩
   simp only [↓eA,eB,seval,l20003,h0,h3,h4,hH,List.length_map,Nat.lt_irrefl]
   and_intros<;>first | trivial | rfl
 · rintro X e' H' ⟨rfl,g3,rfl⟩
   refine ⟨rfl,g3,?_⟩
   have key:∀ (l a:List Rf),l.foldl (fun a x=>a ++ [x]) a=a ++ l:=by
     intro l
     induction l with
     | nil=>intro a; simp
     | cons b r ih=>intro a; rw [List.foldl_cons,ih]; simp
   rw [key]; rfl
theorem e_ours (nz:Bool)(l:List Rf)(hl:l.length < 1000000):L.call 20 [rfz nz l] []=some (rfz false l,[]):=
 call_eq rfl rfl (by
   simp only [↓eA,eB,seval,c20,List.length_map]
   generalize hE:(lim T).loop 20003 _ _=R
   obtain ⟨X,e',H',rfl,rfl,g3,rfl⟩:=Ends.at hE (lp_ours nz l hl _ _ (by simp only [↓eA,eB,seval]) (by simp only [↓eA,eB,seval]) (by simp only [↓eA,eB,seval]) rfl)
   simp only [↓eA,eB,seval,g3])
theorem refL_len (s:Site)(tk:List ByteArray):(refL s tk).length≤s.blocks.length:=by
 unfold refL
 rw [List.length_map]
 exact List.length_filter_le _ _
end Tz.C18
