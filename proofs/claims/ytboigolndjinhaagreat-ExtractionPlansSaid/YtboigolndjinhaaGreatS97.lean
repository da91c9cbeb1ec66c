/- part S97; no conditions. -/
import Derived.Test.YtboigolndjinhaaGreatS92toS96
import Derived.Test.YtboigolndjinhaaGreatS87toS65
set_option linter.all false
set_option maxRecDepth 100000
open Gs Go
namespace Tz.C18
theorem lp_rbed (s:Survey)(hb:s.beds.length < 1000000000)(z:Int)(e:Env)(H:Heap)(h1:Gs.get e 1=int z)(h2:Gs.get e 2 = .ptr 2 0)(h5:Gs.get e 5=int 0)(hH:hget H 2=some (.box s.cells false)) :
   Ends T 99002 e H (fun X e' H'=>match beddedB s z with | true=>X = .ret∧Gs.get e' 4 = .bool true | false=>X = .ex 0):=by
 unfold beddedB
 refine (loop_anyH (T:=T) (key:=99002) (li:=l99002.1) rfl s.beds (fun b=>decide (b.z=z)) (fun i e H=>Gs.get e 1=int z∧Gs.get e 2 = .ptr 2 0∧Gs.get e 5=int i∧hget H 2=some (.box s.cells false))
   (fun X e' H'=>X = .ret∧Gs.get e' 4 = .bool true) (fun X e' H'=>X = .ex 0) ?_ ?_ e H ⟨h1,h2,h5,hH⟩).mono fun X e' H' h=>h
 · rintro i b e H hx hi ⟨h1,h2,h5,hH⟩
   have hx':(s.beds.map Bed.enc)[i]?=some b.enc:=by simp [hx]
   cases hp:decide (b.z=z)<;>simp only [↓eA,eB,seval,l99002,h1,h2,h5,hH,hi,hx',hp,wrap_succ (show i < 4611686018427387904 by omega)]<;>and_intros<;>first | trivial | rfl
 · rintro e H ⟨h1,h2,h5,hH⟩
   simp only [↓eA,eB,seval,l99002,h1,h2,h5,hH,Nat.lt_irrefl]
   and_intros<;>first | trivial | rfl
theorem e_rBedded (s:Survey)(hb:s.beds.length < 1000000000)(z:Int):L.call 99 [s.enc,int z] []=some (.bool (beddedB s z),[]):=
 call_eq rfl rfl (by
   simp only [↓eA,eB,seval,c99]
   generalize hE:(lim T).loop 99002 _ _=R
   obtain ⟨X,e1,H1,rfl,hp⟩:=Ends.at hE (lp_rbed s hb z _ _ (by simp only [↓eA,eB,seval]) (by simp only [↓eA,eB,seval]) (by simp only [↓eA,eB,seval]) rfl)
   cases hk:beddedB s z with
   | true=>rw [hk] at hp; obtain ⟨rfl,g2⟩:=hp; simp only [↓eA,eB,seval,g2]
   | false=>rw [hk] at hp; subst hp; simp only [↓eA,eB,seval])
theorem e_rOver (a b:Box):L.call 98 [a.enc,b.enc] []=some (.bool (decide (b.z1≤a.z0) && flat2 a b),[]):=
 call_eq rfl rfl (by simp only [↓eA,eB,seval,c98,e_rFlat a b])
def r1P (tk:List ByteArray)(b:Box)(x:Block):Bool:=!taken tk x && (decide (b.z1≤x.box.z0) && flat2 x.box b)
def r2P (s:Site)(tk:List ByteArray)(nm:ByteArray)(b:Box)(x:Block):Bool:=(!taken tk x && !seq x.name nm) && !rclear s.safety b x.box
abbrev HW (s:Site)(b:Box):Heap:=[(3,.box s.cells false),(6,.box [int 0,.str .empty] false),(7,.box (bxc b) false)]
theorem lp_w1 (s:Site)(hF:s.Fit)(nz:Bool)(tk:List ByteArray)(ht:tk.length < 1000000)(nm:ByteArray)(b:Box)(e:Env)(H:Heap)(h1:Gs.get e 1=strz nz tk)(h2:Gs.get e 2 = .str nm)(h3:Gs.get e 3 = .ptr 3 0)(h6:Gs.get e 6 = .ptr 6 0)(h7:Gs.get e 7 = .ptr 7 0)(h8:Gs.get e 8=int 0)
   (hH3:hget H 3=some (.box s.cells false)) (hH6:hget H 6=some (.box [int 0,.str .empty] false)) (hH7:hget H 7=some (.box (bxc b) false)) :
   Ends T 49005 e H (fun X e' H'=>match s.blocks.find? (r1P tk b) with
     | some x=>X = .ret∧Gs.get e' 6 = .fp [int 2,.str x.name] 0
     | none=>X = .ex 0∧Gs.get e' 1=strz nz tk∧Gs.get e' 2 = .str nm∧Gs.get e' 3 = .ptr 3 0∧Gs.get e' 6 = .ptr 6 0∧Gs.get e' 7 = .ptr 7 0∧H'=HW s b):=by
 have hbl:=hF.bl
 refine (loop_findH (T:=T) (key:=49005) (li:=l49005.1) rfl s.blocks (r1P tk b) (fun i e H=>Gs.get e 1=strz nz tk∧Gs.get e 2 = .str nm∧Gs.get e 3 = .ptr 3 0∧Gs.get e 6 = .ptr 6 0∧Gs.get e 7 = .ptr 7 0∧Gs.get e 8=int i∧hget H 3=some (.box s.cells false)∧hget H 6=some (.box [int 0,.str .empty] false)∧hget H 7=some (.box (bxc b) false))
   (fun x X e' H'=>X = .ret∧Gs.get e' 6 = .fp [int 2,.str x.name] 0) (fun X e' H'=>X = .ex 0∧Gs.get e' 1=strz nz tk∧Gs.get e' 2 = .str nm∧Gs.get e' 3 = .ptr 3 0∧Gs.get e' 6 = .ptr 6 0∧Gs.get e' 7 = .ptr 7 0∧H'=HW s b) ?_ ?_ e H ⟨h1,h2,h3,h6,h7,h8,hH3,hH6,hH7⟩).mono fun X e' H' h=>by cases hf:s.blocks.find? (r1P tk b)<;>rw [hf] at h<;>exact h
 · rintro i x e H hx hi ⟨h1,h2,h3,h6,h7,h8,hH3,hH6,hH7⟩
   have hx':(s.blocks.map Block.enc)[i]?=some x.enc:=by simp [hx]
   have hc:=e_rhas nz tk ht x.name
   rw [←seq_any] at hc
   have ho:=e_rOver x.box b
   have hw:=wrap_succ (show i < 4611686018427387904 by omega)
   unfold r1P
   cases hp:taken tk x with
   | true=>unfold taken at hp; rw [hp] at hc; simp only [↓eA,eB,seval,l49005,h1,h2,h3,h6,h7,h8,hH3,hH6,hH7,hi,hx',hc,hw]<;>and_intros<;>first | trivial | rfl
   | false=>
     unfold taken at hp
     rw [hp] at hc
     cases hq:decide (b.z1≤x.box.z0) && flat2 x.box b<;>rw [hq] at ho<;>simp only [↓eA,eB,seval,l49005,h1,h2,h3,h6,h7,h8,hH3,hH6,hH7,hi,hx',hc,ho,hw]<;>and_intros<;>first | trivial | rfl
 · rintro e H ⟨h1,h2,h3,h6,h7,h8,hH3,hH6,hH7⟩
   simp only [↓eA,eB,seval,l49005,h1,h2,h3,h6,h7,h8,hH3,hH6,hH7,Nat.lt_irrefl]
   and_intros<;>first | trivial | rfl
theorem lp_w3 (s:Site)(hF:s.Fit)(nz:Bool)(tk:List ByteArray)(ht:tk.length < 1000000)(nm:ByteArray)(b:Box)(e:Env)(H:Heap)(h1:Gs.get e 1=strz nz tk)(h2:Gs.get e 2 = .str nm)(h3:Gs.get e 3 = .ptr 3 0)(h6:Gs.get e 6 = .ptr 6 0)(h7:Gs.get e 7 = .ptr 7 0)(h8:Gs.get e 13=int 0)
   (hH3:hget H 3=some (.box s.cells false)) (hH6:hget H 6=some (.box [int 0,.str .empty] false)) (hH7:hget H 7=some (.box (bxc b) false)) :
   Ends T 49022 e H (fun X e' H'=>match s.blocks.find? (r2P s tk nm b) with
     | some x=>X = .ret∧Gs.get e' 6 = .fp [int 5,.str x.name] 0
     | none=>X = .ex 4∧Gs.get e' 6 = .ptr 6 0∧H'=HW s b):=by
 have hbl:=hF.bl
 refine (loop_findH (T:=T) (key:=49022) (li:=l49022.1) rfl s.blocks (r2P s tk nm b) (fun i e H=>Gs.get e 1=strz nz tk∧Gs.get e 2 = .str nm∧Gs.get e 3 = .ptr 3 0∧Gs.get e 6 = .ptr 6 0∧Gs.get e 7 = .ptr 7 0∧Gs.get e 13=int i∧hget H 3=some (.box s.cells false)∧hget H 6=some (.box [int 0,.str .empty] false)∧hget H 7=some (.box (bxc b) false))
   (fun x X e' H'=>X = .ret∧Gs.get e' 6 = .fp [int 5,.str x.name] 0) (fun X e' H'=>X = .ex 4∧Gs.get e' 6 = .ptr 6 0∧H'=HW s b) ?_ ?_ e H ⟨h1,h2,h3,h6,h7,h8,hH3,hH6,hH7⟩).mono fun X e' H' h=>by cases hf:s.blocks.find? (r2P s tk nm b)<;>rw [hf] at h<;>exact h
 · rintro i x e H hx hi ⟨h1,h2,h3,h6,h7,h8,hH3,hH6,hH7⟩
   have hx':(s.blocks.map Block.enc)[i]?=some x.enc:=by simp [hx]
   have hc:=e_rhas nz tk ht x.name
   rw [←seq_any] at hc
   have ho:=e_rClear s.safety b x.box
   have hw:=wrap_succ (show i < 4611686018427387904 by omega)
   unfold r2P
   cases hp:taken tk x with
   | true=>unfold taken at hp; rw [hp] at hc; simp only [↓eA,eB,seval,l49022,h1,h2,h3,h6,h7,h8,hH3,hH6,hH7,hi,hx',hc,hw]<;>and_intros<;>first | trivial | rfl
   | false=>
     unfold taken at hp
     rw [hp] at hc
     cases hs:seq x.name nm with
     | true=>simp only [↓eA,eB,seval,l49022,h1,h2,h3,h6,h7,h8,hH3,hH6,hH7,hi,hx',hc,hs,hw]<;>and_intros<;>first | trivial | rfl
     | false=>cases hq:rclear s.safety b x.box<;>rw [hq] at ho<;>simp only [↓eA,eB,seval,l49022,h1,h2,h3,h6,h7,h8,hH3,hH6,hH7,hi,hx',hc,hs,ho,hw]<;>and_intros<;>first | trivial | rfl
 · rintro e H ⟨h1,h2,h3,h6,h7,h8,hH3,hH6,hH7⟩
   simp only [↓eA,eB,seval,l49022,h1,h2,h3,h6,h7,h8,hH3,hH6,hH7,Nat.lt_irrefl]
   and_intros<;>first | trivial | rfl
abbrev HW4 (s:Site)(b:Box)(f0 f1 f2 f3:Bool):Heap:=[(3,.box s.cells false),(6,.box [int 0,.str .empty] false),(7,.box (bxc b) false),(11,.box [.bool f0,.bool f1,.bool f2,.bool f3] false)]
theorem lp_w2 (s:Site)(tkD:D)(nm:ByteArray)(b:Box)(f0 f1 f2 f3:Bool)(e:Env)(H:Heap)(h1:Gs.get e 1=tkD)(h2:Gs.get e 2 = .str nm)(h3:Gs.get e 3 = .ptr 3 0)(h6:Gs.get e 6 = .ptr 6 0)(h7:Gs.get e 7 = .ptr 7 0)(h10:Gs.get e 10=int 0)(h11:Gs.get e 11 = .ptr 11 0)(h12:Gs.get e 12=int 0)(htk:renD (same [3,6,7,11]) tkD=tkD)
   (hH3:hget H 3=some (.box s.cells false)) (hH6:hget H 6=some (.box [int 0,.str .empty] false)) (hH7:hget H 7=some (.box (bxc b) false)) (hH11:hget H 11=some (.box [.bool f0,.bool f1,.bool f2,.bool f3] false)) :
   Ends T 49015 e H (fun X e' H'=>X = .ex 2∧Gs.get e' 1=tkD∧Gs.get e' 2 = .str nm∧Gs.get e' 3 = .ptr 3 0∧Gs.get e' 6 = .ptr 6 0∧Gs.get e' 7 = .ptr 7 0∧Gs.get e' 10=int (cntB f0 f1 f2 f3)∧H'=HW4 s b f0 f1 f2 f3):=by
 refine (loop_upto (T:=T) (key:=49015) (li:=l49015.1) rfl (cntS f0 f1 f2 f3) 4
   (fun i a e H=>Gs.get e 1=tkD∧Gs.get e 2 = .str nm∧Gs.get e 3 = .ptr 3 0∧Gs.get e 6 = .ptr 6 0∧Gs.get e 7 = .ptr 7 0∧Gs.get e 10=int a∧Gs.get e 11 = .ptr 11 0∧Gs.get e 12=int i∧hget H 3=some (.box s.cells false)∧hget H 6=some (.box [int 0,.str .empty] false)∧hget H 7=some (.box (bxc b) false)∧hget H 11=some (.box [.bool f0,.bool f1,.bool f2,.bool f3] false)∧0≤a∧a≤i∧i≤4)
   (fun r X e' H'=>False) (fun a X e' H'=>X = .ex 2∧Gs.get e' 1=tkD∧Gs.get e' 2 = .str nm∧Gs.get e' 3 = .ptr 3 0∧Gs.get e' 6 = .ptr 6 0∧Gs.get e' 7 = .ptr 7 0∧Gs.get e' 10=int a∧H'=HW4 s b f0 f1 f2 f3) ?_ ?_ ?_ 4 0 0 e H rfl ⟨h1,h2,h3,h6,h7,h10,h11,h12,hH3,hH6,hH7,hH11,by omega,by omega,by omega⟩).mono fun X e' H' h=>?_
 · rintro i a a' e H hi ⟨h1,h2,h3,h6,h7,h10,h11,h12,hH3,hH6,hH7,hH11,ha,hai,_⟩ hf
   injection hf with hf
   have hw:IntKind.i64.wrap (a + 1)=a + 1:=wrap_in (by omega) (by omega)
   have hcase:i=0∨i=1∨i=2∨i=3:=by omega
   rcases hcase with rfl | rfl | rfl | rfl
   · simp only [fb] at hf
     cases f0<;>simp only [cond_true,cond_false] at hf<;>subst hf<;>simp only [↓eA,eB,seval,l49015,h1,h2,h3,h6,h7,h10,h11,h12,hH3,hH6,hH7,hH11,hw,i40,htk]<;>and_intros<;>first | trivial | rfl | omega
   · simp only [fb] at hf
     cases f1<;>simp only [cond_true,cond_false] at hf<;>subst hf<;>simp only [↓eA,eB,seval,l49015,h1,h2,h3,h6,h7,h10,h11,h12,hH3,hH6,hH7,hH11,hw,i41,htk]<;>and_intros<;>first | trivial | rfl | omega
   · simp only [fb] at hf
     cases f2<;>simp only [cond_true,cond_false] at hf<;>subst hf<;>simp only [↓eA,eB,seval,l49015,h1,h2,h3,h6,h7,h10,h11,h12,hH3,hH6,hH7,hH11,hw,i42,htk]<;>and_intros<;>first | trivial | rfl | omega
   · simp only [fb] at hf
     cases f3<;>simp only [cond_true,cond_false] at hf<;>subst hf<;>simp only [↓eA,eB,seval,l49015,h1,h2,h3,h6,h7,h10,h11,h12,hH3,hH6,hH7,hH11,hw,i43,htk]<;>and_intros<;>first | trivial | rfl | omega
 · rintro i a r; exact r.elim
 · rintro i a e H hi ⟨h1,h2,h3,h6,h7,h10,h11,h12,hH3,hH6,hH7,hH11,ha,hai,hi4⟩
   have:i=4:=by omega
   subst this
   simp only [↓eA,eB,seval,l49015,h1,h2,h3,h6,h7,h10,h11,h12,hH3,hH6,hH7,hH11,htk]
   and_intros<;>first | trivial | rfl
 · have key:upto (cntS f0 f1 f2 f3) 4 0 0 = .inr (cntB f0 f1 f2 f3):=by
     simp only [upto,cntS,fb,cntB]
     cases f0<;>cases f1<;>cases f2<;>cases f3<;>rfl
   rw [key] at h
   exact h
theorem flat_over {a b:Box}(ha:BoxIn a)(hb:BoxIn b):flat2 a b=over2 a b:=by
 obtain ⟨a1,a2,_⟩:=ha
 obtain ⟨b1,b2,_⟩:=hb
 unfold flat2 over2
 rw [Bool.eq_iff_iff]
 simp only [Bool.and_eq_true,decide_eq_true_eq]
 omega
theorem find_congr {α:Type}{p q:α→Bool} : ∀ {l:List α},(∀ x∈l,p x=q x)→l.find? p=l.find? q
 | [],_=>rfl
 | a :: l,h=>by
   rw [List.find?_cons,List.find?_cons,h a List.mem_cons_self,find_congr fun x hx=>h x (List.mem_cons_of_mem _ hx)]
theorem r1_eq {s:Site}(hok:SiteOk s)(tk:List ByteArray){b:Block}(hb:b∈s.blocks):s.blocks.find? (r1P tk b.box)=firstR s tk b.name (fun x=>decide (b.box.z1≤x.z0) && over2 x b.box):=by
 unfold firstR
 refine find_congr fun x hx=>?_
 unfold r1P firstP
 rw [flat_over (box_in hok hx) (box_in hok hb)]
 cases hs:seq x.name b.name with
 | false=>rfl
 | true=>
   have:=sorted_inj (sorted_of hok.srt) hx hb (seq_iff.1 hs)
   subst this
   have hz:=(box_in hok hx).z
   rw [decide_eq_false (by omega)]
   cases taken tk x<;>rfl
theorem r2_eq {s:Site}(tk:List ByteArray)(b:Block):s.blocks.find? (r2P s tk b.name b.box)=firstR s tk b.name (fun x=>!clearB s.safety b.box x):=by
 unfold firstR
 refine find_congr fun x hx=>?_
 unfold r2P firstP
 rw [←clear_eq,Bool.and_comm (!taken tk x)]
theorem e_rWhy {s:Site}(hok:SiteOk s)(hF:s.Fit)(h12:s.blocks.length≤12)(nz:Bool)(tk:List ByteArray)(ht:tk.length < 1000000){b:Block}(hb:b∈s.blocks) :
   L.call 49 [s.enc,strz nz tk,.str b.name] []=some (.agg [int (whyB s tk b).1,.str (whyB s tk b).2],[]):=by
 have hn:s.blocks.find? (named b.name)=some b:=by
   rw [show named b.name=called b.name from by funext c; exact seq_comm _ _]
   exact sorted_find (sorted_of hok.srt) hb
 obtain ⟨j,hj,hbj⟩:=find_idx _ hn
 have hx:idxOf (named b.name) s.blocks=(j:Int):=by unfold idxOf; rw [hj]
 have hi:=(List.getElem?_eq_some_iff.1 hbj).1
 have hx':(s.blocks.map Block.enc)[j]?=some b.enc:=by simp [hbj]
 have f1:=e_rhas nz tk ht b.name
 rw [←seq_any] at f1
 have f2:=e_idx s.blocks hF.bl b.name
 rw [hx] at f2
 have f3:=e_rBedded s.survey hF.sv.bl b.box.z0
 have f4:=e_rFaces hok hF h12 nz tk ht b.name hn
 have w1:=r1_eq hok tk hb
 have w2:=r2_eq (s:=s) tk b
 unfold whyB
 cases hk:taken tk b with
 | true=>unfold taken at hk; rw [hk] at f1; exact call_eq rfl rfl (by simp only [↓eA,eB,seval,c49,f1])
 | false=>
 unfold taken at hk
 rw [hk] at f1
 generalize freeB s tk b.box 0=f0 at f4
 generalize freeB s tk b.box 1=f1' at f4
 generalize freeB s tk b.box 2=f2' at f4
 generalize freeB s tk b.box 3=f3' at f4
 refine call_eq rfl rfl ?_
 simp only [↓eA,eB,seval,c49,f1,f2,hi,hx',List.length_map]
 generalize hE:(lim T).loop 49005 _ _=R
 obtain ⟨X,e1,H1,rfl,hp⟩:=Ends.at hE (lp_w1 s hF nz tk ht b.name b.box _ _ (by simp only [↓eA,eB,seval]) (by simp only [↓eA,eB,seval]) (by simp only [↓eA,eB,seval]) (by simp only [↓eA,eB,seval]) (by simp only [↓eA,eB,seval]) (by simp only [↓eA,eB,seval]) rfl rfl rfl)
 rw [w1] at hp
 cases hc1:firstR s tk b.name (fun x=>decide (b.box.z1≤x.z0) && over2 x b.box) with
 | some c=>rw [hc1] at hp; obtain ⟨rfl,g6⟩:=hp; simp only [↓eA,eB,seval,g6]
 | none=>
 rw [hc1] at hp
 obtain ⟨rfl,q1,q2,q3,q6,q7,rfl⟩:=hp
 cases hbd:beddedB s.survey b.box.z0 with
 | false=>rw [hbd] at f3; simp only [↓eA,eB,seval,q1,q2,q3,q6,q7,f3]
 | true=>
 rw [hbd] at f3
 simp only [↓eA,eB,seval,q1,q2,q3,q6,q7,f3,f4]
 generalize hE:(lim T).loop 49015 _ _=R
 obtain ⟨X,e2,H2,rfl,rfl,r1,r2,r3,r6,r7,r10,rfl⟩:=Ends.at hE (lp_w2 s (strz nz tk) b.name b.box f0 f1' f2' f3' _ _ (by simp only [↓eA,eB,seval,q1]) (by simp only [↓eA,eB,seval,q2]) (by simp only [↓eA,eB,seval,q3]) (by simp only [↓eA,eB,seval,q6]) (by simp only [↓eA,eB,seval,q7]) (by simp only [↓eA,eB,seval]) (by simp only [↓eA,eB,seval]) (by simp only [↓eA,eB,seval]) (by simp only [↓eA,eB,seval]) rfl rfl rfl rfl)
 cases hct:decide (cntB f0 f1' f2' f3' < 2) with
 | true=>simp only [↓eA,eB,seval,r1,r2,r3,r6,r7,r10,hct]
 | false=>
 simp only [↓eA,eB,seval,r1,r2,r3,r6,r7,r10,hct]
 generalize hE:(lim T).loop 49022 _ _=R
 obtain ⟨X,e3,H3,rfl,hp⟩:=Ends.at hE (lp_w3 s hF nz tk ht b.name b.box _ _ (by simp only [↓eA,eB,seval,r1]) (by simp only [↓eA,eB,seval,r2]) (by simp only [↓eA,eB,seval,r3]) (by simp only [↓eA,eB,seval,r6]) (by simp only [↓eA,eB,seval,r7]) (by simp only [↓eA,eB,seval]) rfl rfl rfl)
 rw [w2] at hp
 cases hc2:firstR s tk b.name (fun x=>!clearB s.safety b.box x) with
 | some c=>rw [hc2] at hp; obtain ⟨rfl,g6⟩:=hp; simp only [↓eA,eB,seval,g6]
 | none=>
 rw [hc2] at hp
 obtain ⟨rfl,g6,rfl⟩:=hp
 simp only [↓eA,eB,seval,g6]
theorem lp_rfront {s:Site}(hok:SiteOk s)(hF:s.Fit)(h12:s.blocks.length≤12)(nz:Bool)(tk:List ByteArray)(ht:tk.length < 1000000)(e:Env)(H:Heap)(h1:Gs.get e 1=strz nz tk)(h2:Gs.get e 2 = .ptr 2 0)(h5:Gs.get e 5 = .ow 1005)(h6:Gs.get e 6=int 0)(hH2:hget H 2=some (.box s.cells false))(hH:hget H 1005=some (.row true 1 [] 0 true)) :
   Ends T 50003 e H (fun X e' H'=>X = .ex 0∧Gs.get e' 5 = .ow 1005∧H'=[(2,.box s.cells false),(1005,.row true 1 ((namesOf (possible s tk) s.blocks).map .str) 0 true)]):=by
 have hbl:=hF.bl
 refine (loop_fold (T:=T) (key:=50003) (li:=l50003.1) rfl s.blocks (fun (a:List ByteArray) (b:Block)=>bif possible s tk b then a ++ [b.name] else a)
   (fun i a e H=>Gs.get e 1=strz nz tk∧Gs.get e 2 = .ptr 2 0∧Gs.get e 5 = .ow 1005∧Gs.get e 6=int i∧hget H 2=some (.box s.cells false)∧hget H 1005=some (.row true 1 (a.map .str) 0 true)∧a.length≤i)
   (fun a X e' H'=>X = .ex 0∧Gs.get e' 5 = .ow 1005∧H'=[(2,.box s.cells false),(1005,.row true 1 (a.map .str) 0 true)]) ?_ ?_ [] e H ⟨h1,h2,h5,h6,hH2,hH,Nat.le_refl _⟩).mono ?_
 · rintro i b a e H hx hi ⟨h1,h2,h5,h6,hH2,hH,ha⟩
   have hx':(s.blocks.map Block.enc)[i]?=some b.enc:=by simp [hx]
   have hfit:fits (a.length + (0 + 1)) 16=true:=fits_of (by omega)
   have hc:=e_rWhy hok hF h12 nz tk ht (List.mem_of_getElem? hx)
   unfold possible
   generalize (whyB s tk b).2=u at hc
   generalize (whyB s tk b).1=k at hc
   cases hp:decide (k=0) with
   | true=>
     simp only [↓eA,eB,seval,l50003,h1,h2,h5,h6,hH2,hH,hi,hx',hc,hp,hfit,List.length_map,wrap_succ (show i < 4611686018427387904 by omega)]
     refine ⟨trivial,trivial,trivial,trivial,trivial,trivial,?_,?_⟩
     · simp
     · simp; omega
   | false=>
     simp only [↓eA,eB,seval,l50003,h1,h2,h5,h6,hH2,hH,hi,hx',hc,hp,hfit,List.length_map,wrap_succ (show i < 4611686018427387904 by omega)]
     refine ⟨trivial,trivial,trivial,trivial,trivial,trivial,trivial,by omega⟩
 · rintro a e H ⟨h1,h2,h5,h6,hH2,hH,ha⟩
   simp only [↓eA,eB,seval,l50003,h1,h2,h5,h6,hH2,hH,Nat.lt_irrefl]
   and_intros<;>first | trivial | rfl
 · rintro X e' H' ⟨rfl,g5,rfl⟩
   refine ⟨rfl,g5,?_⟩
   have key:∀ (l:List Block) (a:List ByteArray),l.foldl (fun a b=>bif possible s tk b then a ++ [b.name] else a) a=a ++ namesOf (possible s tk) l:=by
     intro l
     induction l with
     | nil=>intro a; simp [namesOf]
     | cons b r ih=>
       intro a
       rw [List.foldl_cons,ih]
       cases hp:possible s tk b<;>simp [namesOf,hp]
   rw [key]; rfl
theorem e_rFrontier {s:Site}(hok:SiteOk s)(hF:s.Fit)(h12:s.blocks.length≤12)(nz:Bool)(tk:List ByteArray)(ht:tk.length < 1000000):L.call 50 [s.enc,strz nz tk] []=some (.fz true 1 ((namesOf (possible s tk) s.blocks).map .str),[]):=
 call_eq rfl rfl (by
   simp only [↓eA,eB,seval,c50]
   generalize hE:(lim T).loop 50003 _ _=R
   obtain ⟨X,e',H',rfl,rfl,g5,rfl⟩:=Ends.at hE (lp_rfront hok hF h12 nz tk ht _ _ (by simp only [↓eA,eB,seval]) (by simp only [↓eA,eB,seval]) (by simp only [↓eA,eB,seval]) (by simp only [↓eA,eB,seval]) rfl rfl)
   simp only [↓eA,eB,seval,g5])
end Tz.C18
