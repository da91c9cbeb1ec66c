/- part S98; part S122; no conditions. -/
import Derived.Test.YtboigolndjinhaaGreatS92toS121
import Derived.Test.YtboigolndjinhaaGreatS0A
set_option linter.unusedVariables false
set_option linter.unusedSimpArgs false
set_option linter.unusedSectionVars false
set_option linter.defProp false
set_option linter.deprecated false
set_option maxRecDepth 100000
open Gs Go
namespace Tz.C18
def hP (s:Site)(tk:List ByteArray)(x:Block):Bool:=!taken tk x && (restL [under x.box] (tkB s tk)).isEmpty
theorem small18b (s:Site)(nz:Bool)(tk:List ByteArray):∃ v,L.call 41 [s.enc,.fz nz 1 (tk.map .str)] []=some (.bool v,[])∧(v=true→s.Fit∧tk.length≤20∧(s.blocks.length≤12∨256 < s.blocks.length)):=by
  obtain ⟨w,e1,hw⟩:=small17 s
  refine ⟨(w && (decide ((s.blocks.length:Int)≤12) || decide (256 < (s.blocks.length:Int)))) && decide ((tk.length:Int)≤20),call_eq rfl rfl (by simp only [↓eA,eB,seval,c41,e1,List.length_map]),fun h=>?_⟩
  simp only [Bool.and_eq_true,Bool.or_eq_true,decide_eq_true_eq] at h
  exact ⟨hw h.1.1,by omega,by omega⟩
end Tz.C18
set_option maxRecDepth 100000
open Gs Go
namespace Tz.C18
theorem aw21:L.call 11 [] []=some (.bool true,[]):=Aw.aw_run
def longN (n:ByteArray):Bool:=decide (100 < (n.size:Int))
theorem lp_sm21 (nz:Bool)(o:List ByteArray)(ho:o.length < 1000000)(e:Env)(H:Heap)(h1:Gs.get e 1=strz nz o)(h5:Gs.get e 5=int 0) :
    Ends T 12004 e H (fun X e' H'=>match o.any longN with | true=>X = .ret∧Gs.get e' 4 = .bool false | false=>X = .ex 0):=by
  refine (loop_anyH (T:=T) (key:=12004) (li:=l12004) rfl o longN (fun i e H=>Gs.get e 1=strz nz o∧Gs.get e 5=int i)
    (fun X e' H'=>X = .ret∧Gs.get e' 4 = .bool false) (fun X e' H'=>X = .ex 0) ?_ ?_ e H ⟨h1,h5⟩).mono fun X e' H' h=>by cases hf:o.any longN<;>rw [hf] at h<;>exact h
  · rintro i n e H hx hi ⟨h1,h5⟩
    have hx':(o.map D.str)[i]?=some (.str n):=by simp [hx]
    cases hp:longN n<;>unfold longN at hp<;>simp only [↓eA,eB,seval,l12004,h1,h5,hi,hx',hp,wrap_succ (show i < 4611686018427387904 by omega)]<;>and_intros<;>first | trivial | rfl
  · rintro e H ⟨h1,h5⟩
    simp only [↓eA,eB,seval,l12004,h1,h5,Nat.lt_irrefl]
    and_intros<;>first | trivial | rfl
theorem small21 (s:Site)(nz:Bool)(o:List ByteArray):∃ v,L.call 12 [s.enc,strz nz o] []=some (.bool v,[])∧(v=true→s.Fit∧o.length≤260∧(s.blocks.length≤12∨256 < s.blocks.length)∧(o.length≤16∨256 < o.length)):=by
  obtain ⟨w,e1,hw⟩:=small18b s true []
  have e1':L.call 41 [s.enc,.fz true 1 []] []=some (.bool w,[]):=e1
  cases hg:(!w || (decide (16 < (o.length:Int)) && decide ((o.length:Int)≤256))) || decide (260 < (o.length:Int)) with
  | true=>exact ⟨false,call_eq rfl rfl (by simp only [↓eA,eB,seval,c12,e1',hg,List.length_map]),fun h=>by cases h⟩
  | false=>
  have hg':=hg
  simp only [Bool.or_eq_false_iff,Bool.and_eq_false_iff,decide_eq_false_iff_not,Bool.not_eq_false'] at hg'
  obtain ⟨⟨g1,g2⟩,g3⟩:=hg'
  obtain ⟨hF,_,hb⟩:=hw g1
  refine ⟨!o.any longN,call_eq rfl rfl ?_,fun _=>⟨hF,by omega,hb,by omega⟩⟩
  simp only [↓eA,eB,seval,c12,e1',hg,List.length_map]
  generalize hE:(lim T).loop 12004 _ _=R
  obtain ⟨X,e',H',rfl,hp⟩:=Ends.at hE (lp_sm21 nz o (by omega) _ _ (by simp only [↓eA,eB,seval]) (by simp only [↓eA,eB,seval]))
  cases ha:o.any longN with
  | true=>rw [ha] at hp; obtain ⟨rfl,g2⟩:=hp; simp only [↓eA,eB,seval,g2]
  | false=>rw [ha] at hp; subst hp; simp only [↓eA,eB,seval]
theorem lp_has21 (nz:Bool)(l:List ByteArray)(hl:l.length < 1000000)(n:ByteArray)(e:Env)(H:Heap)(h0:Gs.get e 0 = .fz nz 1 (l.map .str))(h1:Gs.get e 1 = .str n)(h5:Gs.get e 5=int 0)(hH:H=[]) :
    Ends T 25002 e H (fun X e' H'=>match l.any (fun x=>seq x n) with | true=>X = .ret∧Gs.get e' 4 = .bool true | false=>X = .ex 0):=by
  refine (loop_anyH (T:=T) (key:=25002) (li:=l25002) rfl l (fun x=>seq x n) (fun i e H=>Gs.get e 0 = .fz nz 1 (l.map .str)∧Gs.get e 1 = .str n∧Gs.get e 5=int i∧H=[])
    (fun X e' H'=>X = .ret∧Gs.get e' 4 = .bool true) (fun X e' H'=>X = .ex 0) ?_ ?_ e H ⟨h0,h1,h5,hH⟩).mono fun X e' H' h=>by cases hf:l.any (fun x=>seq x n)<;>rw [hf] at h<;>exact h
  · rintro i x e H hx hi ⟨h0,h1,h5,rfl⟩
    have hx':(l.map D.str)[i]?=some (.str x):=by simp [hx]
    cases hp:seq x n<;>simp only [↓eA,eB,seval,l25002,h0,h1,h5,hi,hx',hp,wrap_succ (show i < 4611686018427387904 by omega)]<;>and_intros<;>first | trivial | rfl
  · rintro e H ⟨h0,h1,h5,rfl⟩
    simp only [↓eA,eB,seval,l25002,h0,h1,h5,Nat.lt_irrefl]
    and_intros<;>first | trivial | rfl
theorem e_has21 (nz:Bool)(l:List ByteArray)(hl:l.length < 1000000)(n:ByteArray):L.call 25 [.fz nz 1 (l.map .str),.str n] []=some (.bool (l.any (fun x=>seq x n)),[]):=
  call_eq rfl rfl (by
    simp only [↓eA,eB,seval,c25]
    generalize hE:(lim T).loop 25002 _ _=R
    obtain ⟨X,e',H',rfl,hp⟩:=Ends.at hE (lp_has21 nz l hl n _ _ (by simp only [↓eA,eB,seval]) (by simp only [↓eA,eB,seval]) (by simp only [↓eA,eB,seval]) rfl)
    cases hk:l.any (fun x=>seq x n) with
    | true=>rw [hk] at hp; obtain ⟨rfl,g2⟩:=hp; simp only [↓eA,eB,seval,g2]
    | false=>rw [hk] at hp; subst hp; simp only [↓eA,eB,seval])
theorem known_len {s:Site}{tk:List ByteArray}(h:startErr s tk=0):tk.length≤s.blocks.length:=by
  have:=nodup_le (start_nodup h) (m:=namesB s.blocks) fun n hn=>by
    obtain ⟨b,hb,rfl⟩:=start_known h n hn
    exact List.mem_map.2 ⟨b,hb,rfl⟩
  simpa using this
theorem chk_ok {s:Site}(hs:siteErr s=0){tk:List ByteArray}(h:startErr s tk=0):chkErr s tk=0:=by
  have hl:=known_len h
  have hm:=(site_ok hs).many
  simp only [cMany,Bool.or_eq_false_iff,decide_eq_false_iff_not] at hm
  unfold chkErr
  rw [decide_eq_true hs,(start_ok h).2.1,decide_eq_false (by omega)]; rfl
theorem lp_gr5 (n1 n2:Bool)(o l:List ByteArray)(ho:o.length < 1000000)(hl:l.length < 1000000)(n:Nat)(hn:n≤o.length)(hall:∀ x∈o.take n,x∈l)(e:Env)(H:Heap)(h1:Gs.get e 1=strz n1 o)(h5:Gs.get e 5=strz n2 l)(h7:Gs.get e 7=int n)(h13:Gs.get e 13=int 0) :
    Ends T 5014 e H (fun X e' H'=>X = .ex 0):=by
  refine (loop_upto (T:=T) (key:=5014) (li:=l5014) rfl (S:=Unit) (R:=Empty) (fun _ _=>.inr ()) n
    (fun i _ e H=>Gs.get e 1=strz n1 o∧Gs.get e 5=strz n2 l∧Gs.get e 7=int n∧Gs.get e 13=int i∧i≤n) (fun _ X e' H'=>False) (fun _ X e' H'=>X = .ex 0) ?_ ?_ ?_ n 0 () e H rfl ⟨h1,h5,h7,h13,Nat.zero_le _⟩).mono fun X e' H' h=>?_
  · rintro i _ _ e H hi ⟨h1,h5,h7,h13,_⟩ hf
    have hio:i < o.length:=by omega
    obtain ⟨x,hx⟩:∃ x,o[i]?=some x:=⟨_,List.getElem?_eq_getElem hio⟩
    have hx':(o.map D.str)[i]?=some (.str x):=by simp [hx]
    have hm:x∈l:=hall x (List.mem_of_getElem? (i:=i) (by rw [List.getElem?_take_of_lt hi]; exact hx))
    have hh:=e_has21 n2 l hl x
    rw [show l.any (fun y=>seq y x)=true from List.any_eq_true.2 ⟨x,hm,seq_refl _⟩] at hh
    simp only [↓eA,eB,seval,l5014,h1,h5,h7,h13,hi,hio,hx',hh,List.length_map,wrap_succ (show i < 4611686018427387904 by omega)]
    exact ⟨trivial,trivial,trivial,trivial,trivial,by omega⟩
  · rintro i _ r; exact r.elim
  · rintro i _ e H hi ⟨h1,h5,h7,h13,hi2⟩
    have:i=n:=by omega
    subst this
    simp only [↓eA,eB,seval,l5014,h1,h5,h7,h13,Nat.lt_irrefl]
    and_intros<;>first | trivial | rfl
  · cases hu:upto (S:=Unit) (R:=Empty) (fun _ _=>.inr ()) n 0 () with
    | inl r=>exact r.elim
    | inr s=>rw [hu] at h; exact h
theorem e_greatest (s:Site)(o:List ByteArray):L.call 5 [s.enc,strs o] []=some (.bool true,[]):=by
  obtain ⟨v,e1,hv⟩:=small21 s false o
  cases v with
  | false=>exact call_eq rfl rfl (by simp only [↓eA,eB,seval,c5,aw21,e1])
  | true=>
  obtain ⟨hF,ho,hb,_⟩:=hv rfl
  have f1:=e_xGreatest s hF
  have f2:=e_xCheck s hF false o (by omega)
  cases hs:decide (siteErr s=0) with
  | false=>
    rw [hs] at f1
    have hc:chkErr s o=siteErr s:=by unfold chkErr; rw [hs]; rfl
    rw [hc,hs] at f2
    generalize siteErr s=er at hs f1 f2
    exact call_eq rfl rfl (by simp only [↓eA,eB,seval,c5,aw21,e1,f1,f2,hs,List.map_nil])
  | true=>
  have hs0:=of_decide_eq_true hs
  have hok:=site_ok hs0
  rw [hs0] at f1
  simp only [decide_true,cond_true] at f1
  cases hc:decide (chkErr s o=0) with
  | false=>
    rw [hc] at f2
    generalize chkErr s o=er at hc f2
    exact call_eq rfl rfl (by simp only [↓eA,eB,seval,c5,aw21,e1,f1,f2,hc,List.length_map]<;>first | rfl | simp)
  | true=>
    have hc0:=of_decide_eq_true hc
    rw [hc0] at f2
    simp only [decide_true,cond_true] at f2
    obtain ⟨g1,g2,g3⟩:=great_ok hs0
    have hlen:=known_len g2.st
    have hbl:=hF.bl
    have f3:=e_xCheck s hF true (great s) (by omega)
    rw [chk_ok hs0 g2.st] at f3
    simp only [decide_true,cond_true] at f3
    have hfl:(firstF s [] (great s):Int)=(great s).length:=by
      have:=first_poss s (great s) []
      rw [g1] at this
      have:=of_decide_eq_true this
      simp at this; omega
    rw [hfl] at f3
    have f4:=e_Frontier_ok s hF true (great s) (by omega) g2.st
    have hnp:namesOf (possible s (great s)) s.blocks=[]:=by
      unfold namesOf
      rw [List.filter_eq_nil_iff.2 fun b hb=>by rw [g3 b hb]; simp]; rfl
    have hsb:sortB ([]:List ByteArray)=[]:=List.eq_nil_of_length_eq_zero (by rw [(sortB_perm _).length_eq]; rfl)
    rw [hnp,hsb] at f4
    have f4':L.call 24 [s.enc,strz true (great s)] []=some (.tup [.fz true 1 [],int 0],[]):=f4
    have hge:=first_ge s o []
    simp only [List.length_nil,Nat.zero_add] at hge
    exact call_eq rfl rfl (by
      simp only [↓eA,eB,seval,c5,aw21,e1,f1,f2,f3,f4',List.length_map]
      generalize hE:(lim T).loop 5014 _ _=R
      obtain ⟨X,e',H',rfl,rfl⟩:=Ends.at hE (lp_gr5 false true o (great s) (by omega) (by omega) (firstF s [] o) hge.2 (stuck_all hok g3 _ [] (by simp) (by have:=first_take s o []; simpa using this)) _ _ (by simp only [↓eA,eB,seval]) (by simp only [↓eA,eB,seval]) (by simp only [↓eA,eB,seval]) (by simp only [↓eA,eB,seval]))
      simp only [↓eA,eB,seval])
end Tz.C18
