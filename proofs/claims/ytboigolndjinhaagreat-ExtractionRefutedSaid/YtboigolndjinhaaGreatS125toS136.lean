/- part S125; part S126; part S129; part S131; part S133; part S134; part S136; no conditions. -/
import Derived.Test.YtboigolndjinhaaGreatS98toS124
import Derived.Test.YtboigolndjinhaaGreatS87toS65
set_option linter.all false
set_option maxRecDepth 100000
open Gs Go
namespace Tz.C18
def eqRf (x y:Rf):Bool:=seq x.1 y.1 && (decide (x.2.1=y.2.1) && seq x.2.2 y.2.2)
def neRf (p:Rf×Rf):Bool:=!eqRf p.1 p.2
def sameB (l m:List Rf):Bool:=decide ((l.length:Int)=(m.length:Int)) && !(l.zip m).any neRf
theorem lp_eq21 (n1 n2:Bool)(l m:List Rf)(hl:l.length < 1000000)(hm:l.length=m.length)(e:Env)(H:Heap)(h0:Gs.get e 0=rfz n1 l)(h1:Gs.get e 1=rfz n2 m)(h12:Gs.get e 12=int l.length)(h13:Gs.get e 13=int 0)(hH:H=[]) :
   Ends T 53004 e H (fun X e' H'=>match (l.zip m).any neRf with | true=>X = .ret∧Gs.get e' 4 = .bool false | false=>X = .ex 0):=by
 have hz:(l.zip m).length=l.length:=by rw [List.length_zip]; omega
 refine (loop_anyH (T:=T) (key:=53004) (li:=l53004.1) rfl (l.zip m) neRf (fun i e H=>Gs.get e 0=rfz n1 l∧Gs.get e 1=rfz n2 m∧Gs.get e 12=int l.length∧Gs.get e 13=int i∧H=[])
   (fun X e' H'=>X = .ret∧Gs.get e' 4 = .bool false) (fun X e' H'=>X = .ex 0) ?_ ?_ e H ⟨h0,h1,h12,h13,hH⟩).mono fun X e' H' h=>by cases hf:(l.zip m).any neRf<;>rw [hf] at h<;>exact h
 · rintro i ⟨x,y⟩ e H hx hi ⟨h0,h1,h12,h13,rfl⟩
   obtain ⟨hx1,hy1⟩:=List.getElem?_zip_eq_some.1 hx
   have hil:i < l.length:=by omega
   have him:i < m.length:=by omega
   have hx':(l.map rfD)[i]?=some (.agg [.str x.1,int x.2.1,.str x.2.2]):=by simp [hx1]
   have hy':(m.map rfD)[i]?=some (.agg [.str y.1,int y.2.1,.str y.2.2]):=by simp [hy1]
   unfold neRf eqRf
   cases g1:seq x.1 y.1<;>cases g2:decide (x.2.1=y.2.1)<;>cases g3:seq x.2.2 y.2.2<;>simp only [↓eA,eB,seval,l53004,h0,h1,h12,h13,hil,him,hx',hy',g1,g2,g3,List.length_map,wrap_succ (show i < 4611686018427387904 by omega)]<;>and_intros<;>first | trivial | rfl
 · rintro e H ⟨h0,h1,h12,h13,rfl⟩
   rw [hz] at h13
   simp only [↓eA,eB,seval,l53004,h0,h1,h12,h13,Nat.lt_irrefl]
   and_intros<;>first | trivial | rfl
theorem e_eq21 (n1 n2:Bool)(l m:List Rf)(hl:l.length < 1000000):L.call 53 [rfz n1 l,rfz n2 m] []=some (.bool (sameB l m),[]):=by
 unfold sameB
 cases hn:decide ((l.length:Int)=(m.length:Int)) with
 | false=>exact call_eq rfl rfl (by simp only [↓eA,eB,seval,c53,hn,List.length_map])
 | true=>
   have hm:l.length=m.length:=by have:=of_decide_eq_true hn; omega
   exact call_eq rfl rfl (by
     simp only [↓eA,eB,seval,c53,hn,List.length_map]
     generalize hE:(lim T).loop 53004 _ _=R
     obtain ⟨X,e',H',rfl,hp⟩:=Ends.at hE (lp_eq21 n1 n2 l m hl hm _ _ (by simp only [↓eA,eB,seval]) (by simp only [↓eA,eB,seval]) (by simp only [↓eA,eB,seval]) (by simp only [↓eA,eB,seval]) rfl)
     cases hk:(l.zip m).any neRf with
     | true=>rw [hk] at hp; obtain ⟨rfl,g2⟩:=hp; simp only [↓eA,eB,seval,g2]
     | false=>rw [hk] at hp; subst hp; simp only [↓eA,eB,seval])
def badRf (r:Rf):Bool:=decide (r.2.1=0) || decide (r.2.1=1)
theorem e_prv1 (r:Rf):L.call 55 [rfD r] []=some (.bool (badRf r),[]):=
 call_eq rfl rfl (by simp only [↓eA,eB,seval,c55]; rfl)
theorem lp_ridx (nz:Bool)(l:List Rf)(hl:l.length < 1000000)(e:Env)(H:Heap)(h0:Gs.get e 0=rfz nz l)(h1:Gs.get e 1 = .fn 55 [])(h7:Gs.get e 7=int l.length)(h8:Gs.get e 8=int 0)(hH:H=[]) :
   Ends T 104002 e H (fun X e' H'=>match l.findIdx? badRf with | some j=>X = .ret∧Gs.get e' 4=int j | none=>X = .ex 0):=by
 refine (loop_thru (T:=T) (key:=104002) (li:=l104002.1) rfl (fun (i:Nat) x=>bif badRf x then .inl i else .inr (i + 1)) l
   (fun i t e H=>t=i∧Gs.get e 0=rfz nz l∧Gs.get e 1 = .fn 55 []∧Gs.get e 7=int l.length∧Gs.get e 8=int i∧H=[])
   (fun i X e' H'=>X = .ret∧Gs.get e' 4=int i) (fun _ X e' H'=>X = .ex 0) ?_ ?_ ?_ l [] 0 e H rfl ⟨rfl,h0,h1,h7,h8,hH⟩).mono fun X e' H' h=>?_
 · rintro i x t t' e H hx ⟨rfl,h0,h1,h7,h8,rfl⟩ hf
   have hi:=(List.getElem?_eq_some_iff.1 hx).1
   have hx':(l.map rfD)[t]?=some (rfD x):=by simp [hx]
   have hn:badRf x=false:=by cases hb:badRf x<;>simp_all
   have hc:=e_prv1 x
   rw [hn] at hf hc
   injection hf with hf; subst hf
   simp only [↓eA,eB,seval,l104002,h0,h1,h7,h8,hi,hx',hc,List.length_map,wrap_succ (show t < 4611686018427387904 by omega)]
   and_intros<;>first | trivial | rfl
 · rintro i x t r e H hx ⟨rfl,h0,h1,h7,h8,rfl⟩ hf
   have hi:=(List.getElem?_eq_some_iff.1 hx).1
   have hx':(l.map rfD)[t]?=some (rfD x):=by simp [hx]
   have hn:badRf x=true:=by cases hb:badRf x<;>simp_all
   have hc:=e_prv1 x
   rw [hn] at hf hc
   injection hf with hf; subst hf
   simp only [↓eA,eB,seval,l104002,h0,h1,h7,h8,hi,hx',hc,List.length_map]
   and_intros<;>first | trivial | rfl
 · rintro t e H ⟨rfl,h0,h1,h7,h8,rfl⟩
   simp only [↓eA,eB,seval,l104002,h0,h1,h7,h8,Nat.lt_irrefl]
   and_intros<;>first | trivial | rfl
 · rw [thru_idx] at h
   cases hd:l.findIdx? badRf<;>rw [hd] at h
   · exact h
   · simpa using h
theorem e_rcon (nz:Bool)(l:List Rf)(hl:l.length < 1000000):L.call 54 [rfz nz l,.fn 55 []] []=some (.bool (l.any badRf),[]):=by
 have h1:L.call 104 [rfz nz l,.fn 55 []] []=some (int (idxOf badRf l),[]):=call_eq rfl rfl (by
   simp only [↓eA,eB,seval,c104,List.length_map]
   generalize hE:(lim T).loop 104002 _ _=R
   obtain ⟨X,e',H',rfl,hp⟩:=Ends.at hE (lp_ridx nz l hl _ _ (by simp only [↓eA,eB,seval]) (by simp only [↓eA,eB,seval]) (by simp only [↓eA,eB,seval]) (by simp only [↓eA,eB,seval]) rfl)
   unfold idxOf
   cases hf:l.findIdx? badRf with
   | some j=>rw [hf] at hp; obtain ⟨rfl,g4⟩:=hp; simp only [↓eA,eB,seval,g4]
   | none=>rw [hf] at hp; subst hp; simp only [↓eA,eB,seval])
 exact call_eq rfl rfl (by simp only [↓eA,eB,seval,c54,h1,idxOf_ge])
def strk (s:Site):List ByteArray→List ByteArray→Bool
 | _,[]=>true
 | tk,n :: r=>(standN s tk).any (seq n) && strk s (tk ++ [n]) r
theorem thru_strk (s:Site):∀ (r tk:List ByteArray),thru (R:=Unit) (fun (t:List ByteArray) n=>bif (standN s t).any (seq n) then .inr (t ++ [n]) else .inl ()) r tk=bif strk s tk r then .inr (tk ++ r) else .inl ()
 | [],tk=>by simp [thru,strk]
 | n :: r,tk=>by
   simp only [thru,strk]
   cases h:(standN s tk).any (seq n) with
   | false=>rfl
   | true=>simp only [cond_true,Bool.true_and]; rw [thru_strk s r (tk ++ [n])]; simp
theorem stand_mem {s:Site}{tk:List ByteArray}{n:ByteArray} : (standN s tk).any (seq n)=true↔(∃ b∈s.blocks,b.name=n)∧n∉tk:=by
 rw [List.any_eq_true]
 constructor
 · rintro ⟨m,hm,he⟩
   obtain ⟨c,hc,rfl⟩:=List.mem_map.1 hm
   obtain ⟨h1,h2⟩:=List.mem_filter.1 hc
   have:=seq_iff.1 he; subst this
   refine ⟨⟨c,h1,rfl⟩,fun h=>?_⟩
   rw [taken_iff.2 h] at h2; cases h2
 · rintro ⟨⟨b,hb,rfl⟩,hn⟩
   refine ⟨b.name,List.mem_map.2 ⟨b,List.mem_filter.2 ⟨hb,?_⟩,rfl⟩,seq_refl _⟩
   cases h:taken tk b with
   | false=>rfl
   | true=>exact absurd (taken_iff.1 h) hn
theorem strk_iff {s:Site} : ∀ (r tk:List ByteArray),strk s tk r=true↔(∀ n∈r,∃ b∈s.blocks,b.name=n)∧(∀ n∈r,n∉tk)∧r.Nodup
 | [],tk=>by simp [strk]
 | n :: r,tk=>by
   simp only [strk,Bool.and_eq_true,stand_mem,strk_iff r (tk ++ [n]),List.forall_mem_cons,List.nodup_cons]
   constructor
   · rintro ⟨⟨h1,h2⟩,h3,h4,h5⟩
     exact ⟨⟨h1,h3⟩,⟨h2,fun m hm h=>h4 m hm (List.mem_append_left _ h)⟩,fun hn=>h4 n hn (List.mem_append_right _ List.mem_cons_self),h5⟩
   · rintro ⟨⟨h1,h3⟩,⟨h2,h4⟩,h6,h5⟩
     refine ⟨⟨h1,h2⟩,h3,fun m hm h=>?_,h5⟩
     rcases List.mem_append.1 h with h | h
     · exact h4 m hm h
     · simp only [List.mem_cons,List.not_mem_nil,or_false] at h
       exact h6 (h ▸ hm)
theorem strk_start {s:Site}(hs:siteErr s=0)(tk:List ByteArray):strk s [] tk=decide (startErr s tk=0):=by
 rw [Bool.eq_iff_iff,strk_iff,decide_eq_true_eq]
 constructor
 · rintro ⟨h1,_,h3⟩; exact start_of hs h3 h1
 · exact fun h=>⟨start_known h,by simp,start_nodup h⟩
theorem lp_prv (s:Site)(hsr:Sorted s.blocks)(n1 n2:Bool)(goal:ByteArray)(fr:List ByteArray)(hfr:fr.length < 1000000)(l:List Rf)(e:Env)(H:Heap)(h1:Gs.get e 1 = .str goal)(h2:Gs.get e 2=strz n1 fr)(h3:Gs.get e 3=rfz n2 l)(h4:Gs.get e 4 = .ptr 4 0)(h9:Gs.get e 9 = .mp 10320)(h17:Gs.get e 17=strz n1 fr)(h18:Gs.get e 18=int fr.length)(h19:Gs.get e 19=int 0)
   (hH4:hget H 4=some (.box s.cells false)) (hM:hget H 10320=some (.mapB (entT (standN s [])) false)) :
   Ends T 19005 e H (fun X e' H'=>match strk s [] fr with
     | true=>X = .ex 0∧Gs.get e' 1 = .str goal∧Gs.get e' 2=strz n1 fr∧Gs.get e' 3=rfz n2 l∧Gs.get e' 4 = .ptr 4 0∧Gs.get e' 9 = .mp 10320∧H'=[(4,.box s.cells false),(10320,.mapB (entT (standN s fr)) false)]
     | false=>X = .ret∧Gs.get e' 8 = .bool false):=by
 refine (loop_thru (T:=T) (key:=19005) (li:=l19005.1) rfl (fun (t:List ByteArray) n=>bif (standN s t).any (seq n) then .inr (t ++ [n]) else .inl ()) fr
   (fun i t e H=>Gs.get e 1 = .str goal∧Gs.get e 2=strz n1 fr∧Gs.get e 3=rfz n2 l∧Gs.get e 4 = .ptr 4 0∧Gs.get e 9 = .mp 10320∧Gs.get e 17=strz n1 fr∧Gs.get e 18=int fr.length∧Gs.get e 19=int i∧hget H 4=some (.box s.cells false)∧hget H 10320=some (.mapB (entT (standN s t)) false))
   (fun (_:Unit) X e' H'=>X = .ret∧Gs.get e' 8 = .bool false) (fun t X e' H'=>X = .ex 0∧Gs.get e' 1 = .str goal∧Gs.get e' 2=strz n1 fr∧Gs.get e' 3=rfz n2 l∧Gs.get e' 4 = .ptr 4 0∧Gs.get e' 9 = .mp 10320∧H'=[(4,.box s.cells false),(10320,.mapB (entT (standN s t)) false)]) ?_ ?_ ?_ fr [] [] e H rfl ⟨h1,h2,h3,h4,h9,h17,h18,h19,hH4,hM⟩).mono fun X e' H' h=>?_
 · rintro i n t t' e H hx ⟨h1,h2,h3,h4,h9,h17,h18,h19,hH4,hM⟩ hf
   have hi:=(List.getElem?_eq_some_iff.1 hx).1
   have hx':(fr.map D.str)[i]?=some (.str n):=by simp [hx]
   have hn:(standN s t).any (seq n)=true:=by cases hb:(standN s t).any (seq n)<;>simp_all
   obtain ⟨⟨b,hb,rfl⟩,hnt⟩:=stand_mem.1 hn
   have hbt:taken t b=false:=by
     cases h:taken t b with
     | false=>rfl
     | true=>exact absurd (taken_iff.1 h) hnt
   have hd:=mdel_entT b.name (standN s t)
   rw [del_stand hbt hsr] at hd
   have hm:=mfind_entT b.name (standN s t)
   rw [hn] at hf hm
   injection hf with hf; subst hf
   simp only [↓eA,eB,seval,l19005,h1,h2,h3,h4,h9,h17,h18,h19,hH4,hM,hi,hx',hm,hd,List.length_map,wrap_succ (show i < 4611686018427387904 by omega)]
   and_intros<;>first | trivial | rfl
 · rintro i n t r e H hx ⟨h1,h2,h3,h4,h9,h17,h18,h19,hH4,hM⟩ hf
   have hi:=(List.getElem?_eq_some_iff.1 hx).1
   have hx':(fr.map D.str)[i]?=some (.str n):=by simp [hx]
   have hn:(standN s t).any (seq n)=false:=by cases hb:(standN s t).any (seq n)<;>simp_all
   have hm:=mfind_entT n (standN s t)
   rw [hn] at hm
   simp only [↓eA,eB,seval,l19005,h1,h2,h3,h4,h9,h17,h18,h19,hH4,hM,hi,hx',hm,List.length_map]
   and_intros<;>first | trivial | rfl
 · rintro t e H ⟨h1,h2,h3,h4,h9,h17,h18,h19,hH4,hM⟩
   simp only [↓eA,eB,seval,l19005,h1,h2,h3,h4,h9,h17,h18,h19,hH4,hM,Nat.lt_irrefl]
   and_intros<;>first | trivial | rfl
 · rw [thru_strk] at h
   cases hd:strk s [] fr<;>rw [hd] at h<;>exact h
def provesB (s:Site)(goal:ByteArray)(fr:List ByteArray)(l:List Rf):Bool:=decide (startErr s fr=0) && ((standN s fr).any (seq goal) && (sameB l (refL s fr) && !l.any badRf))
theorem site_of_start {s:Site}{tk:List ByteArray}(h:decide (siteErr s=0)=false):decide (startErr s tk=0)=false:=by
 unfold startErr
 rw [h]
 exact h
theorem e_proves (s:Site)(hF:s.Fit)(n1 n2:Bool)(goal:ByteArray)(fr:List ByteArray)(hfr:fr.length < 1000000)(l:List Rf)(hl:l.length < 1000000):L.call 19 [s.enc,.str goal,strz n1 fr,rfz n2 l] []=some (.bool (provesB s goal fr l),[]):=by
 have f1:L.call 51 [s.enc,.fz true 1 []] []=some (int (chkErr s []),[]):=e_xcheck s hF true [] (by simp)
 unfold provesB
 cases hs:decide (siteErr s=0) with
 | false=>
   have hc:chkErr s []=siteErr s:=by unfold chkErr; rw [hs]; rfl
   rw [hc] at f1
   rw [site_of_start hs]
   generalize siteErr s=er at hs f1
   exact call_eq rfl rfl (by simp only [↓eA,eB,seval,c19,f1,hs])
 | true=>
 have hs0:=of_decide_eq_true hs
 have hok:=site_ok hs0
 have hsr:=sorted_of hok.srt
 have hbl:=hF.bl
 have hc:chkErr s []=0:=chk_ok hs0 (start_of hs0 List.nodup_nil (by simp))
 rw [hc] at f1
 have f2:=e_xblocks s hF hsr
 have hsn:namesB s.blocks=standN s []:=by
   unfold standN
   congr 1
   exact (List.filter_eq_self.2 fun b _=>rfl).symm
 rw [hsn] at f2
 rw [←strk_start hs0]
 refine call_eq rfl rfl ?_
 simp only [↓eA,eB,seval,c19,f1,f2,List.length_map]
 generalize hE:(lim T).loop 19005 _ _=R
 obtain ⟨X,e',H',rfl,hp⟩:=Ends.at hE (lp_prv s hsr n1 n2 goal fr hfr l _ _ (by simp only [↓eA,eB,seval]) (by simp only [↓eA,eB,seval]) (by simp only [↓eA,eB,seval]) (by simp only [↓eA,eB,seval]) (by simp only [↓eA,eB,seval]) (by simp only [↓eA,eB,seval]) (by simp only [↓eA,eB,seval]) (by simp only [↓eA,eB,seval]) rfl rfl)
 cases hk:strk s [] fr with
 | false=>rw [hk] at hp; obtain ⟨rfl,g8⟩:=hp; simp only [↓eA,eB,seval,g8]
 | true=>
 rw [hk] at hp
 obtain ⟨rfl,g1,g2,g3,g4,g9,rfl⟩:=hp
 have hst:startErr s fr=0:=by rw [strk_start hs0] at hk; exact of_decide_eq_true hk
 have hm:=mfind_entT goal (standN s fr)
 have f3:=e_refuse hF n1 fr hfr hst
 have f4:=e_eq21 n2 true l (refL s fr) hl
 have f5:=e_rcon n2 l hl
 cases hg:(standN s fr).any (seq goal)<;>rw [hg] at hm
 · simp only [↓eA,eB,seval,g1,g2,g3,g4,g9,hm]
 · cases hq:sameB l (refL s fr)<;>rw [hq] at f4
   · simp only [↓eA,eB,seval,g1,g2,g3,g4,g9,hm,f3,f4,get_wipeB]
   · simp only [↓eA,eB,seval,g1,g2,g3,g4,g9,hm,f3,f4,f5,get_wipeB]
end Tz.C18
set_option maxRecDepth 100000
open Gs Go
namespace Tz.C18
end Tz.C18
set_option maxRecDepth 100000
open Gs Go
namespace Tz.C18
theorem e_CloneS (nz:Bool)(o:List ByteArray)(h0:o≠[])(hl:o.length < 1000000):L.call 64 [strz nz o] []=some (.ow 600001,[(600001,.row false 1 (o.map .str) 0 true)]):=by
 obtain ⟨x,r,rfl⟩:∃ x r,o=x :: r:=by cases o with | nil=>exact absurd rfl h0 | cons x r=>exact ⟨x,r,rfl⟩
 have hfit:fits (0 + (r.length + 1)) 16=true:=fits_of (by simp at hl; omega)
 show L.call 64 [.fz nz 1 (.str x :: r.map .str)] []=some (.ow 600001,[(600001,.row false 1 (.str x :: r.map .str) 0 true)])
 cases nz<;>exact call_eq rfl rfl (by simp only [↓eA,eB,seval,c64,hfit,List.length_map,List.isEmpty_cons])
end Tz.C18
set_option maxRecDepth 100000
open Gs Go
namespace Tz.C18
end Tz.C18
set_option maxRecDepth 100000
open Gs Go
namespace Tz.C18
theorem e_Del (o:List ByteArray)(i:Nat)(hi:i < o.length)(hl:o.length < 1000000):L.call 63 [.ow 500001,int i,int ((i + 1:Nat):Int)] [(500001,.row false 1 (o.map .str) 0 false)]=some (.win 500001 0 (o.length - 1),[(500001,.row false 1 ((o.eraseIdx i ++ [ByteArray.empty]).map .str) 0 false)]):=by
 have h1:decide ((0:Int)≤(i:Int))=true:=decide_eq_true (by omega)
 have h2:decide ((i:Int) < ((i + 1:Nat):Int))=true:=decide_eq_true (by omega)
 have h3:decide (((i + 1:Nat):Int)≤(o.length:Int))=true:=decide_eq_true (by omega)
 have h4:decide (o.length < 4611686018427387904)=true:=decide_eq_true (by omega)
 have h5:(((i + 1:Nat):Int) - (i:Int)).toNat=1:=by omega
 refine ext_eq (s:=delStrX) rfl ?_
 unfold delStrX
 simp only [hget,hset,beq_self_eq_true,cond_true,strs_map,h1,h2,h3,h4,h5,Bool.and_self,Int.toNat_natCast,List.eraseIdx_eq_take_drop_succ,List.replicate_one]
theorem cut_erase (o:List ByteArray)(i:Nat)(hi:i < o.length):cut ((o.eraseIdx i ++ [ByteArray.empty]).map D.str) 0 (o.length - 1)=(o.eraseIdx i).map D.str:=by
 have:(o.eraseIdx i).length=o.length - 1:=List.length_eraseIdx_of_lt hi
 unfold cut
 rw [List.drop_zero,List.map_append,List.take_append_of_le_length (by simp [this]),List.take_of_length_le (by simp [this])]
theorem lp_plan (s:Site)(hF:s.Fit):∀ (k:Nat) (o:List ByteArray),o.length < 1000000→k < o.length→∀ (e:Env) (H:Heap),Gs.get e 2 = .ptr 2 0→Gs.get e 7=strz false o→Gs.get e 9=int ((k:Int) - 1)→hget H 2=some (.box s.cells false)→
   Ends T 26010 e H (fun X e' H'=>X = .ex 0∧Gs.get e' 7=strz false (planF s k o)):=by
 intro k
 induction k with
 | zero=>
   intro o hl hk e H h2 h7 h9 H2
   have hz:decide ((0:Int)≤((0:Nat):Int) - 1)=false:=rfl
   refine round_ends (T:=T) (key:=26010) (li:=l26010.1) rfl ?_
   simp only [↓eA,eB,seval,l26010,h2,h7,h9,H2,hz]
   exact ⟨trivial,trivial,rfl⟩
 | succ k ih=>
   intro o hl hk e H h2 h7 h9 H2
   have hk9:((k + 1:Nat):Int) - 1=(k:Int):=by omega
   rw [hk9] at h9
   have hz:decide ((0:Int)≤(k:Int))=true:=decide_eq_true (by omega)
   have hne:o≠[]:=by intro h; rw [h] at hk; simp at hk
   have f1:=e_CloneS false o hne hl
   have hko:k < o.length:=by omega
   have f2:=e_Del o k hko hl
   have hel:(o.eraseIdx k).length=o.length - 1:=List.length_eraseIdx_of_lt hko
   have f3:=e_xpossible s hF false (o.eraseIdx k) (by omega)
   have hcut:=cut_erase o k hko
   have hML:((o.eraseIdx k ++ [ByteArray.empty]).map D.str).length=o.length:=by simp [hel]; omega
   have hle:decide (o.length - 1≤o.length)=true:=decide_eq_true (by omega)
   have hsub:IntKind.i64.wrap ((k:Int) - 1)=(k:Int) - 1:=wrap_in (by omega) (by omega)
   have hws:=wrap_succ (show k < 4611686018427387904 by omega)
   generalize (o.eraseIdx k ++ [ByteArray.empty]).map D.str=M at f2 hcut hML
   refine round_goes (T:=T) (key:=26010) (li:=l26010.1) rfl (Q:=fun e H=>Gs.get e 2 = .ptr 2 0∧Gs.get e 7=strz false (bif possO s [] (o.eraseIdx k) then o.eraseIdx k else o)∧Gs.get e 9=int ((k:Int) - 1)∧hget H 2=some (.box s.cells false)) ?_ ?_
   · cases hp:possO s [] (o.eraseIdx k)<;>rw [hp] at f3<;>simp only [↓eA,eB,seval,l26010,h2,h7,h9,H2,hz,f1,f2,f3,hcut,hML,hle,hsub,hws,Nat.zero_add,List.length_map]<;>and_intros<;>first | trivial | rfl
   · rintro e H ⟨h2,h7,h9,H2⟩
     unfold planF
     refine ih _ ?_ ?_ e H h2 h7 h9 H2
     · cases possO s [] (o.eraseIdx k)<;>simp only [cond_true,cond_false]<;>omega
     · cases possO s [] (o.eraseIdx k)<;>simp only [cond_true,cond_false]<;>omega
def planR (s:Site)(g:ByteArray):D×Int:=bif !decide (chkErr s [g]=0) then (.fz true 1 [],chkErr s [g]) else match (great s).findIdx? (seq g) with
 | none=>(.fz true 1 [],10)
 | some j=>(strz false (planF s j ((great s).take (j + 1))),0)
theorem great_len {s:Site}(h:siteErr s=0)(hF:s.Fit):(great s).length≤s.blocks.length:=known_len (great_ok h).2.1.st
theorem e_xPlan (s:Site)(hF:s.Fit)(g:ByteArray):L.call 26 [s.enc,.str g] []=some (.tup [(planR s g).1,int (planR s g).2],[]):=by
 have f1:=e_xcheck s hF false [g] (by simp)
 have f1:L.call 51 [s.enc,.fz false 1 [.str g]] []=some (int (chkErr s [g]),[]):=f1
 unfold planR
 cases hc:decide (chkErr s [g]=0) with
 | false=>
   generalize chkErr s [g]=er at hc f1
   exact call_eq rfl rfl (by simp only [↓eA,eB,seval,c26,f1,hc])
 | true=>
 obtain ⟨h0,_,hu⟩:=chk_facts (of_decide_eq_true hc)
 rw [of_decide_eq_true hc] at f1
 have f2:=e_xgreatest h0 hF
 have hgl:=great_len h0 hF
 have hbl:=hF.bl
 have f3:=e_sidx true (great s) (by omega) g
 generalize great s=gl at f2 f3 hgl
 unfold idxOf at f3
 cases hj:gl.findIdx? (seq g) with
 | none=>
   rw [hj] at f3
   exact call_eq rfl rfl (by simp only [↓eA,eB,seval,c26,f1,f2,f3])
 | some j=>
   rw [hj] at f3
   have hjl:j < gl.length:=by
     obtain ⟨h,_⟩:=List.findIdx?_eq_some_iff_getElem.1 hj
     exact h
   have hne:(gl.map D.str).isEmpty=false:=by cases gl with | nil=>simp at hjl | cons x r=>rfl
   have hneg:decide ((j:Int) < 0)=false:=decide_eq_false (by omega)
   have hws:=wrap_succ (show j < 4611686018427387904 by omega)
   have hinc:inc 0 (j + 1)=true:=by simp [inc]; omega
   have hle:decide (j + 1≤gl.length)=true:=decide_eq_true (by omega)
   have hsub:IntKind.i64.wrap ((j:Int) - 1)=(j:Int) - 1:=wrap_in (by omega) (by omega)
   have htl:(gl.take (j + 1)).length=j + 1:=by rw [List.length_take]; omega
   exact call_eq rfl rfl (by
     simp only [↓eA,eB,seval,c26,f1,f2,f3,hne,hneg,hws,hinc,hle,hsub,cut_str,Nat.sub_zero,List.length_map]
     generalize hE:(lim T).loop 26010 _ _=R
     obtain ⟨X,e',H',rfl,rfl,g7⟩:=Ends.at hE (lp_plan s hF j (gl.take (j + 1)) (by omega) (by omega) _ _ (by simp only [↓eA,eB,seval]) (by simp only [↓eA,eB,seval]) (by simp only [↓eA,eB,seval]) rfl)
     simp only [↓eA,eB,seval,g7])
end Tz.C18
set_option maxRecDepth 100000
open Gs Go
namespace Tz.C18
end Tz.C18
set_option maxRecDepth 100000
open Gs Go
namespace Tz.C18
theorem sameB_eq:∀ {l m:List Rf},sameB l m=true→l=m
 | [],[],_=>rfl
 | [],y :: m,h=>by simp [sameB] at h; omega
 | x :: l,[],h=>by simp [sameB] at h; omega
 | x :: l,y :: m,h=>by
   unfold sameB at h
   simp only [Bool.and_eq_true,decide_eq_true_eq,List.length_cons,List.zip_cons_cons,List.any_cons,Bool.not_eq_true',Bool.or_eq_false_iff] at h
   obtain ⟨h1,h2,h3⟩:=h
   have ht:l=m:=sameB_eq (by
     unfold sameB
     rw [decide_eq_true (by omega),h3]; rfl)
   have hx:x=y:=by
     obtain ⟨a,b,c⟩:=x
     obtain ⟨a',b',c'⟩:=y
     simp only [neRf,eqRf,Bool.not_eq_false',Bool.and_eq_true,decide_eq_true_eq,seq_iff] at h2
     simp_all
   rw [hx,ht]
theorem sameB_refl (l:List Rf):sameB l l=true:=by
 unfold sameB
 rw [decide_eq_true rfl,Bool.true_and,Bool.not_eq_true']
 refine List.any_eq_false.2 fun p hp=>?_
 have h:p.1=p.2:=by
   obtain ⟨i,hi,rfl⟩:=List.getElem_of_mem hp
   simp
 obtain ⟨⟨a,b,c⟩,y⟩:=p
 simp only at h
 subst h
 simp [neRf,eqRf,seq_refl]
theorem proves_stuck {s:Site}{goal:ByteArray}{fr:List ByteArray}{l:List Rf}(h:provesB s goal fr l=true):siteErr s=0∧(∃ b∈s.blocks,b.name=goal)∧goal∉fr∧∀ b∈s.blocks,possible s fr b=false:=by
 unfold provesB at h
 simp only [Bool.and_eq_true,decide_eq_true_eq,Bool.not_eq_true'] at h
 obtain ⟨h1,h2,h3,h4⟩:=h
 obtain ⟨h5,h6⟩:=stand_mem.1 h2
 refine ⟨(start_ok h1).1,h5,h6,fun b hb=>?_⟩
 cases ht:taken fr b with
 | true=>
   cases hp:possible s fr b with
   | false=>rfl
   | true=>have:=(possible_facts hp).1; rw [ht] at this; cases this
 | false=>
   have hl:=sameB_eq h3
   have hm:(b.name,(whyB s fr b).1,(whyB s fr b).2)∈l:=by
     rw [hl]; unfold refL
     exact List.mem_map.2 ⟨b,List.mem_filter.2 ⟨hb,by rw [ht]; rfl⟩,rfl⟩
   have:=List.any_eq_false.1 h4 _ hm
   unfold badRf at this
   unfold possible
   simp only [Bool.or_eq_true,decide_eq_true_eq,not_or] at this
   exact decide_eq_false this.1
theorem why_one {s:Site}{tk:List ByteArray}{b:Block}(h:(whyB s tk b).1=1):taken tk b=true:=by
 cases ht:taken tk b with
 | true=>rfl
 | false =>
   unfold whyB at h
   rw [ht] at h
   simp only [cond_false] at h
   split at h
   · simp at h
   · cases h3:beddedB s.survey b.box.z0 with
     | false=>rw [h3] at h; simp at h
     | true=>
       rw [h3] at h
       simp only [Bool.not_true,cond_false] at h
       cases h4:decide (cntB (freeB s tk b.box 0) (freeB s tk b.box 1) (freeB s tk b.box 2) (freeB s tk b.box 3) < 2) with
       | true=>rw [h4] at h; simp at h
       | false=>
         rw [h4] at h
         simp only [cond_false] at h
         split at h<;>simp at h
theorem great_proves {s:Site}(h0:siteErr s=0){x:Rf}(hx:x∈refL s (great s)):provesB s x.1 (great s) (refL s (great s))=true:=by
 obtain ⟨_,hI,hno⟩:=great_ok h0
 unfold provesB
 rw [decide_eq_true hI.st,sameB_refl,Bool.true_and,Bool.true_and,Bool.and_eq_true]
 have hall:∀ y∈refL s (great s),∃ b∈s.blocks,taken (great s) b=false∧y=(b.name,(whyB s (great s) b).1,(whyB s (great s) b).2):=by
   intro y hy
   unfold refL at hy
   obtain ⟨b,hb,rfl⟩:=List.mem_map.1 hy
   obtain ⟨hb1,hb2⟩:=List.mem_filter.1 hb
   exact ⟨b,hb1,by simpa using hb2,rfl⟩
 refine ⟨?_,?_⟩
 · obtain ⟨b,hb,ht,rfl⟩:=hall x hx
   refine stand_mem.2 ⟨⟨b,hb,rfl⟩,fun hm=>?_⟩
   rw [taken_iff.2 hm] at ht; cases ht
 · rw [Bool.not_eq_true']
   refine List.any_eq_false.2 fun y hy hbad=>?_
   obtain ⟨b,hb,ht,rfl⟩:=hall y hy
   unfold badRf at hbad
   simp only [Bool.or_eq_true,decide_eq_true_eq] at hbad
   rcases hbad with hbad | hbad
   · have:=hno b hb; unfold possible at this; rw [decide_eq_true hbad] at this; cases this
   · exact absurd (why_one hbad) (by rw [ht]; simp)
theorem lp_ref1 (s:Site)(hF:s.Fit)(h0:siteErr s=0)(goal:ByteArray)(fr:List ByteArray)(l:List Rf)(o:List ByteArray)(rl:List Rf)(hrl:rl.length < 1000000)(er:Int)(hgl:(great s).length < 1000000)(hpr:∀ x∈rl,er=0∧provesB s x.1 (great s) rl=true)(e:Env)(H:Heap)(h1:Gs.get e 1 = .str goal)(h2:Gs.get e 2=strs fr)(h3:Gs.get e 3=rfz false l)(h4:Gs.get e 4=strs o)(h5:Gs.get e 5 = .ptr 5 0)(h11:Gs.get e 11 = .fz true 1 ((great s).map .str))(h12:Gs.get e 12=int er)(h13:Gs.get e 13=rfz true rl)(h14:Gs.get e 14=int 0)(H5:hget H 5=some (.box s.cells false)) :
   Ends T 8010 e H (fun X e' H'=>X = .ex 0∧Gs.get e' 1 = .str goal∧Gs.get e' 2=strs fr∧Gs.get e' 3=rfz false l∧Gs.get e' 4=strs o∧Gs.get e' 5 = .ptr 5 0∧H'=[(5,.box s.cells false)]):=by
 refine (loop_fold (T:=T) (key:=8010) (li:=l8010.1) rfl rl (fun (u:Unit) _=>u)
   (fun i u e H=>Gs.get e 1 = .str goal∧Gs.get e 2=strs fr∧Gs.get e 3=rfz false l∧Gs.get e 4=strs o∧Gs.get e 5 = .ptr 5 0∧Gs.get e 11 = .fz true 1 ((great s).map .str)∧Gs.get e 12=int er∧Gs.get e 13=rfz true rl∧Gs.get e 14=int i∧hget H 5=some (.box s.cells false))
   (fun u X e' H'=>X = .ex 0∧Gs.get e' 1 = .str goal∧Gs.get e' 2=strs fr∧Gs.get e' 3=rfz false l∧Gs.get e' 4=strs o∧Gs.get e' 5 = .ptr 5 0∧H'=[(5,.box s.cells false)]) ?_ ?_ () e H ⟨h1,h2,h3,h4,h5,h11,h12,h13,h14,H5⟩).mono fun X e' H' h=>h
 · rintro i x u e H hx hi ⟨h1,h2,h3,h4,h5,h11,h12,h13,h14,H5⟩
   have hx':(rl.map rfD)[i]?=some (.agg [.str x.1,int x.2.1,.str x.2.2]):=by simp [hx]
   obtain ⟨he,hp⟩:=hpr x (List.mem_of_getElem? hx)
   subst he
   have f1:=e_proves s hF true true x.1 (great s) hgl rl hrl
   rw [hp] at f1
   simp only [↓eA,eB,seval,l8010,h1,h2,h3,h4,h5,h11,h12,h13,h14,H5,hi,hx',f1,List.length_map,wrap_succ (show i < 4611686018427387904 by omega)]
   and_intros<;>first | trivial | rfl
 · rintro u e H ⟨h1,h2,h3,h4,h5,h11,h12,h13,h14,H5⟩
   simp only [↓eA,eB,seval,l8010,h1,h2,h3,h4,h5,h11,h12,h13,h14,H5,List.length_map,Nat.lt_irrefl]
   and_intros<;>first | trivial | rfl
theorem lp_ref2 (s:Site)(goal:ByteArray)(o:List ByteArray)(ho:o.length < 1000000)(n:Nat)(hn:n≤o.length)(er:Int)(her:n=0∨er=0)(hno:∀ (i:Nat) (x:ByteArray),i < n→o[i]?=some x→seq x goal=false)(e:Env)(H:Heap)(h1:Gs.get e 1 = .str goal)(h4:Gs.get e 4=strs o)(h5:Gs.get e 5 = .ptr 5 0)(h15:Gs.get e 15=int n)(h16:Gs.get e 16=int er)(h17:Gs.get e 17=int 0)(H5:hget H 5=some (.box s.cells false)) :
   Ends T 8018 e H (fun X e' H'=>X = .ex 2∧Gs.get e' 1 = .str goal∧Gs.get e' 5 = .ptr 5 0∧H'=[(5,.box s.cells false)]):=by
 refine (loop_upto (T:=T) (key:=8018) (li:=l8018.1) rfl (S:=Unit) (R:=Empty) (fun _ _=>.inr ()) n
   (fun i _ e H=>(Gs.get e 1 = .str goal∧Gs.get e 4=strs o∧Gs.get e 5 = .ptr 5 0∧Gs.get e 15=int n∧Gs.get e 16=int er∧Gs.get e 17=int i∧hget H 5=some (.box s.cells false))∧i≤n) (fun _ X e' H'=>False) (fun _ X e' H'=>X = .ex 2∧Gs.get e' 1 = .str goal∧Gs.get e' 5 = .ptr 5 0∧H'=[(5,.box s.cells false)]) ?_ ?_ ?_ n 0 () e H rfl ⟨⟨h1,h4,h5,h15,h16,h17,H5⟩,Nat.zero_le _⟩).mono fun X e' H' h=>?_
 · rintro i _ _ e H hi ⟨⟨h1,h4,h5,h15,h16,h17,H5⟩,_⟩ hf
   have hio:i < o.length:=by omega
   have hx:o[i]?=some o[i]:=List.getElem?_eq_getElem hio
   have hx':(o.map D.str)[i]?=some (.str o[i]):=by simp [hx]
   have hne:=hno i _ hi hx
   have he:er=0:=by omega
   subst he
   simp only [↓eA,eB,seval,l8018,h1,h4,h5,h15,h16,h17,H5,hi,hio,hx',hne,List.length_map,get_wipeB,wrap_succ (show i < 4611686018427387904 by omega)]
   exact ⟨trivial,⟨by first | trivial | rfl | simp only [↓eA,eB,seval],by first | trivial | rfl | simp only [↓eA,eB,seval],by first | trivial | rfl | simp only [↓eA,eB,seval],by first | trivial | rfl | simp only [↓eA,eB,seval],by first | trivial | rfl | simp only [↓eA,eB,seval],by first | trivial | rfl | simp only [↓eA,eB,seval],by first | trivial | rfl⟩,by omega⟩
 · rintro i _ r; exact r.elim
 · rintro i _ e H hi ⟨⟨h1,h4,h5,h15,h16,h17,H5⟩,hi2⟩
   have:i=n:=by omega
   subst this
   simp only [↓eA,eB,seval,l8018,h1,h4,h5,h15,h16,h17,H5,Nat.lt_irrefl,get_wipeB]
   and_intros<;>first | trivial | rfl
 · cases hu:upto (S:=Unit) (R:=Empty) (fun _ _=>.inr ()) n 0 () with
   | inl r=>exact r.elim
   | inr s=>rw [hu] at h; exact h
theorem e_xrefuted (s:Site)(goal:ByteArray)(fr:List ByteArray)(l:List Rf)(o:List ByteArray):L.call 8 [s.enc,.str goal,strs fr,rfz false l,strs o] []=some (.bool true,[]):=by
 obtain ⟨v,e1,hv⟩:=small21 s false o
 obtain ⟨w,e2,hw⟩:=small21 s false fr
 cases v with
 | false=>exact call_eq rfl rfl (by simp only [↓eA,eB,seval,c8,aw21,e1])
 | true=>
 cases w with
 | false=>exact call_eq rfl rfl (by simp only [↓eA,eB,seval,c8,aw21,e1,e2])
 | true=>
 obtain ⟨hF,ho,hb,_⟩:=hv rfl
 obtain ⟨_,hfr,_⟩:=hw rfl
 cases g1:decide (16 < (fr.length:Int)) with
 | true=>exact call_eq rfl rfl (by simp only [↓eA,eB,seval,c8,aw21,e1,e2,g1,List.length_map])
 | false=>
 cases g2:decide (16 < (l.length:Int)) with
 | true=>exact call_eq rfl rfl (by simp only [↓eA,eB,seval,c8,aw21,e1,e2,g1,g2,List.length_map])
 | false=>
 cases g3:decide (100 < (goal.size:Int)) with
 | true=>exact call_eq rfl rfl (by simp only [↓eA,eB,seval,c8,aw21,e1,e2,g1,g2,g3,List.length_map])
 | false=>
 have hll:l.length < 1000000:=by have:=of_decide_eq_false g2; omega
 have f1:=e_xGreatest s hF
 cases hs:decide (siteErr s=0) with
 | false=>
   rw [hs] at f1
   simp only [cond_false,List.map_nil] at f1
   generalize siteErr s=er at hs f1
   exact call_eq rfl rfl (by simp only [↓eA,eB,seval,c8,aw21,e1,e2,g1,g2,g3,f1,hs,List.length_map,List.length_nil]<;>first | rfl | simp)
 | true=>
 have h0:=of_decide_eq_true hs
 have hok:=site_ok h0
 rw [hs,h0] at f1
 simp only [cond_true] at f1
 have hgl:=great_len h0 hF
 have hbl:=hF.bl
 have f2:=e_Refuse s hF
 have hrr:∀ x∈(refuseR s).1,(refuseR s).2=0∧provesB s x.1 (great s) (refuseR s).1=true:=by
   intro x hx
   unfold refuseR at hx ⊢
   rw [hs] at hx ⊢
   cases hr:(refL s (great s)).isEmpty with
   | true=>rw [hr] at hx; simp at hx
   | false=>
     rw [hr] at hx
     simp only [Bool.not_true,cond_false] at hx ⊢
     exact ⟨trivial,great_proves h0 hx⟩
 have hrl:(refuseR s).1.length < 1000000:=by
   have:=refL_len s (great s)
   unfold refuseR
   rw [hs]
   cases (refL s (great s)).isEmpty<;>simp<;>omega
 generalize refuseR s=rr at f2 hrr hrl
 obtain ⟨rl,er⟩:=rr
 simp only at f2 hrr hrl
 have f3:=e_ours false l hll
 have f4:=e_proves s hF false false goal fr (by omega) l hll
 have f5:=e_xCheck s hF false o (by omega)
 have f6:=e_xPlan s hF goal
 refine call_eq rfl rfl ?_
 simp only [↓eA,eB,seval,c8,aw21,e1,e2,g1,g2,g3,f1,f2,List.length_map]
 generalize hE:(lim T).loop 8010 _ _=R
 obtain ⟨X,e',H',rfl,rfl,q1,q2,q3,q4,q5,rfl⟩:=Ends.at hE (lp_ref1 s hF h0 goal fr l o rl hrl er (by omega) hrr _ _ (by simp only [↓eA,eB,seval]) (by simp only [↓eA,eB,seval]) (by simp only [↓eA,eB,seval]) (by simp only [↓eA,eB,seval]) (by simp only [↓eA,eB,seval]) (by simp only [↓eA,eB,seval]) (by simp only [↓eA,eB,seval]) (by simp only [↓eA,eB,seval]) (by simp only [↓eA,eB,seval]) rfl)
 cases hp:provesB s goal fr l with
 | false=>rw [hp] at f4; simp only [↓eA,eB,seval,q1,q2,q3,q4,q5,f3,f4]
 | true=>
 rw [hp] at f4
 obtain ⟨_,hkg,hng,hst⟩:=proves_stuck hp
 have hcg:chkErr s [goal]=0:=by
   obtain ⟨b,hb1,hb2⟩:=hkg
   have hu:unknown s goal=false:=by
     unfold unknown
     rw [Bool.not_eq_false']
     exact List.any_eq_true.2 ⟨b,hb1,by unfold called; rw [hb2]; exact seq_refl _⟩
   unfold chkErr
   rw [hs,show decide (256 < (([goal]:List ByteArray).length:Int))=false from rfl]
   simp only [Bool.not_true,cond_false,List.any_cons,List.any_nil,Bool.or_false,hu]
 have hgn:(great s).findIdx? (seq goal)=none:=by
   rw [List.findIdx?_eq_none_iff]
   intro x hx
   cases hq:seq goal x with
   | false=>rfl
   | true=>
     rw [←seq_iff.1 hq] at hx
     exact absurd (stuck_all hok hst (great s) [] (by simp) (great_ok h0).1 goal hx) hng
 unfold planR at f6
 rw [hcg,hgn] at f6
 simp only [decide_true,Bool.not_true,cond_false] at f6
 cases hc:decide (chkErr s o=0) with
 | false=>
   rw [hc] at f5
   simp only [cond_false] at f5
   generalize chkErr s o=ec at hc f5
   simp only [↓eA,eB,seval,q1,q2,q3,q4,q5,f3,f4,f5]
   generalize hE:(lim T).loop 8018 _ _=R
   obtain ⟨X,e2',H2',rfl,rfl,r1,r5,rfl⟩:=Ends.at hE (lp_ref2 s goal o (by omega) 0 (Nat.zero_le _) ec (.inl rfl) (fun i x hi=>absurd hi (Nat.not_lt_zero _)) _ _ (by simp only [↓eA,eB,seval,q1]) (by simp only [↓eA,eB,seval,q4]) (by simp only [↓eA,eB,seval,q5]) (by simp only [↓eA,eB,seval]) (by simp only [↓eA,eB,seval]) (by simp only [↓eA,eB,seval]) rfl)
   simp only [↓eA,eB,seval,r1,r5,f6]
 | true=>
   rw [hc] at f5
   rw [of_decide_eq_true hc] at f5
   simp only [cond_true] at f5
   have hfl:=(first_ge s o []).2
   rw [List.length_nil,Nat.zero_add] at hfl
   have hpo:possO s [] (o.take (firstF s [] o))=true:=by have:=first_take s o []; simpa using this
   have hno:∀ (i:Nat) (x:ByteArray),i < firstF s [] o→o[i]?=some x→seq x goal=false:=by
     intro i x hi hx
     cases hq:seq x goal with
     | false=>rfl
     | true=>
       have hm:x∈o.take (firstF s [] o):=List.mem_of_getElem? (i:=i) (by rw [List.getElem?_take_of_lt hi]; exact hx)
       rw [seq_iff.1 hq] at hm
       exact absurd (stuck_all hok hst _ [] (by simp) hpo goal hm) hng
   generalize firstF s [] o=n at f5 hfl hno
   simp only [↓eA,eB,seval,q1,q2,q3,q4,q5,f3,f4,f5]
   generalize hE:(lim T).loop 8018 _ _=R
   obtain ⟨X,e2',H2',rfl,rfl,r1,r5,rfl⟩:=Ends.at hE (lp_ref2 s goal o (by omega) n hfl 0 (.inr rfl) hno _ _ (by simp only [↓eA,eB,seval,q1]) (by simp only [↓eA,eB,seval,q4]) (by simp only [↓eA,eB,seval,q5]) (by simp only [↓eA,eB,seval]) (by simp only [↓eA,eB,seval]) (by simp only [↓eA,eB,seval]) rfl)
   simp only [↓eA,eB,seval,r1,r5,f6]
end Tz.C18
