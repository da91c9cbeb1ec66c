/- part S98; part S122; part S123; part S124; no conditions. -/
import Derived.Test.YtboigolndjinhaaGreatS97toS121
import Derived.Test.YtboigolndjinhaaGreatS0A
set_option linter.unusedVariables false
set_option linter.unusedSimpArgs false
set_option linter.unusedSectionVars false
set_option linter.defProp false
set_option linter.deprecated false
set_option maxRecDepth 100000
open Gs Go
namespace Tz.C18
def hP (s:Site)(tk:List ByteArray)(x:Block):Bool:=!taken tk x && (restL [under x.box] (tkB s tk)).isEmpty
theorem small18b (s:Site)(nz:Bool)(tk:List ByteArray):∃ v,L.call 41 [s.enc,.fz nz 1 (tk.map .str)] []=some (.bool v,[])∧(v=true→s.Fit∧tk.length≤20∧(s.blocks.length≤12∨256 < s.blocks.length)):=by
 obtain ⟨w,e1,hw⟩:=small17 s
 refine ⟨(w && (decide ((s.blocks.length:Int)≤12) || decide (256 < (s.blocks.length:Int)))) && decide ((tk.length:Int)≤20),call_eq rfl rfl (by simp only [↓eA,eB,seval,c41,e1,List.length_map]),fun h=>?_⟩
 simp only [Bool.and_eq_true,Bool.or_eq_true,decide_eq_true_eq] at h
 exact ⟨hw h.1.1,by omega,by omega⟩
theorem few12 {s:Site}(hok:SiteOk s)(h:s.blocks.length≤12∨256 < s.blocks.length):s.blocks.length≤12:=by
 have hm:=hok.many
 simp only [cMany,Bool.or_eq_false_iff,decide_eq_false_iff_not] at hm
 omega
end Tz.C18
set_option maxRecDepth 100000
open Gs Go
namespace Tz.C18
theorem aw21:L.call 11 [] []=some (.bool true,[]):=Aw.aw_run
def longN (n:ByteArray):Bool:=decide (100 < (n.size:Int))
theorem lp_sm21 (nz:Bool)(o:List ByteArray)(ho:o.length < 1000000)(e:Env)(H:Heap)(h1:Gs.get e 1=strz nz o)(h5:Gs.get e 5=int 0) :
   Ends T 12004 e H (fun X e' H'=>match o.any longN with | true=>X = .ret∧Gs.get e' 4 = .bool false | false=>X = .ex 0):=by
 refine (loop_anyH (T:=T) (key:=12004) (li:=l12004) rfl o longN (fun i e H=>Gs.get e 1=strz nz o∧Gs.get e 5=int i)
   (fun X e' H'=>X = .ret∧Gs.get e' 4 = .bool false) (fun X e' H'=>X = .ex 0) ?_ ?_ e H ⟨h1,h5⟩).mono fun X e' H' h=>by cases hf:o.any longN<;>rw [hf] at h<;>exact h
 · rintro i n e H hx hi ⟨h1,h5⟩
   have hx':(o.map D.str)[i]?=some (.str n):=by simp [hx]
   cases hp:longN n<;>unfold longN at hp<;>simp only [↓eA,eB,seval,l12004,h1,h5,hi,hx',hp,wrap_succ (show i < 4611686018427387904 by omega)]<;>and_intros<;>first | trivial | rfl
 · rintro e H ⟨h1,h5⟩
   simp only [↓eA,eB,seval,l12004,h1,h5,Nat.lt_irrefl]
   and_intros<;>first | trivial | rfl
theorem small21 (s:Site)(nz:Bool)(o:List ByteArray):∃ v,L.call 12 [s.enc,strz nz o] []=some (.bool v,[])∧(v=true→s.Fit∧o.length≤260∧(s.blocks.length≤12∨256 < s.blocks.length)∧(o.length≤16∨256 < o.length)):=by
 obtain ⟨w,e1,hw⟩:=small18b s true []
 have e1':L.call 41 [s.enc,.fz true 1 []] []=some (.bool w,[]):=e1
 cases hg:(!w || (decide (16 < (o.length:Int)) && decide ((o.length:Int)≤256))) || decide (260 < (o.length:Int)) with
 | true=>exact ⟨false,call_eq rfl rfl (by simp only [↓eA,eB,seval,c12,e1',hg,List.length_map]),fun h=>by cases h⟩
 | false=>
 have hg':=hg
 simp only [Bool.or_eq_false_iff,Bool.and_eq_false_iff,decide_eq_false_iff_not,Bool.not_eq_false'] at hg'
 obtain ⟨⟨g1,g2⟩,g3⟩:=hg'
 obtain ⟨hF,_,hb⟩:=hw g1
 refine ⟨!o.any longN,call_eq rfl rfl ?_,fun _=>⟨hF,by omega,hb,by omega⟩⟩
 simp only [↓eA,eB,seval,c12,e1',hg,List.length_map]
 generalize hE:(lim T).loop 12004 _ _=R
 obtain ⟨X,e',H',rfl,hp⟩:=Ends.at hE (lp_sm21 nz o (by omega) _ _ (by simp only [↓eA,eB,seval]) (by simp only [↓eA,eB,seval]))
 cases ha:o.any longN with
 | true=>rw [ha] at hp; obtain ⟨rfl,g2⟩:=hp; simp only [↓eA,eB,seval,g2]
 | false=>rw [ha] at hp; subst hp; simp only [↓eA,eB,seval]
theorem lp_rhas21 (nz:Bool)(l:List ByteArray)(hl:l.length < 1000000)(n:ByteArray)(e:Env)(H:Heap)(h0:Gs.get e 0 = .fz nz 1 (l.map .str))(h1:Gs.get e 1 = .str n)(h5:Gs.get e 5=int 0)(hH:H=[]) :
   Ends T 48002 e H (fun X e' H'=>match l.any (fun x=>seq x n) with | true=>X = .ret∧Gs.get e' 4 = .bool true | false=>X = .ex 0):=by
 refine (loop_anyH (T:=T) (key:=48002) (li:=l48002) rfl l (fun x=>seq x n) (fun i e H=>Gs.get e 0 = .fz nz 1 (l.map .str)∧Gs.get e 1 = .str n∧Gs.get e 5=int i∧H=[])
   (fun X e' H'=>X = .ret∧Gs.get e' 4 = .bool true) (fun X e' H'=>X = .ex 0) ?_ ?_ e H ⟨h0,h1,h5,hH⟩).mono fun X e' H' h=>by cases hf:l.any (fun x=>seq x n)<;>rw [hf] at h<;>exact h
 · rintro i x e H hx hi ⟨h0,h1,h5,rfl⟩
   have hx':(l.map D.str)[i]?=some (.str x):=by simp [hx]
   cases hp:seq x n<;>simp only [↓eA,eB,seval,l48002,h0,h1,h5,hi,hx',hp,wrap_succ (show i < 4611686018427387904 by omega)]<;>and_intros<;>first | trivial | rfl
 · rintro e H ⟨h0,h1,h5,rfl⟩
   simp only [↓eA,eB,seval,l48002,h0,h1,h5,Nat.lt_irrefl]
   and_intros<;>first | trivial | rfl
theorem e_rhas21 (nz:Bool)(l:List ByteArray)(hl:l.length < 1000000)(n:ByteArray):L.call 48 [.fz nz 1 (l.map .str),.str n] []=some (.bool (l.any (fun x=>seq x n)),[]):=
 call_eq rfl rfl (by
   simp only [↓eA,eB,seval,c48]
   generalize hE:(lim T).loop 48002 _ _=R
   obtain ⟨X,e',H',rfl,hp⟩:=Ends.at hE (lp_rhas21 nz l hl n _ _ (by simp only [↓eA,eB,seval]) (by simp only [↓eA,eB,seval]) (by simp only [↓eA,eB,seval]) rfl)
   cases hk:l.any (fun x=>seq x n) with
   | true=>rw [hk] at hp; obtain ⟨rfl,g2⟩:=hp; simp only [↓eA,eB,seval,g2]
   | false=>rw [hk] at hp; subst hp; simp only [↓eA,eB,seval])
theorem known_len {s:Site}{tk:List ByteArray}(h:startErr s tk=0):tk.length≤s.blocks.length:=by
 have:=nodup_le (start_nodup h) (m:=namesB s.blocks) fun n hn=>by
   obtain ⟨b,hb,rfl⟩:=start_known h n hn
   exact List.mem_map.2 ⟨b,hb,rfl⟩
 simpa using this
end Tz.C18
set_option maxRecDepth 100000
open Gs Go
namespace Tz.C18
theorem lp_sidx (nz:Bool)(l:List ByteArray)(hl:l.length < 1000000)(n:ByteArray)(e:Env)(H:Heap)(h0:Gs.get e 0=strz nz l)(h1:Gs.get e 1 = .str n)(h7:Gs.get e 7=int l.length)(h8:Gs.get e 8=int 0)(hH:H=[]) :
   Ends T 62002 e H (fun X e' H'=>match l.findIdx? (seq n) with | some j=>X = .ret∧Gs.get e' 4=int j | none=>X = .ex 0):=by
 refine (loop_thru (T:=T) (key:=62002) (li:=l62002) rfl (fun (i:Nat) x=>bif seq n x then .inl i else .inr (i + 1)) l
   (fun i t e H=>t=i∧Gs.get e 0=strz nz l∧Gs.get e 1 = .str n∧Gs.get e 7=int l.length∧Gs.get e 8=int i∧H=[])
   (fun i X e' H'=>X = .ret∧Gs.get e' 4=int i) (fun _ X e' H'=>X = .ex 0) ?_ ?_ ?_ l [] 0 e H rfl ⟨rfl,h0,h1,h7,h8,hH⟩).mono fun X e' H' h=>?_
 · rintro i x t t' e H hx ⟨rfl,h0,h1,h7,h8,rfl⟩ hf
   have hi:=(List.getElem?_eq_some_iff.1 hx).1
   have hx':(l.map D.str)[t]?=some (.str x):=by simp [hx]
   have hn:seq n x=false:=by cases hb:seq n x<;>simp_all
   rw [hn] at hf
   injection hf with hf; subst hf
   simp only [↓eA,eB,seval,l62002,h0,h1,h7,h8,hi,hx',hn,List.length_map,wrap_succ (show t < 4611686018427387904 by omega)]
   and_intros<;>first | trivial | rfl
 · rintro i x t r e H hx ⟨rfl,h0,h1,h7,h8,rfl⟩ hf
   have hi:=(List.getElem?_eq_some_iff.1 hx).1
   have hx':(l.map D.str)[t]?=some (.str x):=by simp [hx]
   have hn:seq n x=true:=by cases hb:seq n x<;>simp_all
   rw [hn] at hf
   injection hf with hf; subst hf
   simp only [↓eA,eB,seval,l62002,h0,h1,h7,h8,hi,hx',hn,List.length_map]
   and_intros<;>first | trivial | rfl
 · rintro t e H ⟨rfl,h0,h1,h7,h8,rfl⟩
   simp only [↓eA,eB,seval,l62002,h0,h1,h7,h8,Nat.lt_irrefl]
   and_intros<;>first | trivial | rfl
 · rw [thru_idx] at h
   cases hd:l.findIdx? (seq n)<;>rw [hd] at h
   · exact h
   · simpa using h
theorem e_sidx (nz:Bool)(l:List ByteArray)(hl:l.length < 1000000)(n:ByteArray):L.call 62 [strz nz l,.str n] []=some (int (idxOf (seq n) l),[]):=
 call_eq rfl rfl (by
   simp only [↓eA,eB,seval,c62,List.length_map]
   generalize hE:(lim T).loop 62002 _ _=R
   obtain ⟨X,e',H',rfl,hp⟩:=Ends.at hE (lp_sidx nz l hl n _ _ (by simp only [↓eA,eB,seval]) (by simp only [↓eA,eB,seval]) (by simp only [↓eA,eB,seval]) (by simp only [↓eA,eB,seval]) rfl)
   unfold idxOf
   cases hf:l.findIdx? (seq n) with
   | some j=>rw [hf] at hp; obtain ⟨rfl,g4⟩:=hp; simp only [↓eA,eB,seval,g4]
   | none=>rw [hf] at hp; subst hp; simp only [↓eA,eB,seval])
theorem e_scon (nz:Bool)(l:List ByteArray)(hl:l.length < 1000000)(n:ByteArray):L.call 80 [strz nz l,.str n] []=some (.bool (l.any (seq n)),[]):=
 call_eq rfl rfl (by simp only [↓eA,eB,seval,c80,e_sidx nz l hl n,idxOf_ge])
abbrev Rf:=ByteArray×Int×ByteArray
abbrev rfD (r:Rf):D:=.agg [.str r.1,int r.2.1,.str r.2.2]
def refL (s:Site)(tk:List ByteArray):List Rf:=(s.blocks.filter fun b=>!taken tk b).map fun b=>(b.name,(whyB s tk b).1,(whyB s tk b).2)
abbrev rfz (nz:Bool)(l:List Rf):D:=.fz nz 3 (l.map rfD)
theorem lp_refuse {s:Site}(hF:s.Fit)(nz:Bool)(tk:List ByteArray)(ht:tk.length < 1000000)(hst:startErr s tk=0)(e:Env)(H:Heap)(h1:Gs.get e 1=strz nz tk)(h2:Gs.get e 2 = .ptr 2 0)(h5:Gs.get e 5 = .ow 1005)(h11:Gs.get e 11=blks s.blocks)(h12:Gs.get e 12=int s.blocks.length)(h13:Gs.get e 13=int 0)(hH2:hget H 2=some (.box s.cells false))(hH:hget H 1005=some (.row true 3 [] 0 true)) :
   Ends T 43003 e H (fun X e' H'=>X = .ex 0∧Gs.get e' 5 = .ow 1005∧H'=[(2,.box s.cells false),(1005,.row true 3 ((refL s tk).map rfD) 0 true)]):=by
 have hbl:=hF.bl
 have hok:=site_ok (start_ok hst).1
 refine (loop_fold (T:=T) (key:=43003) (li:=l43003) rfl s.blocks (fun (a:List Rf) (b:Block)=>bif taken tk b then a else a ++ [(b.name,(whyB s tk b).1,(whyB s tk b).2)])
   (fun i a e H=>Gs.get e 1=strz nz tk∧Gs.get e 2 = .ptr 2 0∧Gs.get e 5 = .ow 1005∧Gs.get e 11=blks s.blocks∧Gs.get e 12=int s.blocks.length∧Gs.get e 13=int i∧hget H 2=some (.box s.cells false)∧hget H 1005=some (.row true 3 (a.map rfD) 0 true)∧a.length≤i)
   (fun a X e' H'=>X = .ex 0∧Gs.get e' 5 = .ow 1005∧H'=[(2,.box s.cells false),(1005,.row true 3 (a.map rfD) 0 true)]) ?_ ?_ [] e H ⟨h1,h2,h5,h11,h12,h13,hH2,hH,Nat.le_refl _⟩).mono ?_
 · rintro i b a e H hx hi ⟨h1,h2,h5,h11,h12,h13,hH2,hH,ha⟩
   have hx':(s.blocks.map Block.enc)[i]?=some b.enc:=by simp [hx]
   have hbm:=List.mem_of_getElem? hx
   have hfit:fits (a.length + (0 + 1)) 40=true:=fits_of (by omega)
   have hc:=e_scon nz tk ht b.name
   have hw:=e_Why_ok s hF nz tk ht b.name hst b (sorted_find (sorted_of hok.srt) hbm)
   cases hp:taken tk b with
   | true=>
     unfold taken at hp
     rw [hp] at hc
     simp only [↓eA,eB,seval,l43003,h1,h2,h5,h11,h12,h13,hH2,hH,hi,hx',hc,List.length_map,wrap_succ (show i < 4611686018427387904 by omega)]
     exact ⟨trivial,trivial,trivial,trivial,trivial,trivial,trivial,trivial,trivial,by omega⟩
   | false=>
     unfold taken at hp
     rw [hp] at hc
     simp only [↓eA,eB,seval,l43003,h1,h2,h5,h11,h12,h13,hH2,hH,hi,hx',hc,hw,hfit,List.length_map,wrap_succ (show i < 4611686018427387904 by omega)]
     refine ⟨trivial,trivial,trivial,trivial,trivial,trivial,trivial,trivial,?_,?_⟩
     · simp
     · simp; omega
 · rintro a e H ⟨h1,h2,h5,h11,h12,h13,hH2,hH,ha⟩
   simp only [↓eA,eB,seval,l43003,h1,h2,h5,h11,h12,h13,hH2,hH,Nat.lt_irrefl]
   and_intros<;>first | trivial | rfl
 · rintro X e' H' ⟨rfl,g5,rfl⟩
   refine ⟨rfl,g5,?_⟩
   have key:∀ (l:List Block) (a:List Rf),l.foldl (fun a b=>bif taken tk b then a else a ++ [(b.name,(whyB s tk b).1,(whyB s tk b).2)]) a=a ++ (l.filter fun b=>!taken tk b).map fun b=>(b.name,(whyB s tk b).1,(whyB s tk b).2):=by
     intro l
     induction l with
     | nil=>intro a; simp
     | cons b r ih=>
       intro a
       rw [List.foldl_cons,ih]
       cases hp:taken tk b<;>simp [hp]
   rw [key]; rfl
theorem e_refuse {s:Site}(hF:s.Fit)(nz:Bool)(tk:List ByteArray)(ht:tk.length < 1000000)(hst:startErr s tk=0):L.call 43 [s.enc,strz nz tk] []=some (rfz true (refL s tk),[]):=
 call_eq rfl rfl (by
   simp only [↓eA,eB,seval,c43,List.length_map]
   generalize hE:(lim T).loop 43003 _ _=R
   obtain ⟨X,e',H',rfl,rfl,g5,rfl⟩:=Ends.at hE (lp_refuse hF nz tk ht hst _ _ (by simp only [↓eA,eB,seval]) (by simp only [↓eA,eB,seval]) (by simp only [↓eA,eB,seval]) (by simp only [↓eA,eB,seval]) (by simp only [↓eA,eB,seval]) (by simp only [↓eA,eB,seval]) rfl rfl)
   simp only [↓eA,eB,seval,g5])
def refuseR (s:Site):List Rf×Int:=bif !decide (siteErr s=0) then ([],siteErr s) else bif (refL s (great s)).isEmpty then ([],9) else (refL s (great s),0)
theorem e_Refuse (s:Site)(hF:s.Fit):L.call 13 [s.enc] []=some (.tup [rfz true (refuseR s).1,int (refuseR s).2],[]):=by
 have h1:=e_siteCheck s hF
 unfold refuseR
 cases hs:decide (siteErr s=0) with
 | false=>
   generalize siteErr s=er at hs h1
   exact call_eq rfl rfl (by simp only [↓eA,eB,seval,c13,h1,hs]<;>rfl)
 | true=>
 have hs0:=of_decide_eq_true hs
 rw [hs0] at h1
 obtain ⟨_,g2,_⟩:=great_ok hs0
 have hlen:=known_len g2.st
 have hbl:=hF.bl
 have h2:=e_xgreatest hs0 hF
 have h3:=e_refuse hF true (great s) (by omega) g2.st
 cases hr:refL s (great s) with
 | nil=>rw [hr] at h3; exact call_eq rfl rfl (by simp only [↓eA,eB,seval,c13,h1,h2,h3,List.map_nil]<;>rfl)
 | cons a r=>
   rw [hr] at h3
   have hne:decide (((r.length + 1:Nat):Int)=0)=false:=decide_eq_false (by omega)
   exact call_eq rfl rfl (by simp only [↓eA,eB,seval,c13,h1,h2,h3,hne,List.length_map,List.isEmpty_cons]<;>rfl)
end Tz.C18
set_option maxRecDepth 100000
open Gs Go
namespace Tz.C18
theorem names_find (p:Block→Bool):∀ bs:List Block,(namesOf p bs)[0]?=(bs.find? p).map (·.name)
 | []=>rfl
 | b :: r=>by
   unfold namesOf
   rw [List.find?_cons,List.filter_cons]
   cases h:p b with
   | true=>rfl
   | false=>exact names_find p r
abbrev NR (s:Site)(tk:List ByteArray)(H:Heap):Prop:=hget H 1=some (.box s.cells false)∧∃ p,hget H 1003=some (.row false 1 (tk.map .str) p true)
theorem rstep_great {s:Site}(hok:SiteOk s)(hF:s.Fit)(h12:s.blocks.length≤12){tk:List ByteArray}(ht:tk.length < 1000000){b:Block}(hf:s.blocks.find? (possible s tk)=some b)(e:Env)(H:Heap)(h1:Gs.get e 1 = .ptr 1 0)(h3:Gs.get e 3 = .ow 1003)(hH:NR s tk H) :
   Good (round (lim T) l16002 e H) fun X e' H'=>isNor X=true∧(Gs.get e' 1 = .ptr 1 0∧Gs.get e' 3 = .ow 1003)∧NR s (tk ++ [b.name]) H':=by
 obtain ⟨n1,p,n2⟩:=hH
 have hfr:=e_rFrontier hok hF h12 false tk ht
 have hn:=names_find (possible s tk) s.blocks
 rw [hf] at hn
 have hln:=(List.getElem?_eq_some_iff.1 hn).1
 have hn':((namesOf (possible s tk) s.blocks).map D.str)[0]?=some (.str b.name):=by rw [List.getElem?_map,hn]; rfl
 have hne:decide (((namesOf (possible s tk) s.blocks).length:Int)=0)=false:=decide_eq_false (by omega)
 have hin:inb 0 (namesOf (possible s tk) s.blocks).length=true:=by simp [inb]; omega
 have hfit:fits (tk.length + 1) 16=true:=fits_of (by omega)
 have hmap:tk.map D.str ++ [D.str b.name]=(tk ++ [b.name]).map D.str:=by simp
 simp only [↓eA,eB,seval,l16002,h1,h3,n1,n2,hfr,hn',hne,hin,hfit,hmap,killE_nil,List.length_map]
 exact ⟨trivial,⟨trivial,trivial⟩,rfl,_,rfl⟩
theorem rend_great {s:Site}(hok:SiteOk s)(hF:s.Fit)(h12:s.blocks.length≤12){tk:List ByteArray}(ht:tk.length < 1000000)(hf:s.blocks.find? (possible s tk)=none)(e:Env)(H:Heap)(h1:Gs.get e 1 = .ptr 1 0)(h3:Gs.get e 3 = .ow 1003)(hH:NR s tk H) :
   Good (round (lim T) l16002 e H) fun X e' H'=>isNor X=false∧X = .ret∧Gs.get e' 2 = .fz false 1 (tk.map .str):=by
 obtain ⟨n1,p,n2⟩:=hH
 have hfr:=e_rFrontier hok hF h12 false tk ht
 have hnil:namesOf (possible s tk) s.blocks=[]:=by
   unfold namesOf
   rw [List.filter_eq_nil_iff.2 fun b hb=>List.find?_eq_none.1 hf b hb]; rfl
 rw [hnil] at hfr
 simp only [↓eA,eB,seval,l16002,h1,h3,n1,n2,hfr,killE_nil,List.length_map,List.map_nil,List.length_nil]
 first | exact ⟨trivial,trivial,trivial⟩ | exact ⟨trivial,trivial,rfl⟩
theorem rlp_great {s:Site}(hs:siteErr s=0)(hF:s.Fit)(h12:s.blocks.length≤12):∀ (k:Nat) (tk:List ByteArray),Inv s tk→leftN s tk≤k→tk.length + k < 1000000→∀ (e:Env) (H:Heap),Gs.get e 1 = .ptr 1 0→Gs.get e 3 = .ow 1003→NR s tk H→
   Ends T 16002 e H (fun X e' H'=>X = .ret∧Gs.get e' 2 = .fz false 1 ((greatF s k tk).map .str))
 | 0,tk,hI,hl,hk,e,H,h1,h3,hH=>by
   have hf:s.blocks.find? (possible s tk)=none:=List.find?_eq_none.2 fun b hb hp=>by have:=left_step hb hp; omega
   exact round_ends rfl (rend_great (site_ok hs) hF h12 (by omega) hf e H h1 h3 hH)
 | k + 1,tk,hI,hl,hk,e,H,h1,h3,hH=>by
   unfold greatF
   cases hf:s.blocks.find? (possible s tk) with
   | none=>exact round_ends rfl (rend_great (site_ok hs) hF h12 (by omega) hf e H h1 h3 hH)
   | some b=>
     have hb:=List.mem_of_find?_eq_some hf
     have hp:possible s tk b=true:=List.find?_some hf
     have:=left_step hb hp
     exact round_goes rfl (rstep_great (site_ok hs) hF h12 (by omega) hf e H h1 h3 hH) fun e' H' ⟨⟨g1,g2⟩,g3⟩=>rlp_great hs hF h12 k (tk ++ [b.name]) (inv_step hI hb hp) (by omega) (by simp; omega) e' H' g1 g2 g3
theorem e_rgreat {s:Site}(hs:siteErr s=0)(hF:s.Fit)(h12:s.blocks.length≤12):L.call 16 [s.enc] []=some (.fz false 1 ((great s).map .str),[]):=by
 have hst:startErr s []=0:=start_of hs List.nodup_nil (by simp)
 exact call_eq rfl rfl (by
   simp only [↓eA,eB,seval,c16]
   generalize hE:(lim T).loop 16002 _ _=R
   obtain ⟨X,e',H',rfl,rfl,g2⟩:=Ends.at hE (rlp_great hs hF h12 s.blocks.length [] (inv_nil hst) (List.length_filter_le _ _) (by simp; omega) _ _ (by simp only [↓eA,eB,seval]) (by simp only [↓eA,eB,seval]) ⟨rfl,_,rfl⟩)
   simp only [↓eA,eB,seval,g2]
   rfl)
theorem lp_rrefuse {s:Site}(hok:SiteOk s)(hF:s.Fit)(h12:s.blocks.length≤12)(nz:Bool)(tk:List ByteArray)(ht:tk.length < 1000000)(e:Env)(H:Heap)(h1:Gs.get e 1=strz nz tk)(h2:Gs.get e 2 = .ptr 2 0)(h5:Gs.get e 5 = .ow 1005)(h6:Gs.get e 6=int 0)(hH2:hget H 2=some (.box s.cells false))(hH:hget H 1005=some (.row false 3 [] 0 true)) :
   Ends T 15003 e H (fun X e' H'=>X = .ex 0∧Gs.get e' 5 = .ow 1005∧H'=[(2,.box s.cells false),(1005,.row false 3 ((refL s tk).map rfD) 0 true)]):=by
 have hbl:=hF.bl
 refine (loop_fold (T:=T) (key:=15003) (li:=l15003) rfl s.blocks (fun (a:List Rf) (b:Block)=>bif taken tk b then a else a ++ [(b.name,(whyB s tk b).1,(whyB s tk b).2)])
   (fun i a e H=>Gs.get e 1=strz nz tk∧Gs.get e 2 = .ptr 2 0∧Gs.get e 5 = .ow 1005∧Gs.get e 6=int i∧hget H 2=some (.box s.cells false)∧hget H 1005=some (.row false 3 (a.map rfD) 0 true)∧a.length≤i)
   (fun a X e' H'=>X = .ex 0∧Gs.get e' 5 = .ow 1005∧H'=[(2,.box s.cells false),(1005,.row false 3 (a.map rfD) 0 true)]) ?_ ?_ [] e H ⟨h1,h2,h5,h6,hH2,hH,Nat.le_refl _⟩).mono ?_
 · rintro i b a e H hx hi ⟨h1,h2,h5,h6,hH2,hH,ha⟩
   have hx':(s.blocks.map Block.enc)[i]?=some b.enc:=by simp [hx]
   have hbm:=List.mem_of_getElem? hx
   have hfit:fits (a.length + (0 + 1)) 40=true:=fits_of (by omega)
   have hc:=e_rhas21 nz tk ht b.name
   rw [←seq_any] at hc
   have hw:=e_rWhy hok hF h12 nz tk ht hbm
   cases hp:taken tk b with
   | true=>
     unfold taken at hp
     rw [hp] at hc
     simp only [↓eA,eB,seval,l15003,h1,h2,h5,h6,hH2,hH,hi,hx',hc,List.length_map,wrap_succ (show i < 4611686018427387904 by omega)]
     exact ⟨trivial,trivial,trivial,trivial,trivial,trivial,trivial,by omega⟩
   | false=>
     unfold taken at hp
     rw [hp] at hc
     simp only [↓eA,eB,seval,l15003,h1,h2,h5,h6,hH2,hH,hi,hx',hc,hw,hfit,List.length_map,wrap_succ (show i < 4611686018427387904 by omega)]
     refine ⟨trivial,trivial,trivial,trivial,trivial,trivial,?_,?_⟩
     · simp
     · simp; omega
 · rintro a e H ⟨h1,h2,h5,h6,hH2,hH,ha⟩
   simp only [↓eA,eB,seval,l15003,h1,h2,h5,h6,hH2,hH,Nat.lt_irrefl]
   and_intros<;>first | trivial | rfl
 · rintro X e' H' ⟨rfl,g5,rfl⟩
   refine ⟨rfl,g5,?_⟩
   have key:∀ (l:List Block) (a:List Rf),l.foldl (fun a b=>bif taken tk b then a else a ++ [(b.name,(whyB s tk b).1,(whyB s tk b).2)]) a=a ++ (l.filter fun b=>!taken tk b).map fun b=>(b.name,(whyB s tk b).1,(whyB s tk b).2):=by
     intro l
     induction l with
     | nil=>intro a; simp
     | cons b r ih=>
       intro a
       rw [List.foldl_cons,ih]
       cases hp:taken tk b<;>simp [hp]
   rw [key]; rfl
theorem e_rrefuse {s:Site}(hok:SiteOk s)(hF:s.Fit)(h12:s.blocks.length≤12)(nz:Bool)(tk:List ByteArray)(ht:tk.length < 1000000):L.call 15 [s.enc,strz nz tk] []=some (rfz false (refL s tk),[]):=
 call_eq rfl rfl (by
   simp only [↓eA,eB,seval,c15,List.length_map]
   generalize hE:(lim T).loop 15003 _ _=R
   obtain ⟨X,e',H',rfl,rfl,g5,rfl⟩:=Ends.at hE (lp_rrefuse hok hF h12 nz tk ht _ _ (by simp only [↓eA,eB,seval]) (by simp only [↓eA,eB,seval]) (by simp only [↓eA,eB,seval]) (by simp only [↓eA,eB,seval]) rfl rfl)
   simp only [↓eA,eB,seval,g5])
theorem lp_rsame21 (n1 n2:Bool)(l:List Rf)(hl:l.length < 1000000)(e:Env)(H:Heap)(h0:Gs.get e 0=rfz n1 l)(h1:Gs.get e 1=rfz n2 l)(h5:Gs.get e 5=int 0)(hH:H=[]) :
   Ends T 17004 e H (fun X e' H'=>X = .ex 0):=by
 refine (loop_fold (T:=T) (key:=17004) (li:=l17004) rfl l (fun (a:Unit) (_:Rf)=>a)
   (fun i _ e H=>Gs.get e 0=rfz n1 l∧Gs.get e 1=rfz n2 l∧Gs.get e 5=int i∧H=[]) (fun _ X e' H'=>X = .ex 0) ?_ ?_ () e H ⟨h0,h1,h5,hH⟩).mono fun X e' H' h=>h
 · rintro i x _ e H hx hi ⟨h0,h1,h5,rfl⟩
   have hx':(l.map rfD)[i]?=some (.agg [.str x.1,int x.2.1,.str x.2.2]):=by simp [hx]
   simp only [↓eA,eB,seval,l17004,h0,h1,h5,hi,hx',seq_refl,List.length_map,wrap_succ (show i < 4611686018427387904 by omega)]
   and_intros<;>first | trivial | rfl
 · rintro _ e H ⟨h0,h1,h5,rfl⟩
   simp only [↓eA,eB,seval,l17004,h0,h1,h5,List.length_map,Nat.lt_irrefl]
   and_intros<;>first | trivial | rfl
theorem e_rsame21 (n1 n2:Bool)(l:List Rf)(hl:l.length < 1000000):L.call 17 [rfz n1 l,rfz n2 l] []=some (.bool true,[]):=
 call_eq rfl rfl (by
   simp only [↓eA,eB,seval,c17,List.length_map]
   generalize hE:(lim T).loop 17004 _ _=R
   obtain ⟨X,e',H',rfl,rfl⟩:=Ends.at hE (lp_rsame21 n1 n2 l hl _ _ (by simp only [↓eA,eB,seval]) (by simp only [↓eA,eB,seval]) (by simp only [↓eA,eB,seval]) rfl)
   simp only [↓eA,eB,seval])
theorem lp_theirs (nz:Bool)(l:List Rf)(hl:l.length < 1000000)(e:Env)(H:Heap)(h0:Gs.get e 0=rfz nz l)(h3:Gs.get e 3 = .ow 1003)(h4:Gs.get e 4=int 0)(hH:hget H 1003=some (.row false 3 [] 0 true)) :
   Ends T 18003 e H (fun X e' H'=>X = .ex 0∧Gs.get e' 3 = .ow 1003∧H'=[(1003,.row false 3 (l.map rfD) 0 true)]):=by
 refine (loop_fold (T:=T) (key:=18003) (li:=l18003) rfl l (fun (a:List Rf) (x:Rf)=>a ++ [x])
   (fun i a e H=>Gs.get e 0=rfz nz l∧Gs.get e 3 = .ow 1003∧Gs.get e 4=int i∧hget H 1003=some (.row false 3 (a.map rfD) 0 true)∧a.length=i)
   (fun a X e' H'=>X = .ex 0∧Gs.get e' 3 = .ow 1003∧H'=[(1003,.row false 3 (a.map rfD) 0 true)]) ?_ ?_ [] e H ⟨h0,h3,h4,hH,rfl⟩).mono ?_
 · rintro i x a e H hx hi ⟨h0,h3,h4,hH,ha⟩
   have hx':(l.map rfD)[i]?=some (.agg [.str x.1,int x.2.1,.str x.2.2]):=by simp [hx]
   have hfit:fits (a.length + (0 + 1)) 40=true:=fits_of (by omega)
   simp only [↓eA,eB,seval,l18003,h0,h3,h4,hH,hi,hx',hfit,List.length_map,wrap_succ (show i < 4611686018427387904 by omega)]
   refine ⟨trivial,trivial,trivial,trivial,?_,?_⟩
   · simp
   · simp; omega
 · rintro a e H ⟨h0,h3,h4,hH,ha⟩
   simp only [↓eA,eB,seval,l18003,h0,h3,h4,hH,List.length_map,Nat.lt_irrefl]
   and_intros<;>first | trivial | rfl
 · rintro X e' H' ⟨rfl,g3,rfl⟩
   refine ⟨rfl,g3,?_⟩
   have key:∀ (l a:List Rf),l.foldl (fun a x=>a ++ [x]) a=a ++ l:=by
     intro l
     induction l with
     | nil=>intro a; simp
     | cons b r ih=>intro a; rw [List.foldl_cons,ih]; simp
   rw [key]; rfl
theorem e_theirs (nz:Bool)(l:List Rf)(hl:l.length < 1000000):L.call 18 [rfz nz l] []=some (rfz false l,[]):=
 call_eq rfl rfl (by
   simp only [↓eA,eB,seval,c18,List.length_map]
   generalize hE:(lim T).loop 18003 _ _=R
   obtain ⟨X,e',H',rfl,rfl,g3,rfl⟩:=Ends.at hE (lp_theirs nz l hl _ _ (by simp only [↓eA,eB,seval]) (by simp only [↓eA,eB,seval]) (by simp only [↓eA,eB,seval]) rfl)
   simp only [↓eA,eB,seval,g3])
theorem refL_len (s:Site)(tk:List ByteArray):(refL s tk).length≤s.blocks.length:=by
 unfold refL
 rw [List.length_map]
 exact List.length_filter_le _ _
theorem e_refuses (s:Site):L.call 3 [s.enc] []=some (.bool true,[]):=by
 obtain ⟨v,e1,hv⟩:=small21 s true []
 have e1':L.call 12 [s.enc,.fz true 1 []] []=some (.bool v,[]):=e1
 cases v with
 | false=>exact call_eq rfl rfl (by simp only [↓eA,eB,seval,c3,aw21,e1'])
 | true=>
 obtain ⟨hF,_,hb,_⟩:=hv rfl
 have hbl:=hF.bl
 have f1:=e_Refuse s hF
 have f2:=e_rSite s hF
 rw [site_eq] at f2
 cases hs:decide (siteErr s=0) with
 | false=>
   have hr:refuseR s=([],siteErr s):=by unfold refuseR; rw [hs]; rfl
   rw [hr] at f1
   generalize siteErr s=er at hs f1 f2
   exact call_eq rfl rfl (by simp only [↓eA,eB,seval,c3,aw21,e1',f1,f2,hs,List.map_nil]<;>rfl)
 | true=>
 have hs0:=of_decide_eq_true hs
 have hok:=site_ok hs0
 have h12:=few12 hok hb
 rw [hs0] at f2
 obtain ⟨_,g2,_⟩:=great_ok hs0
 have hlen:=known_len g2.st
 have f3:=e_rgreat hs0 hF h12
 have f4:=e_rrefuse hok hF h12 false (great s) (by omega)
 have hrl:=refL_len s (great s)
 cases hr:refL s (great s) with
 | nil=>
   have hR:refuseR s=([],9):=by unfold refuseR; rw [hs,hr]; rfl
   rw [hR] at f1
   rw [hr] at f4
   exact call_eq rfl rfl (by simp only [↓eA,eB,seval,c3,aw21,e1',f1,f2,f3,f4,List.map_nil,List.length_nil]<;>rfl)
 | cons a r=>
   have hR:refuseR s=(refL s (great s),0):=by unfold refuseR; rw [hs,hr]; rfl
   rw [hR] at f1
   have f5:=e_theirs true (refL s (great s)) (by omega)
   have f6:=e_rsame21 false false (refL s (great s)) (by omega)
   have hne:decide (((refL s (great s)).length:Int)=0)=false:=decide_eq_false (by rw [hr]; simp only [List.length_cons]; omega)
   exact call_eq rfl rfl (by simp only [↓eA,eB,seval,c3,aw21,e1',f1,f2,f3,f4,f5,f6,hne,List.length_map]<;>rfl)
end Tz.C18
