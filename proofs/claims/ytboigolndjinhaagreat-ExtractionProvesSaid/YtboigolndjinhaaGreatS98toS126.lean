/- part S98; part S122; part S123; part S124; part S125; part S126; no conditions. -/
import Derived.Test.YtboigolndjinhaaGreatS97toS121
import Derived.Test.YtboigolndjinhaaGreatS0A
set_option linter.all false
set_option maxRecDepth 100000
open Gs Go
namespace Tz.C18
def hP (s:Site)(tk:List ByteArray)(x:Block):Bool:=!taken tk x && (restL [under x.box] (tkB s tk)).isEmpty
theorem small18b (s:Site)(nz:Bool)(tk:List ByteArray):∃ v,L.call 41 [s.enc,.fz nz 1 (tk.map .str)] []=some (.bool v,[])∧(v=true→s.Fit∧tk.length≤20∧(s.blocks.length≤12∨256 < s.blocks.length)):=by
 obtain ⟨w,e1,hw⟩:=small17 s
 refine ⟨(w && (decide ((s.blocks.length:Int)≤12) || decide (256 < (s.blocks.length:Int)))) && decide ((tk.length:Int)≤20),call_eq rfl rfl (by simp only [↓eA,eB,seval,c41,e1,List.length_map]),fun h=>?_⟩
 simp only [Bool.and_eq_true,Bool.or_eq_true,decide_eq_true_eq] at h
 exact ⟨hw h.1.1,by omega,by omega⟩
theorem few12 {s:Site}(hok:SiteOk s)(h:s.blocks.length≤12∨256 < s.blocks.length):s.blocks.length≤12:=by
 have hm:=hok.many
 simp only [cMany,Bool.or_eq_false_iff,decide_eq_false_iff_not] at hm
 omega
end Tz.C18
set_option maxRecDepth 100000
open Gs Go
namespace Tz.C18
theorem aw21:L.call 11 [] []=some (.bool true,[]):=Aw.aw_run
def longN (n:ByteArray):Bool:=decide (100 < (n.size:Int))
theorem lp_sm21 (nz:Bool)(o:List ByteArray)(ho:o.length < 1000000)(e:Env)(H:Heap)(h1:Gs.get e 1=strz nz o)(h5:Gs.get e 5=int 0) :
   Ends T 12004 e H (fun X e' H'=>match o.any longN with | true=>X = .ret∧Gs.get e' 4 = .bool false | false=>X = .ex 0):=by
 refine (loop_anyH (T:=T) (key:=12004) (li:=l12004.1) rfl o longN (fun i e H=>Gs.get e 1=strz nz o∧Gs.get e 5=int i)
   (fun X e' H'=>X = .ret∧Gs.get e' 4 = .bool false) (fun X e' H'=>X = .ex 0) ?_ ?_ e H ⟨h1,h5⟩).mono fun X e' H' h=>by cases hf:o.any longN<;>rw [hf] at h<;>exact h
 · rintro i n e H hx hi ⟨h1,h5⟩
   have hx':(o.map D.str)[i]?=some (.str n):=by simp [hx]
   cases hp:longN n<;>unfold longN at hp<;>simp only [↓eA,eB,seval,l12004,h1,h5,hi,hx',hp,wrap_succ (show i < 4611686018427387904 by omega)]<;>and_intros<;>first | trivial | rfl
 · rintro e H ⟨h1,h5⟩
   simp only [↓eA,eB,seval,l12004,h1,h5,Nat.lt_irrefl]
   and_intros<;>first | trivial | rfl
theorem small21 (s:Site)(nz:Bool)(o:List ByteArray):∃ v,L.call 12 [s.enc,strz nz o] []=some (.bool v,[])∧(v=true→s.Fit∧o.length≤260∧(s.blocks.length≤12∨256 < s.blocks.length)∧(o.length≤16∨256 < o.length)):=by
 obtain ⟨w,e1,hw⟩:=small18b s true []
 have e1':L.call 41 [s.enc,.fz true 1 []] []=some (.bool w,[]):=e1
 cases hg:(!w || (decide (16 < (o.length:Int)) && decide ((o.length:Int)≤256))) || decide (260 < (o.length:Int)) with
 | true=>exact ⟨false,call_eq rfl rfl (by simp only [↓eA,eB,seval,c12,e1',hg,List.length_map]),fun h=>by cases h⟩
 | false=>
 have hg':=hg
 simp only [Bool.or_eq_false_iff,Bool.and_eq_false_iff,decide_eq_false_iff_not,Bool.not_eq_false'] at hg'
 obtain ⟨⟨g1,g2⟩,g3⟩:=hg'
 obtain ⟨hF,_,hb⟩:=hw g1
 refine ⟨!o.any longN,call_eq rfl rfl ?_,fun _=>⟨hF,by omega,hb,by omega⟩⟩
 simp only [↓eA,eB,seval,c12,e1',hg,List.length_map]
 generalize hE:(lim T).loop 12004 _ _=R
 obtain ⟨X,e',H',rfl,hp⟩:=Ends.at hE (lp_sm21 nz o (by omega) _ _ (by simp only [↓eA,eB,seval]) (by simp only [↓eA,eB,seval]))
 cases ha:o.any longN with
 | true=>rw [ha] at hp; obtain ⟨rfl,g2⟩:=hp; simp only [↓eA,eB,seval,g2]
 | false=>rw [ha] at hp; subst hp; simp only [↓eA,eB,seval]
theorem lp_rhas21 (nz:Bool)(l:List ByteArray)(hl:l.length < 1000000)(n:ByteArray)(e:Env)(H:Heap)(h0:Gs.get e 0 = .fz nz 1 (l.map .str))(h1:Gs.get e 1 = .str n)(h5:Gs.get e 5=int 0)(hH:H=[]) :
   Ends T 48002 e H (fun X e' H'=>match l.any (fun x=>seq x n) with | true=>X = .ret∧Gs.get e' 4 = .bool true | false=>X = .ex 0):=by
 refine (loop_anyH (T:=T) (key:=48002) (li:=l48002.1) rfl l (fun x=>seq x n) (fun i e H=>Gs.get e 0 = .fz nz 1 (l.map .str)∧Gs.get e 1 = .str n∧Gs.get e 5=int i∧H=[])
   (fun X e' H'=>X = .ret∧Gs.get e' 4 = .bool true) (fun X e' H'=>X = .ex 0) ?_ ?_ e H ⟨h0,h1,h5,hH⟩).mono fun X e' H' h=>by cases hf:l.any (fun x=>seq x n)<;>rw [hf] at h<;>exact h
 · rintro i x e H hx hi ⟨h0,h1,h5,rfl⟩
   have hx':(l.map D.str)[i]?=some (.str x):=by simp [hx]
   cases hp:seq x n<;>simp only [↓eA,eB,seval,l48002,h0,h1,h5,hi,hx',hp,wrap_succ (show i < 4611686018427387904 by omega)]<;>and_intros<;>first | trivial | rfl
 · rintro e H ⟨h0,h1,h5,rfl⟩
   simp only [↓eA,eB,seval,l48002,h0,h1,h5,Nat.lt_irrefl]
   and_intros<;>first | trivial | rfl
theorem e_rhas21 (nz:Bool)(l:List ByteArray)(hl:l.length < 1000000)(n:ByteArray):L.call 48 [.fz nz 1 (l.map .str),.str n] []=some (.bool (l.any (fun x=>seq x n)),[]):=
 call_eq rfl rfl (by
   simp only [↓eA,eB,seval,c48]
   generalize hE:(lim T).loop 48002 _ _=R
   obtain ⟨X,e',H',rfl,hp⟩:=Ends.at hE (lp_rhas21 nz l hl n _ _ (by simp only [↓eA,eB,seval]) (by simp only [↓eA,eB,seval]) (by simp only [↓eA,eB,seval]) rfl)
   cases hk:l.any (fun x=>seq x n) with
   | true=>rw [hk] at hp; obtain ⟨rfl,g2⟩:=hp; simp only [↓eA,eB,seval,g2]
   | false=>rw [hk] at hp; subst hp; simp only [↓eA,eB,seval])
theorem known_len {s:Site}{tk:List ByteArray}(h:startErr s tk=0):tk.length≤s.blocks.length:=by
 have:=nodup_le (start_nodup h) (m:=namesB s.blocks) fun n hn=>by
   obtain ⟨b,hb,rfl⟩:=start_known h n hn
   exact List.mem_map.2 ⟨b,hb,rfl⟩
 simpa using this
theorem chk_ok {s:Site}(hs:siteErr s=0){tk:List ByteArray}(h:startErr s tk=0):chkErr s tk=0:=by
 have hl:=known_len h
 have hm:=(site_ok hs).many
 simp only [cMany,Bool.or_eq_false_iff,decide_eq_false_iff_not] at hm
 unfold chkErr
 rw [decide_eq_true hs,(start_ok h).2.1,decide_eq_false (by omega)]; rfl
end Tz.C18
set_option maxRecDepth 100000
open Gs Go
namespace Tz.C18
theorem lp_sidx (nz:Bool)(l:List ByteArray)(hl:l.length < 1000000)(n:ByteArray)(e:Env)(H:Heap)(h0:Gs.get e 0=strz nz l)(h1:Gs.get e 1 = .str n)(h7:Gs.get e 7=int l.length)(h8:Gs.get e 8=int 0)(hH:H=[]) :
   Ends T 62002 e H (fun X e' H'=>match l.findIdx? (seq n) with | some j=>X = .ret∧Gs.get e' 4=int j | none=>X = .ex 0):=by
 refine (loop_thru (T:=T) (key:=62002) (li:=l62002.1) rfl (fun (i:Nat) x=>bif seq n x then .inl i else .inr (i + 1)) l
   (fun i t e H=>t=i∧Gs.get e 0=strz nz l∧Gs.get e 1 = .str n∧Gs.get e 7=int l.length∧Gs.get e 8=int i∧H=[])
   (fun i X e' H'=>X = .ret∧Gs.get e' 4=int i) (fun _ X e' H'=>X = .ex 0) ?_ ?_ ?_ l [] 0 e H rfl ⟨rfl,h0,h1,h7,h8,hH⟩).mono fun X e' H' h=>?_
 · rintro i x t t' e H hx ⟨rfl,h0,h1,h7,h8,rfl⟩ hf
   have hi:=(List.getElem?_eq_some_iff.1 hx).1
   have hx':(l.map D.str)[t]?=some (.str x):=by simp [hx]
   have hn:seq n x=false:=by cases hb:seq n x<;>simp_all
   rw [hn] at hf
   injection hf with hf; subst hf
   simp only [↓eA,eB,seval,l62002,h0,h1,h7,h8,hi,hx',hn,List.length_map,wrap_succ (show t < 4611686018427387904 by omega)]
   and_intros<;>first | trivial | rfl
 · rintro i x t r e H hx ⟨rfl,h0,h1,h7,h8,rfl⟩ hf
   have hi:=(List.getElem?_eq_some_iff.1 hx).1
   have hx':(l.map D.str)[t]?=some (.str x):=by simp [hx]
   have hn:seq n x=true:=by cases hb:seq n x<;>simp_all
   rw [hn] at hf
   injection hf with hf; subst hf
   simp only [↓eA,eB,seval,l62002,h0,h1,h7,h8,hi,hx',hn,List.length_map]
   and_intros<;>first | trivial | rfl
 · rintro t e H ⟨rfl,h0,h1,h7,h8,rfl⟩
   simp only [↓eA,eB,seval,l62002,h0,h1,h7,h8,Nat.lt_irrefl]
   and_intros<;>first | trivial | rfl
 · rw [thru_idx] at h
   cases hd:l.findIdx? (seq n)<;>rw [hd] at h
   · exact h
   · simpa using h
theorem e_sidx (nz:Bool)(l:List ByteArray)(hl:l.length < 1000000)(n:ByteArray):L.call 62 [strz nz l,.str n] []=some (int (idxOf (seq n) l),[]):=
 call_eq rfl rfl (by
   simp only [↓eA,eB,seval,c62,List.length_map]
   generalize hE:(lim T).loop 62002 _ _=R
   obtain ⟨X,e',H',rfl,hp⟩:=Ends.at hE (lp_sidx nz l hl n _ _ (by simp only [↓eA,eB,seval]) (by simp only [↓eA,eB,seval]) (by simp only [↓eA,eB,seval]) (by simp only [↓eA,eB,seval]) rfl)
   unfold idxOf
   cases hf:l.findIdx? (seq n) with
   | some j=>rw [hf] at hp; obtain ⟨rfl,g4⟩:=hp; simp only [↓eA,eB,seval,g4]
   | none=>rw [hf] at hp; subst hp; simp only [↓eA,eB,seval])
theorem e_scon (nz:Bool)(l:List ByteArray)(hl:l.length < 1000000)(n:ByteArray):L.call 80 [strz nz l,.str n] []=some (.bool (l.any (seq n)),[]):=
 call_eq rfl rfl (by simp only [↓eA,eB,seval,c80,e_sidx nz l hl n,idxOf_ge])
abbrev Rf:=ByteArray×Int×ByteArray
abbrev rfD (r:Rf):D:=.agg [.str r.1,int r.2.1,.str r.2.2]
def refL (s:Site)(tk:List ByteArray):List Rf:=(s.blocks.filter fun b=>!taken tk b).map fun b=>(b.name,(whyB s tk b).1,(whyB s tk b).2)
abbrev rfz (nz:Bool)(l:List Rf):D:=.fz nz 3 (l.map rfD)
theorem lp_refuse {s:Site}(hF:s.Fit)(nz:Bool)(tk:List ByteArray)(ht:tk.length < 1000000)(hst:startErr s tk=0)(e:Env)(H:Heap)(h1:Gs.get e 1=strz nz tk)(h2:Gs.get e 2 = .ptr 2 0)(h5:Gs.get e 5 = .ow 1005)(h11:Gs.get e 11=blks s.blocks)(h12:Gs.get e 12=int s.blocks.length)(h13:Gs.get e 13=int 0)(hH2:hget H 2=some (.box s.cells false))(hH:hget H 1005=some (.row true 3 [] 0 true)) :
   Ends T 43003 e H (fun X e' H'=>X = .ex 0∧Gs.get e' 5 = .ow 1005∧H'=[(2,.box s.cells false),(1005,.row true 3 ((refL s tk).map rfD) 0 true)]):=by
 have hbl:=hF.bl
 have hok:=site_ok (start_ok hst).1
 refine (loop_fold (T:=T) (key:=43003) (li:=l43003.1) rfl s.blocks (fun (a:List Rf) (b:Block)=>bif taken tk b then a else a ++ [(b.name,(whyB s tk b).1,(whyB s tk b).2)])
   (fun i a e H=>Gs.get e 1=strz nz tk∧Gs.get e 2 = .ptr 2 0∧Gs.get e 5 = .ow 1005∧Gs.get e 11=blks s.blocks∧Gs.get e 12=int s.blocks.length∧Gs.get e 13=int i∧hget H 2=some (.box s.cells false)∧hget H 1005=some (.row true 3 (a.map rfD) 0 true)∧a.length≤i)
   (fun a X e' H'=>X = .ex 0∧Gs.get e' 5 = .ow 1005∧H'=[(2,.box s.cells false),(1005,.row true 3 (a.map rfD) 0 true)]) ?_ ?_ [] e H ⟨h1,h2,h5,h11,h12,h13,hH2,hH,Nat.le_refl _⟩).mono ?_
 · rintro i b a e H hx hi ⟨h1,h2,h5,h11,h12,h13,hH2,hH,ha⟩
   have hx':(s.blocks.map Block.enc)[i]?=some b.enc:=by simp [hx]
   have hbm:=List.mem_of_getElem? hx
   have hfit:fits (a.length + (0 + 1)) 40=true:=fits_of (by omega)
   have hc:=e_scon nz tk ht b.name
   have hw:=e_Why_ok s hF nz tk ht b.name hst b (sorted_find (sorted_of hok.srt) hbm)
   cases hp:taken tk b with
   | true=>
     unfold taken at hp
     rw [hp] at hc
     simp only [↓eA,eB,seval,l43003,h1,h2,h5,h11,h12,h13,hH2,hH,hi,hx',hc,List.length_map,wrap_succ (show i < 4611686018427387904 by omega)]
     exact ⟨trivial,trivial,trivial,trivial,trivial,trivial,trivial,trivial,trivial,by omega⟩
   | false=>
     unfold taken at hp
     rw [hp] at hc
     simp only [↓eA,eB,seval,l43003,h1,h2,h5,h11,h12,h13,hH2,hH,hi,hx',hc,hw,hfit,List.length_map,wrap_succ (show i < 4611686018427387904 by omega)]
     refine ⟨trivial,trivial,trivial,trivial,trivial,trivial,trivial,trivial,?_,?_⟩
     · simp
     · simp; omega
 · rintro a e H ⟨h1,h2,h5,h11,h12,h13,hH2,hH,ha⟩
   simp only [↓eA,eB,seval,l43003,h1,h2,h5,h11,h12,h13,hH2,hH,Nat.lt_irrefl]
   and_intros<;>first | trivial | rfl
 · rintro X e' H' ⟨rfl,g5,rfl⟩
   refine ⟨rfl,g5,?_⟩
   have key:∀ (l:List Block) (a:List Rf),l.foldl (fun a b=>bif taken tk b then a else a ++ [(b.name,(whyB s tk b).1,(whyB s tk b).2)]) a=a ++ (l.filter fun b=>!taken tk b).map fun b=>(b.name,(whyB s tk b).1,(whyB s tk b).2):=by
     intro l
     induction l with
     | nil=>intro a; simp
     | cons b r ih=>
       intro a
       rw [List.foldl_cons,ih]
       cases hp:taken tk b<;>simp [hp]
   rw [key]; rfl
theorem e_refuse {s:Site}(hF:s.Fit)(nz:Bool)(tk:List ByteArray)(ht:tk.length < 1000000)(hst:startErr s tk=0):L.call 43 [s.enc,strz nz tk] []=some (rfz true (refL s tk),[]):=
 call_eq rfl rfl (by
   simp only [↓eA,eB,seval,c43,List.length_map]
   generalize hE:(lim T).loop 43003 _ _=R
   obtain ⟨X,e',H',rfl,rfl,g5,rfl⟩:=Ends.at hE (lp_refuse hF nz tk ht hst _ _ (by simp only [↓eA,eB,seval]) (by simp only [↓eA,eB,seval]) (by simp only [↓eA,eB,seval]) (by simp only [↓eA,eB,seval]) (by simp only [↓eA,eB,seval]) (by simp only [↓eA,eB,seval]) rfl rfl)
   simp only [↓eA,eB,seval,g5])
end Tz.C18
set_option maxRecDepth 100000
open Gs Go
namespace Tz.C18
theorem lp_rrefuse {s:Site}(hok:SiteOk s)(hF:s.Fit)(h12:s.blocks.length≤12)(nz:Bool)(tk:List ByteArray)(ht:tk.length < 1000000)(e:Env)(H:Heap)(h1:Gs.get e 1=strz nz tk)(h2:Gs.get e 2 = .ptr 2 0)(h5:Gs.get e 5 = .ow 1005)(h6:Gs.get e 6=int 0)(hH2:hget H 2=some (.box s.cells false))(hH:hget H 1005=some (.row false 3 [] 0 true)) :
   Ends T 15003 e H (fun X e' H'=>X = .ex 0∧Gs.get e' 5 = .ow 1005∧H'=[(2,.box s.cells false),(1005,.row false 3 ((refL s tk).map rfD) 0 true)]):=by
 have hbl:=hF.bl
 refine (loop_fold (T:=T) (key:=15003) (li:=l15003.1) rfl s.blocks (fun (a:List Rf) (b:Block)=>bif taken tk b then a else a ++ [(b.name,(whyB s tk b).1,(whyB s tk b).2)])
   (fun i a e H=>Gs.get e 1=strz nz tk∧Gs.get e 2 = .ptr 2 0∧Gs.get e 5 = .ow 1005∧Gs.get e 6=int i∧hget H 2=some (.box s.cells false)∧hget H 1005=some (.row false 3 (a.map rfD) 0 true)∧a.length≤i)
   (fun a X e' H'=>X = .ex 0∧Gs.get e' 5 = .ow 1005∧H'=[(2,.box s.cells false),(1005,.row false 3 (a.map rfD) 0 true)]) ?_ ?_ [] e H ⟨h1,h2,h5,h6,hH2,hH,Nat.le_refl _⟩).mono ?_
 · rintro i b a e H hx hi ⟨h1,h2,h5,h6,hH2,hH,ha⟩
   have hx':(s.blocks.map Block.enc)[i]?=some b.enc:=by simp [hx]
   have hbm:=List.mem_of_getElem? hx
   have hfit:fits (a.length + (0 + 1)) 40=true:=fits_of (by omega)
   have hc:=e_rhas21 nz tk ht b.name
   rw [←seq_any] at hc
   have hw:=e_rWhy hok hF h12 nz tk ht hbm
   cases hp:taken tk b with
   | true=>
     unfold taken at hp
     rw [hp] at hc
     simp only [↓eA,eB,seval,l15003,h1,h2,h5,h6,hH2,hH,hi,hx',hc,List.length_map,wrap_succ (show i < 4611686018427387904 by omega)]
     exact ⟨trivial,trivial,trivial,trivial,trivial,trivial,trivial,by omega⟩
   | false=>
     unfold taken at hp
     rw [hp] at hc
     simp only [↓eA,eB,seval,l15003,h1,h2,h5,h6,hH2,hH,hi,hx',hc,hw,hfit,List.length_map,wrap_succ (show i < 4611686018427387904 by omega)]
     refine ⟨trivial,trivial,trivial,trivial,trivial,trivial,?_,?_⟩
     · simp
     · simp; omega
 · rintro a e H ⟨h1,h2,h5,h6,hH2,hH,ha⟩
   simp only [↓eA,eB,seval,l15003,h1,h2,h5,h6,hH2,hH,Nat.lt_irrefl]
   and_intros<;>first | trivial | rfl
 · rintro X e' H' ⟨rfl,g5,rfl⟩
   refine ⟨rfl,g5,?_⟩
   have key:∀ (l:List Block) (a:List Rf),l.foldl (fun a b=>bif taken tk b then a else a ++ [(b.name,(whyB s tk b).1,(whyB s tk b).2)]) a=a ++ (l.filter fun b=>!taken tk b).map fun b=>(b.name,(whyB s tk b).1,(whyB s tk b).2):=by
     intro l
     induction l with
     | nil=>intro a; simp
     | cons b r ih=>
       intro a
       rw [List.foldl_cons,ih]
       cases hp:taken tk b<;>simp [hp]
   rw [key]; rfl
theorem e_rrefuse {s:Site}(hok:SiteOk s)(hF:s.Fit)(h12:s.blocks.length≤12)(nz:Bool)(tk:List ByteArray)(ht:tk.length < 1000000):L.call 15 [s.enc,strz nz tk] []=some (rfz false (refL s tk),[]):=
 call_eq rfl rfl (by
   simp only [↓eA,eB,seval,c15,List.length_map]
   generalize hE:(lim T).loop 15003 _ _=R
   obtain ⟨X,e',H',rfl,rfl,g5,rfl⟩:=Ends.at hE (lp_rrefuse hok hF h12 nz tk ht _ _ (by simp only [↓eA,eB,seval]) (by simp only [↓eA,eB,seval]) (by simp only [↓eA,eB,seval]) (by simp only [↓eA,eB,seval]) rfl rfl)
   simp only [↓eA,eB,seval,g5])
theorem lp_ours (nz:Bool)(l:List Rf)(hl:l.length < 1000000)(e:Env)(H:Heap)(h0:Gs.get e 0=rfz nz l)(h3:Gs.get e 3 = .ow 1003)(h4:Gs.get e 4=int 0)(hH:hget H 1003=some (.row false 3 [] 0 true)) :
   Ends T 20003 e H (fun X e' H'=>X = .ex 0∧Gs.get e' 3 = .ow 1003∧H'=[(1003,.row false 3 (l.map rfD) 0 true)]):=by
 refine (loop_fold (T:=T) (key:=20003) (li:=l20003.1) rfl l (fun (a:List Rf) (x:Rf)=>a ++ [x])
   (fun i a e H=>Gs.get e 0=rfz nz l∧Gs.get e 3 = .ow 1003∧Gs.get e 4=int i∧hget H 1003=some (.row false 3 (a.map rfD) 0 true)∧a.length=i)
   (fun a X e' H'=>X = .ex 0∧Gs.get e' 3 = .ow 1003∧H'=[(1003,.row false 3 (a.map rfD) 0 true)]) ?_ ?_ [] e H ⟨h0,h3,h4,hH,rfl⟩).mono ?_
 · rintro i x a e H hx hi ⟨h0,h3,h4,hH,ha⟩
   have hx':(l.map rfD)[i]?=some (.agg [.str x.1,int x.2.1,.str x.2.2]):=by simp [hx]
   have hfit:fits (a.length + (0 + 1)) 40=true:=fits_of (by omega)
   simp only [↓eA,eB,seval,l20003,h0,h3,h4,hH,hi,hx',hfit,List.length_map,wrap_succ (show i < 4611686018427387904 by omega)]
   refine ⟨trivial,trivial,trivial,trivial,?_,?_⟩
   · simp
   · simp; omega
 · rintro a e H ⟨h0,h3,h4,hH,ha⟩
   simp only [↓eA,eB,seval,l20003,h0,h3,h4,hH,List.length_map,Nat.lt_irrefl]
   and_intros<;>first | trivial | rfl
 · rintro X e' H' ⟨rfl,g3,rfl⟩
   refine ⟨rfl,g3,?_⟩
   have key:∀ (l a:List Rf),l.foldl (fun a x=>a ++ [x]) a=a ++ l:=by
     intro l
     induction l with
     | nil=>intro a; simp
     | cons b r ih=>intro a; rw [List.foldl_cons,ih]; simp
   rw [key]; rfl
theorem e_ours (nz:Bool)(l:List Rf)(hl:l.length < 1000000):L.call 20 [rfz nz l] []=some (rfz false l,[]):=
 call_eq rfl rfl (by
   simp only [↓eA,eB,seval,c20,List.length_map]
   generalize hE:(lim T).loop 20003 _ _=R
   obtain ⟨X,e',H',rfl,rfl,g3,rfl⟩:=Ends.at hE (lp_ours nz l hl _ _ (by simp only [↓eA,eB,seval]) (by simp only [↓eA,eB,seval]) (by simp only [↓eA,eB,seval]) rfl)
   simp only [↓eA,eB,seval,g3])
end Tz.C18
set_option maxRecDepth 100000
open Gs Go
namespace Tz.C18
def eqRf (x y:Rf):Bool:=seq x.1 y.1 && (decide (x.2.1=y.2.1) && seq x.2.2 y.2.2)
def neRf (p:Rf×Rf):Bool:=!eqRf p.1 p.2
def sameB (l m:List Rf):Bool:=decide ((l.length:Int)=(m.length:Int)) && !(l.zip m).any neRf
theorem lp_eq21 (n1 n2:Bool)(l m:List Rf)(hl:l.length < 1000000)(hm:l.length=m.length)(e:Env)(H:Heap)(h0:Gs.get e 0=rfz n1 l)(h1:Gs.get e 1=rfz n2 m)(h12:Gs.get e 12=int l.length)(h13:Gs.get e 13=int 0)(hH:H=[]) :
   Ends T 53004 e H (fun X e' H'=>match (l.zip m).any neRf with | true=>X = .ret∧Gs.get e' 4 = .bool false | false=>X = .ex 0):=by
 have hz:(l.zip m).length=l.length:=by rw [List.length_zip]; omega
 refine (loop_anyH (T:=T) (key:=53004) (li:=l53004.1) rfl (l.zip m) neRf (fun i e H=>Gs.get e 0=rfz n1 l∧Gs.get e 1=rfz n2 m∧Gs.get e 12=int l.length∧Gs.get e 13=int i∧H=[])
   (fun X e' H'=>X = .ret∧Gs.get e' 4 = .bool false) (fun X e' H'=>X = .ex 0) ?_ ?_ e H ⟨h0,h1,h12,h13,hH⟩).mono fun X e' H' h=>by cases hf:(l.zip m).any neRf<;>rw [hf] at h<;>exact h
 · rintro i ⟨x,y⟩ e H hx hi ⟨h0,h1,h12,h13,rfl⟩
   obtain ⟨hx1,hy1⟩:=List.getElem?_zip_eq_some.1 hx
   have hil:i < l.length:=by omega
   have him:i < m.length:=by omega
   have hx':(l.map rfD)[i]?=some (.agg [.str x.1,int x.2.1,.str x.2.2]):=by simp [hx1]
   have hy':(m.map rfD)[i]?=some (.agg [.str y.1,int y.2.1,.str y.2.2]):=by simp [hy1]
   unfold neRf eqRf
   cases g1:seq x.1 y.1<;>cases g2:decide (x.2.1=y.2.1)<;>cases g3:seq x.2.2 y.2.2<;>simp only [↓eA,eB,seval,l53004,h0,h1,h12,h13,hil,him,hx',hy',g1,g2,g3,List.length_map,wrap_succ (show i < 4611686018427387904 by omega)]<;>and_intros<;>first | trivial | rfl
 · rintro e H ⟨h0,h1,h12,h13,rfl⟩
   rw [hz] at h13
   simp only [↓eA,eB,seval,l53004,h0,h1,h12,h13,Nat.lt_irrefl]
   and_intros<;>first | trivial | rfl
theorem e_eq21 (n1 n2:Bool)(l m:List Rf)(hl:l.length < 1000000):L.call 53 [rfz n1 l,rfz n2 m] []=some (.bool (sameB l m),[]):=by
 unfold sameB
 cases hn:decide ((l.length:Int)=(m.length:Int)) with
 | false=>exact call_eq rfl rfl (by simp only [↓eA,eB,seval,c53,hn,List.length_map])
 | true=>
   have hm:l.length=m.length:=by have:=of_decide_eq_true hn; omega
   exact call_eq rfl rfl (by
     simp only [↓eA,eB,seval,c53,hn,List.length_map]
     generalize hE:(lim T).loop 53004 _ _=R
     obtain ⟨X,e',H',rfl,hp⟩:=Ends.at hE (lp_eq21 n1 n2 l m hl hm _ _ (by simp only [↓eA,eB,seval]) (by simp only [↓eA,eB,seval]) (by simp only [↓eA,eB,seval]) (by simp only [↓eA,eB,seval]) rfl)
     cases hk:(l.zip m).any neRf with
     | true=>rw [hk] at hp; obtain ⟨rfl,g2⟩:=hp; simp only [↓eA,eB,seval,g2]
     | false=>rw [hk] at hp; subst hp; simp only [↓eA,eB,seval])
theorem lp_rs21 (n1 n2:Bool)(l m:List Rf)(hl:l.length < 1000000)(hm:l.length=m.length)(e:Env)(H:Heap)(h0:Gs.get e 0=rfz n1 l)(h1:Gs.get e 1=rfz n2 m)(h5:Gs.get e 5=int 0)(hH:H=[]) :
   Ends T 17004 e H (fun X e' H'=>match (l.zip m).any neRf with | true=>X = .ret∧Gs.get e' 4 = .bool false | false=>X = .ex 0):=by
 have hz:(l.zip m).length=l.length:=by rw [List.length_zip]; omega
 refine (loop_anyH (T:=T) (key:=17004) (li:=l17004.1) rfl (l.zip m) neRf (fun i e H=>Gs.get e 0=rfz n1 l∧Gs.get e 1=rfz n2 m∧Gs.get e 5=int i∧H=[])
   (fun X e' H'=>X = .ret∧Gs.get e' 4 = .bool false) (fun X e' H'=>X = .ex 0) ?_ ?_ e H ⟨h0,h1,h5,hH⟩).mono fun X e' H' h=>by cases hf:(l.zip m).any neRf<;>rw [hf] at h<;>exact h
 · rintro i ⟨x,y⟩ e H hx hi ⟨h0,h1,h5,rfl⟩
   obtain ⟨hx1,hy1⟩:=List.getElem?_zip_eq_some.1 hx
   have hil:i < l.length:=by omega
   have him:i < m.length:=by omega
   have hx':(l.map rfD)[i]?=some (.agg [.str x.1,int x.2.1,.str x.2.2]):=by simp [hx1]
   have hy':(m.map rfD)[i]?=some (.agg [.str y.1,int y.2.1,.str y.2.2]):=by simp [hy1]
   unfold neRf eqRf
   cases g1:seq x.1 y.1<;>cases g2:decide (x.2.1=y.2.1)<;>cases g3:seq x.2.2 y.2.2<;>simp only [↓eA,eB,seval,l17004,h0,h1,h5,hil,him,hx',hy',g1,g2,g3,List.length_map,wrap_succ (show i < 4611686018427387904 by omega)]<;>and_intros<;>first | trivial | rfl
 · rintro e H ⟨h0,h1,h5,rfl⟩
   rw [hz] at h5
   simp only [↓eA,eB,seval,l17004,h0,h1,h5,List.length_map,Nat.lt_irrefl]
   and_intros<;>first | trivial | rfl
theorem e_rs21 (n1 n2:Bool)(l m:List Rf)(hl:l.length < 1000000):L.call 17 [rfz n1 l,rfz n2 m] []=some (.bool (sameB l m),[]):=by
 unfold sameB
 cases hn:decide ((l.length:Int)=(m.length:Int)) with
 | false=>exact call_eq rfl rfl (by simp only [↓eA,eB,seval,c17,hn,List.length_map])
 | true=>
   have hm:l.length=m.length:=by have:=of_decide_eq_true hn; omega
   exact call_eq rfl rfl (by
     simp only [↓eA,eB,seval,c17,hn,List.length_map]
     generalize hE:(lim T).loop 17004 _ _=R
     obtain ⟨X,e',H',rfl,hp⟩:=Ends.at hE (lp_rs21 n1 n2 l m hl hm _ _ (by simp only [↓eA,eB,seval]) (by simp only [↓eA,eB,seval]) (by simp only [↓eA,eB,seval]) rfl)
     cases hk:(l.zip m).any neRf with
     | true=>rw [hk] at hp; obtain ⟨rfl,g2⟩:=hp; simp only [↓eA,eB,seval,g2]
     | false=>rw [hk] at hp; subst hp; simp only [↓eA,eB,seval])
def badRf (r:Rf):Bool:=decide (r.2.1=0) || decide (r.2.1=1)
theorem e_prv1 (r:Rf):L.call 55 [rfD r] []=some (.bool (badRf r),[]):=
 call_eq rfl rfl (by simp only [↓eA,eB,seval,c55]; rfl)
theorem lp_ridx (nz:Bool)(l:List Rf)(hl:l.length < 1000000)(e:Env)(H:Heap)(h0:Gs.get e 0=rfz nz l)(h1:Gs.get e 1 = .fn 55 [])(h7:Gs.get e 7=int l.length)(h8:Gs.get e 8=int 0)(hH:H=[]) :
   Ends T 104002 e H (fun X e' H'=>match l.findIdx? badRf with | some j=>X = .ret∧Gs.get e' 4=int j | none=>X = .ex 0):=by
 refine (loop_thru (T:=T) (key:=104002) (li:=l104002.1) rfl (fun (i:Nat) x=>bif badRf x then .inl i else .inr (i + 1)) l
   (fun i t e H=>t=i∧Gs.get e 0=rfz nz l∧Gs.get e 1 = .fn 55 []∧Gs.get e 7=int l.length∧Gs.get e 8=int i∧H=[])
   (fun i X e' H'=>X = .ret∧Gs.get e' 4=int i) (fun _ X e' H'=>X = .ex 0) ?_ ?_ ?_ l [] 0 e H rfl ⟨rfl,h0,h1,h7,h8,hH⟩).mono fun X e' H' h=>?_
 · rintro i x t t' e H hx ⟨rfl,h0,h1,h7,h8,rfl⟩ hf
   have hi:=(List.getElem?_eq_some_iff.1 hx).1
   have hx':(l.map rfD)[t]?=some (rfD x):=by simp [hx]
   have hn:badRf x=false:=by cases hb:badRf x<;>simp_all
   have hc:=e_prv1 x
   rw [hn] at hf hc
   injection hf with hf; subst hf
   simp only [↓eA,eB,seval,l104002,h0,h1,h7,h8,hi,hx',hc,List.length_map,wrap_succ (show t < 4611686018427387904 by omega)]
   and_intros<;>first | trivial | rfl
 · rintro i x t r e H hx ⟨rfl,h0,h1,h7,h8,rfl⟩ hf
   have hi:=(List.getElem?_eq_some_iff.1 hx).1
   have hx':(l.map rfD)[t]?=some (rfD x):=by simp [hx]
   have hn:badRf x=true:=by cases hb:badRf x<;>simp_all
   have hc:=e_prv1 x
   rw [hn] at hf hc
   injection hf with hf; subst hf
   simp only [↓eA,eB,seval,l104002,h0,h1,h7,h8,hi,hx',hc,List.length_map]
   and_intros<;>first | trivial | rfl
 · rintro t e H ⟨rfl,h0,h1,h7,h8,rfl⟩
   simp only [↓eA,eB,seval,l104002,h0,h1,h7,h8,Nat.lt_irrefl]
   and_intros<;>first | trivial | rfl
 · rw [thru_idx] at h
   cases hd:l.findIdx? badRf<;>rw [hd] at h
   · exact h
   · simpa using h
theorem e_rcon (nz:Bool)(l:List Rf)(hl:l.length < 1000000):L.call 54 [rfz nz l,.fn 55 []] []=some (.bool (l.any badRf),[]):=by
 have h1:L.call 104 [rfz nz l,.fn 55 []] []=some (int (idxOf badRf l),[]):=call_eq rfl rfl (by
   simp only [↓eA,eB,seval,c104,List.length_map]
   generalize hE:(lim T).loop 104002 _ _=R
   obtain ⟨X,e',H',rfl,hp⟩:=Ends.at hE (lp_ridx nz l hl _ _ (by simp only [↓eA,eB,seval]) (by simp only [↓eA,eB,seval]) (by simp only [↓eA,eB,seval]) (by simp only [↓eA,eB,seval]) rfl)
   unfold idxOf
   cases hf:l.findIdx? badRf with
   | some j=>rw [hf] at hp; obtain ⟨rfl,g4⟩:=hp; simp only [↓eA,eB,seval,g4]
   | none=>rw [hf] at hp; subst hp; simp only [↓eA,eB,seval])
 exact call_eq rfl rfl (by simp only [↓eA,eB,seval,c54,h1,idxOf_ge])
def strk (s:Site):List ByteArray→List ByteArray→Bool
 | _,[]=>true
 | tk,n :: r=>(standN s tk).any (seq n) && strk s (tk ++ [n]) r
theorem thru_strk (s:Site):∀ (r tk:List ByteArray),thru (R:=Unit) (fun (t:List ByteArray) n=>bif (standN s t).any (seq n) then .inr (t ++ [n]) else .inl ()) r tk=bif strk s tk r then .inr (tk ++ r) else .inl ()
 | [],tk=>by simp [thru,strk]
 | n :: r,tk=>by
   simp only [thru,strk]
   cases h:(standN s tk).any (seq n) with
   | false=>rfl
   | true=>simp only [cond_true,Bool.true_and]; rw [thru_strk s r (tk ++ [n])]; simp
theorem stand_mem {s:Site}{tk:List ByteArray}{n:ByteArray} : (standN s tk).any (seq n)=true↔(∃ b∈s.blocks,b.name=n)∧n∉tk:=by
 rw [List.any_eq_true]
 constructor
 · rintro ⟨m,hm,he⟩
   obtain ⟨c,hc,rfl⟩:=List.mem_map.1 hm
   obtain ⟨h1,h2⟩:=List.mem_filter.1 hc
   have:=seq_iff.1 he; subst this
   refine ⟨⟨c,h1,rfl⟩,fun h=>?_⟩
   rw [taken_iff.2 h] at h2; cases h2
 · rintro ⟨⟨b,hb,rfl⟩,hn⟩
   refine ⟨b.name,List.mem_map.2 ⟨b,List.mem_filter.2 ⟨hb,?_⟩,rfl⟩,seq_refl _⟩
   cases h:taken tk b with
   | false=>rfl
   | true=>exact absurd (taken_iff.1 h) hn
theorem strk_iff {s:Site} : ∀ (r tk:List ByteArray),strk s tk r=true↔(∀ n∈r,∃ b∈s.blocks,b.name=n)∧(∀ n∈r,n∉tk)∧r.Nodup
 | [],tk=>by simp [strk]
 | n :: r,tk=>by
   simp only [strk,Bool.and_eq_true,stand_mem,strk_iff r (tk ++ [n]),List.forall_mem_cons,List.nodup_cons]
   constructor
   · rintro ⟨⟨h1,h2⟩,h3,h4,h5⟩
     exact ⟨⟨h1,h3⟩,⟨h2,fun m hm h=>h4 m hm (List.mem_append_left _ h)⟩,fun hn=>h4 n hn (List.mem_append_right _ List.mem_cons_self),h5⟩
   · rintro ⟨⟨h1,h3⟩,⟨h2,h4⟩,h6,h5⟩
     refine ⟨⟨h1,h2⟩,h3,fun m hm h=>?_,h5⟩
     rcases List.mem_append.1 h with h | h
     · exact h4 m hm h
     · simp only [List.mem_cons,List.not_mem_nil,or_false] at h
       exact h6 (h ▸ hm)
theorem strk_start {s:Site}(hs:siteErr s=0)(tk:List ByteArray):strk s [] tk=decide (startErr s tk=0):=by
 rw [Bool.eq_iff_iff,strk_iff,decide_eq_true_eq]
 constructor
 · rintro ⟨h1,_,h3⟩; exact start_of hs h3 h1
 · exact fun h=>⟨start_known h,by simp,start_nodup h⟩
theorem lp_prv (s:Site)(hsr:Sorted s.blocks)(n1 n2:Bool)(goal:ByteArray)(fr:List ByteArray)(hfr:fr.length < 1000000)(l:List Rf)(e:Env)(H:Heap)(h1:Gs.get e 1 = .str goal)(h2:Gs.get e 2=strz n1 fr)(h3:Gs.get e 3=rfz n2 l)(h4:Gs.get e 4 = .ptr 4 0)(h9:Gs.get e 9 = .mp 10320)(h17:Gs.get e 17=strz n1 fr)(h18:Gs.get e 18=int fr.length)(h19:Gs.get e 19=int 0)
   (hH4:hget H 4=some (.box s.cells false)) (hM:hget H 10320=some (.mapB (entT (standN s [])) false)) :
   Ends T 19005 e H (fun X e' H'=>match strk s [] fr with
     | true=>X = .ex 0∧Gs.get e' 1 = .str goal∧Gs.get e' 2=strz n1 fr∧Gs.get e' 3=rfz n2 l∧Gs.get e' 4 = .ptr 4 0∧Gs.get e' 9 = .mp 10320∧H'=[(4,.box s.cells false),(10320,.mapB (entT (standN s fr)) false)]
     | false=>X = .ret∧Gs.get e' 8 = .bool false):=by
 refine (loop_thru (T:=T) (key:=19005) (li:=l19005.1) rfl (fun (t:List ByteArray) n=>bif (standN s t).any (seq n) then .inr (t ++ [n]) else .inl ()) fr
   (fun i t e H=>Gs.get e 1 = .str goal∧Gs.get e 2=strz n1 fr∧Gs.get e 3=rfz n2 l∧Gs.get e 4 = .ptr 4 0∧Gs.get e 9 = .mp 10320∧Gs.get e 17=strz n1 fr∧Gs.get e 18=int fr.length∧Gs.get e 19=int i∧hget H 4=some (.box s.cells false)∧hget H 10320=some (.mapB (entT (standN s t)) false))
   (fun (_:Unit) X e' H'=>X = .ret∧Gs.get e' 8 = .bool false) (fun t X e' H'=>X = .ex 0∧Gs.get e' 1 = .str goal∧Gs.get e' 2=strz n1 fr∧Gs.get e' 3=rfz n2 l∧Gs.get e' 4 = .ptr 4 0∧Gs.get e' 9 = .mp 10320∧H'=[(4,.box s.cells false),(10320,.mapB (entT (standN s t)) false)]) ?_ ?_ ?_ fr [] [] e H rfl ⟨h1,h2,h3,h4,h9,h17,h18,h19,hH4,hM⟩).mono fun X e' H' h=>?_
 · rintro i n t t' e H hx ⟨h1,h2,h3,h4,h9,h17,h18,h19,hH4,hM⟩ hf
   have hi:=(List.getElem?_eq_some_iff.1 hx).1
   have hx':(fr.map D.str)[i]?=some (.str n):=by simp [hx]
   have hn:(standN s t).any (seq n)=true:=by cases hb:(standN s t).any (seq n)<;>simp_all
   obtain ⟨⟨b,hb,rfl⟩,hnt⟩:=stand_mem.1 hn
   have hbt:taken t b=false:=by
     cases h:taken t b with
     | false=>rfl
     | true=>exact absurd (taken_iff.1 h) hnt
   have hd:=mdel_entT b.name (standN s t)
   rw [del_stand hbt hsr] at hd
   have hm:=mfind_entT b.name (standN s t)
   rw [hn] at hf hm
   injection hf with hf; subst hf
   simp only [↓eA,eB,seval,l19005,h1,h2,h3,h4,h9,h17,h18,h19,hH4,hM,hi,hx',hm,hd,List.length_map,wrap_succ (show i < 4611686018427387904 by omega)]
   and_intros<;>first | trivial | rfl
 · rintro i n t r e H hx ⟨h1,h2,h3,h4,h9,h17,h18,h19,hH4,hM⟩ hf
   have hi:=(List.getElem?_eq_some_iff.1 hx).1
   have hx':(fr.map D.str)[i]?=some (.str n):=by simp [hx]
   have hn:(standN s t).any (seq n)=false:=by cases hb:(standN s t).any (seq n)<;>simp_all
   have hm:=mfind_entT n (standN s t)
   rw [hn] at hm
   simp only [↓eA,eB,seval,l19005,h1,h2,h3,h4,h9,h17,h18,h19,hH4,hM,hi,hx',hm,List.length_map]
   and_intros<;>first | trivial | rfl
 · rintro t e H ⟨h1,h2,h3,h4,h9,h17,h18,h19,hH4,hM⟩
   simp only [↓eA,eB,seval,l19005,h1,h2,h3,h4,h9,h17,h18,h19,hH4,hM,Nat.lt_irrefl]
   and_intros<;>first | trivial | rfl
 · rw [thru_strk] at h
   cases hd:strk s [] fr<;>rw [hd] at h<;>exact h
def provesB (s:Site)(goal:ByteArray)(fr:List ByteArray)(l:List Rf):Bool:=decide (startErr s fr=0) && ((standN s fr).any (seq goal) && (sameB l (refL s fr) && !l.any badRf))
theorem site_of_start {s:Site}{tk:List ByteArray}(h:decide (siteErr s=0)=false):decide (startErr s tk=0)=false:=by
 unfold startErr
 rw [h]
 exact h
theorem e_proves (s:Site)(hF:s.Fit)(n1 n2:Bool)(goal:ByteArray)(fr:List ByteArray)(hfr:fr.length < 1000000)(l:List Rf)(hl:l.length < 1000000):L.call 19 [s.enc,.str goal,strz n1 fr,rfz n2 l] []=some (.bool (provesB s goal fr l),[]):=by
 have f1:L.call 51 [s.enc,.fz true 1 []] []=some (int (chkErr s []),[]):=e_xcheck s hF true [] (by simp)
 unfold provesB
 cases hs:decide (siteErr s=0) with
 | false=>
   have hc:chkErr s []=siteErr s:=by unfold chkErr; rw [hs]; rfl
   rw [hc] at f1
   rw [site_of_start hs]
   generalize siteErr s=er at hs f1
   exact call_eq rfl rfl (by simp only [↓eA,eB,seval,c19,f1,hs])
 | true=>
 have hs0:=of_decide_eq_true hs
 have hok:=site_ok hs0
 have hsr:=sorted_of hok.srt
 have hbl:=hF.bl
 have hc:chkErr s []=0:=chk_ok hs0 (start_of hs0 List.nodup_nil (by simp))
 rw [hc] at f1
 have f2:=e_xblocks s hF hsr
 have hsn:namesB s.blocks=standN s []:=by
   unfold standN
   congr 1
   exact (List.filter_eq_self.2 fun b _=>rfl).symm
 rw [hsn] at f2
 rw [←strk_start hs0]
 refine call_eq rfl rfl ?_
 simp only [↓eA,eB,seval,c19,f1,f2,List.length_map]
 generalize hE:(lim T).loop 19005 _ _=R
 obtain ⟨X,e',H',rfl,hp⟩:=Ends.at hE (lp_prv s hsr n1 n2 goal fr hfr l _ _ (by simp only [↓eA,eB,seval]) (by simp only [↓eA,eB,seval]) (by simp only [↓eA,eB,seval]) (by simp only [↓eA,eB,seval]) (by simp only [↓eA,eB,seval]) (by simp only [↓eA,eB,seval]) (by simp only [↓eA,eB,seval]) (by simp only [↓eA,eB,seval]) rfl rfl)
 cases hk:strk s [] fr with
 | false=>rw [hk] at hp; obtain ⟨rfl,g8⟩:=hp; simp only [↓eA,eB,seval,g8]
 | true=>
 rw [hk] at hp
 obtain ⟨rfl,g1,g2,g3,g4,g9,rfl⟩:=hp
 have hst:startErr s fr=0:=by rw [strk_start hs0] at hk; exact of_decide_eq_true hk
 have hm:=mfind_entT goal (standN s fr)
 have f3:=e_refuse hF n1 fr hfr hst
 have f4:=e_eq21 n2 true l (refL s fr) hl
 have f5:=e_rcon n2 l hl
 cases hg:(standN s fr).any (seq goal)<;>rw [hg] at hm
 · simp only [↓eA,eB,seval,g1,g2,g3,g4,g9,hm]
 · cases hq:sameB l (refL s fr)<;>rw [hq] at f4
   · simp only [↓eA,eB,seval,g1,g2,g3,g4,g9,hm,f3,f4,get_wipeB]
   · simp only [↓eA,eB,seval,g1,g2,g3,g4,g9,hm,f3,f4,f5,get_wipeB]
end Tz.C18
set_option maxRecDepth 100000
open Gs Go
namespace Tz.C18
theorem lp_rIndex (s:Site)(hF:s.Fit)(n:ByteArray)(e:Env)(H:Heap)(h1:Gs.get e 1 = .str n)(h2:Gs.get e 2 = .ptr 2 0)(h5:Gs.get e 5=int 0)(hH:hget H 2=some (.box s.cells false)) :
   Ends T 28002 e H (fun X e' H'=>match s.blocks.findIdx? (called n) with | some j=>X = .ret∧Gs.get e' 4=int j | none=>X = .ex 0):=by
 have hbl:=hF.bl
 refine (loop_thru (T:=T) (key:=28002) (li:=l28002.1) rfl (fun (i:Nat) (b:Block)=>bif called n b then .inl i else .inr (i + 1)) s.blocks
   (fun i t e H=>t=i∧Gs.get e 1 = .str n∧Gs.get e 2 = .ptr 2 0∧Gs.get e 5=int i∧hget H 2=some (.box s.cells false))
   (fun i X e' H'=>X = .ret∧Gs.get e' 4=int i) (fun _ X e' H'=>X = .ex 0) ?_ ?_ ?_ s.blocks [] 0 e H rfl ⟨rfl,h1,h2,h5,hH⟩).mono fun X e' H' h=>?_
 · rintro i b t t' e H hx ⟨rfl,h1,h2,h5,hH⟩ hf
   have hi:=(List.getElem?_eq_some_iff.1 hx).1
   have hx':(s.blocks.map Block.enc)[t]?=some b.enc:=by simp [hx]
   have hn:called n b=false:=by cases hb:called n b<;>simp_all
   rw [hn] at hf
   injection hf with hf; subst hf
   unfold called at hn
   simp only [↓eA,eB,seval,l28002,h1,h2,h5,hH,hi,hx',hn,wrap_succ (show t < 4611686018427387904 by omega)]
   and_intros<;>first | trivial | rfl
 · rintro i b t r e H hx ⟨rfl,h1,h2,h5,hH⟩ hf
   have hi:=(List.getElem?_eq_some_iff.1 hx).1
   have hx':(s.blocks.map Block.enc)[t]?=some b.enc:=by simp [hx]
   have hn:called n b=true:=by cases hb:called n b<;>simp_all
   rw [hn] at hf
   injection hf with hf; subst hf
   unfold called at hn
   simp only [↓eA,eB,seval,l28002,h1,h2,h5,hH,hi,hx',hn]
   and_intros<;>first | trivial | rfl
 · rintro t e H ⟨rfl,h1,h2,h5,hH⟩
   simp only [↓eA,eB,seval,l28002,h1,h2,h5,hH,Nat.lt_irrefl]
   and_intros<;>first | trivial | rfl
 · rw [thru_idx] at h
   cases hd:s.blocks.findIdx? (called n)<;>rw [hd] at h
   · exact h
   · simpa using h
theorem e_rIndex (s:Site)(hF:s.Fit)(n:ByteArray):L.call 28 [s.enc,.str n] []=some (int (idxOf (called n) s.blocks),[]):=
 call_eq rfl rfl (by
   simp only [↓eA,eB,seval,c28]
   generalize hE:(lim T).loop 28002 _ _=R
   obtain ⟨X,e',H',rfl,hp⟩:=Ends.at hE (lp_rIndex s hF n _ _ (by simp only [↓eA,eB,seval]) (by simp only [↓eA,eB,seval]) (by simp only [↓eA,eB,seval]) rfl)
   unfold idxOf
   cases hf:s.blocks.findIdx? (called n) with
   | some j=>rw [hf] at hp; obtain ⟨rfl,g4⟩:=hp; simp only [↓eA,eB,seval,g4]
   | none=>rw [hf] at hp; subst hp; simp only [↓eA,eB,seval])
theorem lp_rprv (s:Site)(n1 n2:Bool)(fr:List ByteArray)(l:List Rf)(hl:l.length < 1000000)(e:Env)(H:Heap)(h2:Gs.get e 2=strz n1 fr)(h3:Gs.get e 3=rfz n2 l)(h4:Gs.get e 4 = .ptr 4 0)(h9:Gs.get e 9=int 0)(hH:hget H 4=some (.box s.cells false)) :
   Ends T 21004 e H (fun X e' H'=>match l.any badRf with
     | true=>X = .ret∧Gs.get e' 8 = .bool false
     | false=>X = .ex 0∧Gs.get e' 2=strz n1 fr∧Gs.get e' 3=rfz n2 l∧Gs.get e' 4 = .ptr 4 0∧H'=[(4,.box s.cells false)]):=by
 refine (loop_anyH (T:=T) (key:=21004) (li:=l21004.1) rfl l badRf (fun i e H=>Gs.get e 2=strz n1 fr∧Gs.get e 3=rfz n2 l∧Gs.get e 4 = .ptr 4 0∧Gs.get e 9=int i∧hget H 4=some (.box s.cells false))
   (fun X e' H'=>X = .ret∧Gs.get e' 8 = .bool false) (fun X e' H'=>X = .ex 0∧Gs.get e' 2=strz n1 fr∧Gs.get e' 3=rfz n2 l∧Gs.get e' 4 = .ptr 4 0∧H'=[(4,.box s.cells false)]) ?_ ?_ e H ⟨h2,h3,h4,h9,hH⟩).mono fun X e' H' h=>by cases hf:l.any badRf<;>rw [hf] at h<;>exact h
 · rintro i x e H hx hi ⟨h2,h3,h4,h9,hH⟩
   have hx':(l.map rfD)[i]?=some (.agg [.str x.1,int x.2.1,.str x.2.2]):=by simp [hx]
   cases hp:badRf x<;>unfold badRf at hp<;>simp only [↓eA,eB,seval,l21004,h2,h3,h4,h9,hH,hi,hx',hp,List.length_map,wrap_succ (show i < 4611686018427387904 by omega)]<;>and_intros<;>first | trivial | rfl
 · rintro e H ⟨h2,h3,h4,h9,hH⟩
   simp only [↓eA,eB,seval,l21004,h2,h3,h4,h9,hH,List.length_map,Nat.lt_irrefl]
   and_intros<;>first | trivial | rfl
theorem stand_split (s:Site)(fr:List ByteArray)(goal:ByteArray):(standN s fr).any (seq goal)=(s.blocks.any (called goal) && !fr.any (fun x=>seq x goal)):=by
 rw [Bool.eq_iff_iff,stand_mem,Bool.and_eq_true,List.any_eq_true,Bool.not_eq_true',List.any_eq_false]
 constructor
 · rintro ⟨⟨b,hb,rfl⟩,hn⟩
   refine ⟨⟨b,hb,seq_refl _⟩,fun x hx he=>hn ?_⟩
   rw [←seq_iff.1 he]; exact hx
 · rintro ⟨⟨b,hb,he⟩,hn⟩
   exact ⟨⟨b,hb,seq_iff.1 he⟩,fun h=>hn goal h (seq_refl _)⟩
theorem e_rproves (s:Site)(hF:s.Fit)(hb:s.blocks.length≤12∨256 < s.blocks.length)(n1 n2:Bool)(goal:ByteArray)(fr:List ByteArray)(hfr:fr.length < 1000000)(l:List Rf)(hl:l.length < 1000000):L.call 21 [s.enc,.str goal,strz n1 fr,rfz n2 l] []=some (.bool (provesB s goal fr l),[]):=by
 have f1:=e_checkTaken s hF n1 fr hfr
 unfold provesB
 cases hst:decide (startErr s fr=0) with
 | false=>
   generalize startErr s fr=er at hst f1
   exact call_eq rfl rfl (by simp only [↓eA,eB,seval,c21,f1,hst])
 | true=>
 have hst0:=of_decide_eq_true hst
 have hs0:=(start_ok hst0).1
 have hok:=site_ok hs0
 have h12:=few12 hok hb
 rw [hst0] at f1
 have f2:=e_rIndex s hF goal
 have f2':=idx_lt0 (called goal) s.blocks
 have f3:=e_rhas21 n1 fr hfr goal
 rw [stand_split]
 cases hg:s.blocks.any (called goal)<;>rw [hg] at f2'
 · exact call_eq rfl rfl (by simp only [↓eA,eB,seval,c21,f1,f2,f2'])
 · cases hh:fr.any (fun x=>seq x goal)<;>rw [hh] at f3
   · have f4:=e_rrefuse hok hF h12 n1 fr hfr
     have f5:=e_rs21 n2 false l (refL s fr) hl
     refine call_eq rfl rfl ?_
     simp only [↓eA,eB,seval,c21,f1,f2,f2',f3]
     generalize hE:(lim T).loop 21004 _ _=R
     obtain ⟨X,e',H',rfl,hp⟩:=Ends.at hE (lp_rprv s n1 n2 fr l hl _ _ (by simp only [↓eA,eB,seval]) (by simp only [↓eA,eB,seval]) (by simp only [↓eA,eB,seval]) (by simp only [↓eA,eB,seval]) rfl)
     cases hk:l.any badRf with
     | true=>rw [hk] at hp; obtain ⟨rfl,g8⟩:=hp; simp only [↓eA,eB,seval,g8]<;>simp
     | false=>rw [hk] at hp; obtain ⟨rfl,g2,g3,g4,rfl⟩:=hp; simp only [↓eA,eB,seval,g2,g3,g4,f4,f5]<;>simp
   · exact call_eq rfl rfl (by simp only [↓eA,eB,seval,c21,f1,f2,f2',f3])
theorem e_provesL (s:Site)(goal:ByteArray)(fr:List ByteArray)(l:List Rf):L.call 4 [s.enc,.str goal,strs fr,rfz false l] []=some (.bool true,[]):=by
 obtain ⟨v,e1,hv⟩:=small21 s false fr
 cases hg:((!v || decide (16 < (fr.length:Int))) || decide (16 < (l.length:Int))) || decide (100 < (goal.size:Int)) with
 | true=>exact call_eq rfl rfl (by simp only [↓eA,eB,seval,c4,aw21,e1,hg,List.length_map])
 | false=>
 have hg':=hg
 simp only [Bool.or_eq_false_iff,Bool.not_eq_false',decide_eq_false_iff_not] at hg'
 obtain ⟨⟨⟨g1,g2⟩,g3⟩,g4⟩:=hg'
 obtain ⟨hF,_,hb,_⟩:=hv g1
 have f1:=e_ours false l (by omega)
 have f2:=e_proves s hF false false goal fr (by omega) l (by omega)
 have f3:=e_rproves s hF hb false false goal fr (by omega) l (by omega)
 generalize provesB s goal fr l=q at f2 f3
 exact call_eq rfl rfl (by
   simp only [↓eA,eB,seval,c4,aw21,e1,hg,f1,f2,f3,List.length_map]
   cases q<;>rfl)
end Tz.C18
