/- part S127; no conditions. -/
import Derived.Test.YtboigolndjinhaaGreatS83toS86
import Derived.Test.YtboigolndjinhaaGreatS92toS122
set_option linter.all false
set_option maxRecDepth 100000
open Gs Go
namespace Tz.C18
abbrev HX (s:Site)(tk:List ByteArray)(p:Nat):Heap:=[(2,.box s.cells false),(1007,.row false 1 (tk.map .str) p true)]
structure EnvX (s:Site) (o:List ByteArray) (tk:List ByteArray) (n i p:Nat) (e:Env) (H:Heap):Prop where
 h1:Gs.get e 1=strz false o
 h2:Gs.get e 2 = .ptr 2 0
 h5:Gs.get e 5=int n
 h7:Gs.get e 7 = .ow 1007
 h8:Gs.get e 8=int i
 H2:hget H 2=some (.box s.cells false)
 H7:hget H 1007=some (.row false 1 (tk.map .str) p true)
theorem has_taken (tk:List ByteArray)(b:Block):tk.any (fun x=>seq x b.name)=taken tk b:=by
 cases ht:taken tk b with
 | true=>exact List.any_eq_true.2 ⟨b.name,taken_iff.1 ht,seq_refl _⟩
 | false=>
   refine List.any_eq_false.2 fun x hx he=>?_
   have:b.name∈tk:=by rw [←seq_iff.1 he]; exact hx
   rw [taken_iff.2 this] at ht; cases ht
section
variable (s:Site) (o tk:List ByteArray) (n i p:Nat)
theorem lp_x16 (htl:tk.length < 1000000)(cs:List ByteArray)(hcl:cs.length < 1000000)(hall:∀ x∈cs,x∈tk)(e:Env)(H:Heap)(hE:EnvX s o tk n i p e H)(h9:Gs.get e 9 = .fz true 1 (cs.map .str))(h11:Gs.get e 11=int 0) :
   Ends T 10016 e H (fun X e' H'=>X = .ex 2∧EnvX s o tk n i p e' H'∧H'=HX s tk p):=by
 refine (loop_fold (T:=T) (key:=10016) (li:=l10016.1) rfl cs (fun (u:Unit) _=>u)
   (fun m u e H=>EnvX s o tk n i p e H∧Gs.get e 9 = .fz true 1 (cs.map .str)∧Gs.get e 11=int m)
   (fun u X e' H'=>X = .ex 2∧EnvX s o tk n i p e' H'∧H'=HX s tk p) ?_ ?_ () e H ⟨hE,h9,h11⟩).mono fun _ _ _ h=>h
 · rintro m c u e H hc hm ⟨⟨h1,h2,h5,h7,h8,H2,H7⟩,h9,h11⟩
   have hc':(cs.map D.str)[m]?=some (.str c):=by simp [hc]
   have hh:=e_has21 false tk htl c
   rw [show tk.any (fun y=>seq y c)=true from List.any_eq_true.2 ⟨c,hall c (List.mem_of_getElem? hc),seq_refl _⟩] at hh
   simp only [↓eA,eB,seval,l10016,h1,h2,h5,h7,h8,H2,H7,h9,h11,hc',hm,hh,List.length_map,wrap_succ (show m < 4611686018427387904 by omega)]
   exact ⟨trivial,⟨by simp only [↓eA,eB,seval],by simp only [↓eA,eB,seval],by simp only [↓eA,eB,seval],by simp only [↓eA,eB,seval],by simp only [↓eA,eB,seval],rfl,rfl⟩,trivial,trivial⟩
 · rintro u e H ⟨⟨h1,h2,h5,h7,h8,H2,H7⟩,h9,h11⟩
   simp only [↓eA,eB,seval,l10016,h1,h2,h5,h7,h8,H2,H7,h9,h11,List.length_map,Nat.lt_irrefl]
   exact ⟨trivial,trivial,⟨by simp only [↓eA,eB,seval],by simp only [↓eA,eB,seval],by simp only [↓eA,eB,seval],by simp only [↓eA,eB,seval],by simp only [↓eA,eB,seval],rfl,rfl⟩,by first | trivial | rfl⟩
theorem lp_x25 (htl:tk.length < 1000000)(hbl:s.blocks.length < 1000000)(hI:∀ k∈s.blocks,∀ m∈s.blocks,taken tk k=true→taken tk m=false→clearB s.safety k.box m.box=true)(k:Nat)(x:Block)(hx:s.blocks[k]?=some x)(e:Env)(H:Heap)(hE:EnvX s o tk n i p e H)(h12:Gs.get e 12=int k)(h13:Gs.get e 13=int 0) :
   Ends T 10025 e H (fun X e' H'=>X = .ex 6∧EnvX s o tk n i p e' H'∧Gs.get e' 12=int k∧H'=HX s tk p):=by
 refine (loop_fold (T:=T) (key:=10025) (li:=l10025.1) rfl s.blocks (fun (u:Unit) _=>u)
   (fun m u e H=>EnvX s o tk n i p e H∧Gs.get e 12=int k∧Gs.get e 13=int m)
   (fun u X e' H'=>X = .ex 6∧EnvX s o tk n i p e' H'∧Gs.get e' 12=int k∧H'=HX s tk p) ?_ ?_ () e H ⟨hE,h12,h13⟩).mono fun _ _ _ h=>h
 · rintro m y u e H hy hm ⟨⟨h1,h2,h5,h7,h8,H2,H7⟩,h12,h13⟩
   have hk:=(List.getElem?_eq_some_iff.1 hx).1
   have hx':(s.blocks.map Block.enc)[k]?=some x.enc:=by simp [hx]
   have hy':(s.blocks.map Block.enc)[m]?=some y.enc:=by simp [hy]
   have hhx:=e_has21 false tk htl x.name
   have hhy:=e_has21 false tk htl y.name
   rw [has_taken] at hhx hhy
   have hc:=e_Clear s.safety y.box x.box
   have hw:=wrap_succ (show m < 4611686018427387904 by omega)
   cases htx:taken tk x with
   | true=>
     rw [htx] at hhx
     simp only [↓eA,eB,seval,l10025,h1,h2,h5,h7,h8,H2,H7,h12,h13,hk,hm,hx',hy',hhx,hhy,hc,List.length_map,hw]
     exact ⟨trivial,⟨by simp only [↓eA,eB,seval],by simp only [↓eA,eB,seval],by simp only [↓eA,eB,seval],by simp only [↓eA,eB,seval],by simp only [↓eA,eB,seval],rfl,rfl⟩,trivial,trivial⟩
   | false=>
   rw [htx] at hhx
   cases hty:taken tk y with
   | false=>
     rw [hty] at hhy
     simp only [↓eA,eB,seval,l10025,h1,h2,h5,h7,h8,H2,H7,h12,h13,hk,hm,hx',hy',hhx,hhy,hc,List.length_map,hw]
     exact ⟨trivial,⟨by simp only [↓eA,eB,seval],by simp only [↓eA,eB,seval],by simp only [↓eA,eB,seval],by simp only [↓eA,eB,seval],by simp only [↓eA,eB,seval],rfl,rfl⟩,trivial,trivial⟩
   | true=>
     rw [hty] at hhy
     rw [hI y (List.mem_of_getElem? hy) x (List.mem_of_getElem? hx) hty htx] at hc
     simp only [↓eA,eB,seval,l10025,h1,h2,h5,h7,h8,H2,H7,h12,h13,hk,hm,hx',hy',hhx,hhy,hc,List.length_map,hw]
     exact ⟨trivial,⟨by simp only [↓eA,eB,seval],by simp only [↓eA,eB,seval],by simp only [↓eA,eB,seval],by simp only [↓eA,eB,seval],by simp only [↓eA,eB,seval],rfl,rfl⟩,trivial,trivial⟩
 · rintro u e H ⟨⟨h1,h2,h5,h7,h8,H2,H7⟩,h12,h13⟩
   simp only [↓eA,eB,seval,l10025,h1,h2,h5,h7,h8,H2,H7,h12,h13,List.length_map,Nat.lt_irrefl]
   exact ⟨trivial,trivial,⟨by simp only [↓eA,eB,seval],by simp only [↓eA,eB,seval],by simp only [↓eA,eB,seval],by simp only [↓eA,eB,seval],by simp only [↓eA,eB,seval],rfl,rfl⟩,trivial,by first | trivial | rfl⟩
theorem lp_x22 (htl:tk.length < 1000000)(hbl:s.blocks.length < 1000000)(hI:∀ k∈s.blocks,∀ m∈s.blocks,taken tk k=true→taken tk m=false→clearB s.safety k.box m.box=true)(e:Env)(H:Heap)(hE:EnvX s o tk n i p e H)(h12:Gs.get e 12=int 0) :
   Ends T 10022 e H (fun X e' H'=>X = .ex 4∧EnvX s o tk n i p e' H'∧H'=HX s tk p):=by
 refine (loop_fold (T:=T) (key:=10022) (li:=l10022.1) rfl s.blocks (fun (u:Unit) _=>u)
   (fun k u e H=>EnvX s o tk n i p e H∧Gs.get e 12=int k)
   (fun u X e' H'=>X = .ex 4∧EnvX s o tk n i p e' H'∧H'=HX s tk p) ?_ ?_ () e H ⟨hE,h12⟩).mono fun _ _ _ h=>h
 · rintro k x u e H hx hk ⟨⟨h1,h2,h5,h7,h8,H2,H7⟩,h12⟩
   simp only [↓eA,eB,seval,l10022,h1,h2,h5,h7,h8,H2,H7,h12,hk,List.length_map]
   generalize hE:(lim T).loop 10025 _ _=R
   obtain ⟨X,e',H',rfl,rfl,⟨q1,q2,q5,q7,q8,Q2,Q7⟩,q12,rfl⟩:=Ends.at hE (lp_x25 s o tk n i p htl hbl hI k x hx _ _ ⟨by simp only [↓eA,eB,seval],by simp only [↓eA,eB,seval],by simp only [↓eA,eB,seval],by simp only [↓eA,eB,seval],by simp only [↓eA,eB,seval],rfl,rfl⟩ (by simp only [↓eA,eB,seval]) (by simp only [↓eA,eB,seval]))
   simp only [↓eA,eB,seval,q12,wrap_succ (show k < 4611686018427387904 by omega)]
   exact ⟨trivial,⟨by simp only [↓eA,eB,seval,q1],by simp only [↓eA,eB,seval,q2],by simp only [↓eA,eB,seval,q5],by simp only [↓eA,eB,seval,q7],by simp only [↓eA,eB,seval,q8],Q2,Q7⟩,trivial⟩
 · rintro u e H ⟨⟨h1,h2,h5,h7,h8,H2,H7⟩,h12⟩
   simp only [↓eA,eB,seval,l10022,h1,h2,h5,h7,h8,H2,H7,h12,List.length_map,Nat.lt_irrefl]
   exact ⟨trivial,trivial,⟨by simp only [↓eA,eB,seval],by simp only [↓eA,eB,seval],by simp only [↓eA,eB,seval],by simp only [↓eA,eB,seval],by simp only [↓eA,eB,seval],rfl,rfl⟩,by first | trivial | rfl⟩
end
theorem along {s:Site}(h0:startErr s []=0){o:List ByteArray}{n:Nat}(hn:n≤o.length)(hp:possO s [] (o.take n)=true){i:Nat}(hi:i < n) :
   Inv s (o.take i)∧∃ b∈s.blocks,o[i]?=some b.name∧possible s (o.take i) b=true∧o.take (i + 1)=o.take i ++ [b.name]:=by
 have hio:i < o.length:=by omega
 have hsp:o.take n=o.take i ++ o[i] :: (o.take n).drop (i + 1):=by
   have h1:(o.take n).take i=o.take i:=by rw [List.take_take,Nat.min_eq_left (by omega)]
   have hlt:i < (o.take n).length:=by rw [List.length_take]; omega
   have h2:=List.take_append_drop i (o.take n)
   have h3:(o.take n)[i]=o[i]:=by rw [List.getElem_take]
   rw [h1,List.drop_eq_getElem_cons hlt,h3] at h2
   exact h2.symm
 rw [hsp,poss_append] at hp
 simp only [Bool.and_eq_true,List.nil_append,possO] at hp
 obtain ⟨hp1,hp2,_⟩:=hp
 have hI:=poss_inv (o.take i) [] (inv_nil h0) hp1
 rw [List.nil_append] at hI
 obtain ⟨_,b,hb,hnm,hpb⟩:=free_facts hp2
 exact ⟨hI,b,hb,by rw [List.getElem?_eq_getElem hio,hnm],hpb,by rw [List.take_add_one,List.getElem?_eq_getElem hio,hnm]; rfl⟩
theorem lp_x10 (s:Site)(hF:s.Fit)(hs0:startErr s []=0)(o:List ByteArray)(ho:o.length < 1000)(n:Nat)(hn:n≤o.length)(hp:possO s [] (o.take n)=true)(e:Env)(H:Heap)(hE:EnvX s o [] n 0 0 e H) :
   Ends T 10010 e H (fun X e' H'=>X = .ex 0):=by
 refine (loop_upto (T:=T) (key:=10010) (li:=l10010.1) rfl (S:=Unit) (R:=Empty) (fun _ _=>.inr ()) n
   (fun i _ e H=>(∃ p,EnvX s o (o.take i) n i p e H)∧i≤n) (fun _ X e' H'=>False) (fun _ X e' H'=>X = .ex 0) ?_ ?_ ?_ n 0 () e H rfl ⟨⟨0,hE⟩,Nat.zero_le _⟩).mono fun X e' H' h=>?_
 · rintro i _ _ e H hi ⟨⟨p,h1,h2,h5,h7,h8,H2,H7⟩,_⟩ hf
   obtain ⟨hI,b,hb,hob,hpb,htk⟩:=along hs0 hn hp hi
   have hok:=site_ok (start_ok hI.st).1
   have hs:=sorted_of hok.srt
   have hbl:=hF.bl
   have hio:i < o.length:=by omega
   have hob':(o.map D.str)[i]?=some (.str b.name):=by simp [hob]
   have hI':=inv_step hI hb hpb
   have hcar:=e_Carries_ok s.blocks hF.bl b.name b (find_ok hok hb)
   have hcl:(sortB (namesOf (fun x=>leansB x.box b.box) s.blocks)).length < 1000000:=by
     rw [(sortB_perm _).length_eq]; have:=namesOf_len (fun x=>leansB x.box b.box) s.blocks; omega
   have hall:∀ x∈sortB (namesOf (fun x=>leansB x.box b.box) s.blocks),x∈o.take i:=by
     intro c hc
     have hm:=(sortB_perm _).mem_iff.1 hc
     unfold namesOf at hm
     obtain ⟨y,hy,rfl⟩:=List.mem_map.1 hm
     obtain ⟨hy1,hy2⟩:=List.mem_filter.1 hy
     exact taken_iff.1 (carries_taken hok hb hy1 hpb hy2)
   have htl:(o.take i).length < 1000000:=by simp; omega
   have htl':(o.take (i + 1)).length < 1000000:=by simp; omega
   have hmap:(o.take i).map D.str ++ [D.str b.name]=(o.take (i + 1)).map D.str:=by rw [htk]; simp
   have hlen:((o.take i).map D.str).length=i:=by simp; omega
   have hfit:fits ((o.take i).length + (0 + 1)) 16=true:=fits_of (by simp; omega)
   rw [←htk] at hI'
   have hh:=e_Hanging_none s hF false (o.take (i + 1)) htl' hI'.st (hang_none hI')
   simp only [↓eA,eB,seval,l10010,h1,h2,h5,h7,h8,H2,H7,hi,hio,hob',hcar,List.length_map]
   generalize hE:(lim T).loop 10016 _ _=R
   obtain ⟨X,e1,H1,rfl,rfl,⟨q1,q2,q5,q7,q8,_,_⟩,rfl⟩:=Ends.at hE (lp_x16 s o (o.take i) n i _ htl _ hcl hall _ _ ⟨by simp only [↓eA,eB,seval],by simp only [↓eA,eB,seval],by simp only [↓eA,eB,seval],by simp only [↓eA,eB,seval],by simp only [↓eA,eB,seval],rfl,rfl⟩ (by simp only [↓eA,eB,seval]) (by simp only [↓eA,eB,seval]))
   simp only [↓eA,eB,seval,q1,q2,q5,q7,q8,hio,hob',hfit,hmap,List.length_map,get_killE,killD,get_wipeB]
   generalize hE:(lim T).loop 10022 _ _=R
   obtain ⟨X,e3,H3,rfl,rfl,⟨u1,u2,u5,u7,u8,_,_⟩,rfl⟩:=Ends.at hE (lp_x22 s o (o.take (i + 1)) n i _ htl' hbl hI'.clr _ _ ⟨by simp only [↓eA,eB,seval,q1,get_killE,killD,get_wipeB],by simp only [↓eA,eB,seval,q2,get_killE,killD,get_wipeB],by simp only [↓eA,eB,seval,q5,get_killE,killD,get_wipeB],by simp only [↓eA,eB,seval,get_killE,killD,get_wipeB],by simp only [↓eA,eB,seval,q8,get_killE,killD,get_wipeB],rfl,rfl⟩ (by simp only [↓eA,eB,seval,get_killE,killD,get_wipeB]))
   simp only [↓eA,eB,seval,u1,u2,u5,u7,u8,hh,wrap_succ (show i < 4611686018427387904 by omega)]
   exact ⟨trivial,⟨_,by simp only [↓eA,eB,seval,u1],by simp only [↓eA,eB,seval,u2],by simp only [↓eA,eB,seval,u5],by simp only [↓eA,eB,seval,u7],by simp only [↓eA,eB,seval,u8],rfl,rfl⟩,by omega⟩
 · rintro i _ r; exact r.elim
 · rintro i _ e H hi ⟨⟨p,h1,h2,h5,h7,h8,H2,H7⟩,hi2⟩
   have:i=n:=by omega
   subst this
   simp only [↓eA,eB,seval,l10010,h1,h2,h5,h7,h8,H2,H7,Nat.lt_irrefl]
   and_intros<;>first | trivial | rfl
 · cases hu:upto (S:=Unit) (R:=Empty) (fun _ _=>.inr ()) n 0 () with
   | inl r=>exact r.elim
   | inr s=>rw [hu] at h; exact h
theorem e_xsafe (s:Site)(o:List ByteArray):L.call 10 [s.enc,strs o] []=some (.bool true,[]):=by
 obtain ⟨v,e1,hv⟩:=small21 s false o
 cases v with
 | false=>exact call_eq rfl rfl (by simp only [↓eA,eB,seval,c10,aw21,e1])
 | true=>
 obtain ⟨hF,ho,hb,_⟩:=hv rfl
 have f2:=e_xCheck s hF false o (by omega)
 cases hc:decide (chkErr s o=0) with
 | false=>
   rw [hc] at f2
   generalize chkErr s o=er at hc f2
   exact call_eq rfl rfl (by simp only [↓eA,eB,seval,c10,aw21,e1,f2,hc,List.length_map]<;>first | rfl | simp)
 | true=>
   have hc0:=of_decide_eq_true hc
   rw [hc0] at f2
   simp only [decide_true,cond_true] at f2
   obtain ⟨g1,_,_⟩:=chk_facts hc0
   have hst:=start_of g1 (tk:=[]) List.nodup_nil (by simp)
   have hge:=first_ge s o []
   simp only [List.length_nil,Nat.zero_add] at hge
   have hpo:possO s [] (o.take (firstF s [] o))=true:=by have:=first_take s o []; simpa using this
   exact call_eq rfl rfl (by
     simp only [↓eA,eB,seval,c10,aw21,e1,f2,List.length_map]
     generalize hE:(lim T).loop 10010 _ _=R
     obtain ⟨X,e',H',rfl,rfl⟩:=Ends.at hE (lp_x10 s hF hst o (by omega) (firstF s [] o) hge.2 hpo _ _ ⟨by simp only [↓eA,eB,seval],by simp only [↓eA,eB,seval],by simp only [↓eA,eB,seval],by simp only [↓eA,eB,seval],by simp only [↓eA,eB,seval],rfl,rfl⟩)
     simp only [↓eA,eB,seval])
end Tz.C18
