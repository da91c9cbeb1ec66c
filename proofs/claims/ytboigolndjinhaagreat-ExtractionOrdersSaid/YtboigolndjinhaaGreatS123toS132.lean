/- part S123; part S124; part S125; part S126; part S129; part S131; part S132; no conditions. -/
import Derived.Test.YtboigolndjinhaaGreatS98toS122
set_option linter.all false
set_option maxRecDepth 100000
open Gs Go
namespace Tz.C18
end Tz.C18
set_option maxRecDepth 100000
open Gs Go
namespace Tz.C18
end Tz.C18
set_option maxRecDepth 100000
open Gs Go
namespace Tz.C18
end Tz.C18
set_option maxRecDepth 100000
open Gs Go
namespace Tz.C18
theorem lp_rIndex (s:Site)(hF:s.Fit)(n:ByteArray)(e:Env)(H:Heap)(h1:Gs.get e 1 = .str n)(h2:Gs.get e 2 = .ptr 2 0)(h5:Gs.get e 5=int 0)(hH:hget H 2=some (.box s.cells false)) :
   Ends T 28002 e H (fun X e' H'=>match s.blocks.findIdx? (called n) with | some j=>X = .ret∧Gs.get e' 4=int j | none=>X = .ex 0):=by
 have hbl:=hF.bl
 refine (loop_thru (T:=T) (key:=28002) (li:=l28002.1) rfl (fun (i:Nat) (b:Block)=>bif called n b then .inl i else .inr (i + 1)) s.blocks
   (fun i t e H=>t=i∧Gs.get e 1 = .str n∧Gs.get e 2 = .ptr 2 0∧Gs.get e 5=int i∧hget H 2=some (.box s.cells false))
   (fun i X e' H'=>X = .ret∧Gs.get e' 4=int i) (fun _ X e' H'=>X = .ex 0) ?_ ?_ ?_ s.blocks [] 0 e H rfl ⟨rfl,h1,h2,h5,hH⟩).mono fun X e' H' h=>?_
 · rintro i b t t' e H hx ⟨rfl,h1,h2,h5,hH⟩ hf
   have hi:=(List.getElem?_eq_some_iff.1 hx).1
   have hx':(s.blocks.map Block.enc)[t]?=some b.enc:=by simp [hx]
   have hn:called n b=false:=by cases hb:called n b<;>simp_all
   rw [hn] at hf
   injection hf with hf; subst hf
   unfold called at hn
   simp only [↓eA,eB,seval,l28002,h1,h2,h5,hH,hi,hx',hn,wrap_succ (show t < 4611686018427387904 by omega)]
   and_intros<;>first | trivial | rfl
 · rintro i b t r e H hx ⟨rfl,h1,h2,h5,hH⟩ hf
   have hi:=(List.getElem?_eq_some_iff.1 hx).1
   have hx':(s.blocks.map Block.enc)[t]?=some b.enc:=by simp [hx]
   have hn:called n b=true:=by cases hb:called n b<;>simp_all
   rw [hn] at hf
   injection hf with hf; subst hf
   unfold called at hn
   simp only [↓eA,eB,seval,l28002,h1,h2,h5,hH,hi,hx',hn]
   and_intros<;>first | trivial | rfl
 · rintro t e H ⟨rfl,h1,h2,h5,hH⟩
   simp only [↓eA,eB,seval,l28002,h1,h2,h5,hH,Nat.lt_irrefl]
   and_intros<;>first | trivial | rfl
 · rw [thru_idx] at h
   cases hd:s.blocks.findIdx? (called n)<;>rw [hd] at h
   · exact h
   · simpa using h
theorem e_rIndex (s:Site)(hF:s.Fit)(n:ByteArray):L.call 28 [s.enc,.str n] []=some (int (idxOf (called n) s.blocks),[]):=
 call_eq rfl rfl (by
   simp only [↓eA,eB,seval,c28]
   generalize hE:(lim T).loop 28002 _ _=R
   obtain ⟨X,e',H',rfl,hp⟩:=Ends.at hE (lp_rIndex s hF n _ _ (by simp only [↓eA,eB,seval]) (by simp only [↓eA,eB,seval]) (by simp only [↓eA,eB,seval]) rfl)
   unfold idxOf
   cases hf:s.blocks.findIdx? (called n) with
   | some j=>rw [hf] at hp; obtain ⟨rfl,g4⟩:=hp; simp only [↓eA,eB,seval,g4]
   | none=>rw [hf] at hp; subst hp; simp only [↓eA,eB,seval])
end Tz.C18
set_option maxRecDepth 100000
open Gs Go
namespace Tz.C18
theorem e_CloneS (nz:Bool)(o:List ByteArray)(h0:o≠[])(hl:o.length < 1000000):L.call 64 [strz nz o] []=some (.ow 600001,[(600001,.row false 1 (o.map .str) 0 true)]):=by
 obtain ⟨x,r,rfl⟩:∃ x r,o=x :: r:=by cases o with | nil=>exact absurd rfl h0 | cons x r=>exact ⟨x,r,rfl⟩
 have hfit:fits (0 + (r.length + 1)) 16=true:=fits_of (by simp at hl; omega)
 show L.call 64 [.fz nz 1 (.str x :: r.map .str)] []=some (.ow 600001,[(600001,.row false 1 (.str x :: r.map .str) 0 true)])
 cases nz<;>exact call_eq rfl rfl (by simp only [↓eA,eB,seval,c64,hfit,List.length_map,List.isEmpty_cons])
def swapL (o:List ByteArray)(k:Nat):List ByteArray:=(o.set k (o.getD (k + 1) .empty)).set (k + 1) (o.getD k .empty)
theorem swap_mem {o:List ByteArray}{k:Nat}(hk:k + 1 < o.length):∀ n∈swapL o k,n∈o:=by
 intro n hn
 unfold swapL at hn
 rcases List.mem_or_eq_of_mem_set hn with hn | rfl
 · rcases List.mem_or_eq_of_mem_set hn with hn | rfl
   · exact hn
   · rw [List.getD_eq_getElem?_getD,List.getElem?_eq_getElem hk]; exact List.getElem_mem hk
 · rw [List.getD_eq_getElem?_getD,List.getElem?_eq_getElem (show k < o.length by omega)]; exact List.getElem_mem (show k < o.length by omega)
def swapR (s:Site)(o:List ByteArray)(i:Int):Bool×Int:=bif !decide (chkErr s o=0) then (false,chkErr s o) else bif !possO s [] o then (false,10) else bif decide (i < 0) || decide ((o.length:Int) - 2 < i) then (false,6) else (possO s [] (swapL o i.toNat),0)
theorem e_xSwap (s:Site)(hF:s.Fit)(nz:Bool)(o:List ByteArray)(ho:o.length < 1000000)(i:Int):L.call 30 [s.enc,strz nz o,int i] []=some (.tup [.bool (swapR s o i).1,int (swapR s o i).2],[]):=by
 have f1:=e_xcheck s hF nz o ho
 unfold swapR
 cases hc:decide (chkErr s o=0) with
 | false=>
   generalize chkErr s o=er at hc f1
   exact call_eq rfl rfl (by simp only [↓eA,eB,seval,c30,f1,hc])
 | true=>
 rw [of_decide_eq_true hc] at f1
 have f2:=e_xpossible s hF nz o ho
 cases hp:possO s [] o with
 | false=>rw [hp] at f2; exact call_eq rfl rfl (by simp only [↓eA,eB,seval,c30,f1,f2])
 | true=>
 rw [hp] at f2
 have hw:IntKind.i64.wrap ((o.length:Int) - 2)=(o.length:Int) - 2:=wrap_in (by omega) (by omega)
 cases hi:decide (i < 0) with
 | true=>exact call_eq rfl rfl (by simp only [↓eA,eB,seval,c30,f1,f2,hi,hw,List.length_map])
 | false=>
 cases hj:decide ((o.length:Int) - 2 < i) with
 | true=>exact call_eq rfl rfl (by simp only [↓eA,eB,seval,c30,f1,f2,hi,hj,hw,List.length_map])
 | false=>
 have h0:=of_decide_eq_false hi
 have h1:=of_decide_eq_false hj
 obtain ⟨k,rfl⟩:∃ k:Nat,i=k:=⟨i.toNat,by omega⟩
 have hk:k + 1 < o.length:=by omega
 have hk0:k < o.length:=by omega
 have hne:o≠[]:=by intro h; rw [h] at hk; simp at hk
 have f3:=e_CloneS nz o hne ho
 have hml:(o.map D.str).length=o.length:=by simp
 have g0:(o.map D.str)[k]?=some (.str o[k]):=by simp [List.getElem?_eq_getElem hk0]
 have g1:(o.map D.str)[k + 1]?=some (.str o[k + 1]):=by simp [List.getElem?_eq_getElem hk]
 have e0:o.getD k .empty=o[k]:=by rw [List.getD_eq_getElem?_getD,List.getElem?_eq_getElem hk0]; rfl
 have e1:o.getD (k + 1) .empty=o[k + 1]:=by rw [List.getD_eq_getElem?_getD,List.getElem?_eq_getElem hk]; rfl
 have hM:((o.map D.str).set k (.str o[k + 1])).set (k + 1) (.str o[k])=(swapL o k).map D.str:=by
   unfold swapL; rw [e0,e1,List.map_set,List.map_set]
 have hsl:(swapL o k).length=o.length:=by simp [swapL]
 have f4:=e_xpossible s hF false (swapL o k) (by omega)
 have hws:=wrap_succ (show k < 4611686018427387904 by omega)
 generalize o[k]=x at g0 hM
 generalize o[k + 1]=y at g1 hM
 have g1':((o.map D.str).set k (.str y))[k + 1]?=some (.str y):=by rw [List.getElem?_set_ne (by omega)]; exact g1
 have hz1:decide (0≤k + 1)=true:=by simp
 have hz0:decide (0≤k)=true:=by simp
 rw [Int.toNat_natCast]
 refine call_eq rfl rfl ?_
 simp only [↓eA,eB,seval,c30,f1,f2,f3,hi,hj,hw,hk,hk0,g0,g1,g1',hM,f4,hws,hz0,hz1,hml,List.length_map,List.length_set]
def lvlN (s:Site)(n:ByteArray):Nat:=match s.blocks.find? (called n) with
  | some b=>lvlB s b
  | none=>0
theorem lvlN_eq {s:Site}(hok:SiteOk s){b:Block}(hb:b∈s.blocks):lvlN s b.name=lvlB s b:=by
 unfold lvlN; rw [sorted_find (sorted_of hok.srt) hb]
def addAt (a:List Int)(j:Nat):List Int:=a.set j (a.getD j 0 + 1)
def reachF (s:Site)(o:List ByteArray):List Int:=o.foldl (fun a n=>addAt a (lvlN s n)) (List.replicate s.benches.length 0)
theorem addAt_len (a:List Int)(j:Nat):(addAt a j).length=a.length:=by simp [addAt]
theorem addAt_bd {a:List Int}{j i:Nat}(h:∀ x∈a,0≤x∧x≤(i:Int)):∀ x∈addAt a j,0≤x∧x≤((i + 1:Nat):Int):=by
 intro x hx
 unfold addAt at hx
 rcases List.mem_or_eq_of_mem_set hx with hx | rfl
 · have:=h x hx; omega
 · rw [List.getD_eq_getElem?_getD]
   cases hj:a[j]? with
   | none=>simp; omega
   | some v=>have:=h v (List.mem_of_getElem? hj); simp; omega
theorem known_name {s:Site}{o:List ByteArray}(hu:o.any (unknown s)=false){n:ByteArray}(hn:n∈o):∃ b∈s.blocks,b.name=n:=by
 have:=List.any_eq_false.1 hu n hn
 simp only [unknown,Bool.not_eq_true',Bool.not_eq_false] at this
 obtain ⟨b,hb,he⟩:=List.any_eq_true.1 this
 exact ⟨b,hb,seq_iff.1 he⟩
theorem lp_reach (s:Site)(hF:s.Fit)(h0:siteErr s=0)(nz:Bool)(o:List ByteArray)(ho:o.length < 1000000)(hu:o.any (unknown s)=false)(e:Env)(H:Heap)(h2:Gs.get e 2 = .ptr 2 0)(h7:Gs.get e 7 = .ow 1025)(h26:Gs.get e 26=strz nz o)(h27:Gs.get e 27=int o.length)(h28:Gs.get e 28=int 0)
   (H2:hget H 2=some (.box s.cells false)) (H7:hget H 1025=some (.row false 1 ((List.replicate s.benches.length (0:Int)).map (.int .i64)) 0 true)) :
   Ends T 31008 e H (fun X e' H'=>X = .ex 0∧Gs.get e' 7 = .ow 1025∧H'=[(2,.box s.cells false),(1025,.row false 1 ((reachF s o).map (.int .i64)) 0 true)]):=by
 have hok:=site_ok h0
 refine (loop_fold (T:=T) (key:=31008) (li:=l31008.1) rfl o (fun a n=>addAt a (lvlN s n))
   (fun i a e H=>Gs.get e 2 = .ptr 2 0∧Gs.get e 7 = .ow 1025∧Gs.get e 26=strz nz o∧Gs.get e 27=int o.length∧Gs.get e 28=int i∧hget H 2=some (.box s.cells false)∧hget H 1025=some (.row false 1 (a.map (.int .i64)) 0 true)∧a.length=s.benches.length∧∀ x∈a,0≤x∧x≤(i:Int))
   (fun a X e' H'=>X = .ex 0∧Gs.get e' 7 = .ow 1025∧H'=[(2,.box s.cells false),(1025,.row false 1 (a.map (.int .i64)) 0 true)]) ?_ ?_ _ e H ⟨h2,h7,h26,h27,h28,H2,H7,by simp,fun x hx=>by rw [List.eq_of_mem_replicate hx]; omega⟩).mono fun X e' H' h=>h
 · rintro i n a e H hx hi ⟨h2,h7,h26,h27,h28,H2,H7,hal,hab⟩
   have hx':(o.map D.str)[i]?=some (.str n):=by simp [hx]
   obtain ⟨b,hb,rfl⟩:=known_name hu (List.mem_of_getElem? hx)
   have hlv:=e_Level s hF hok h0 hb
   have hlt:=(lvl_ok hok hb).2.2
   rw [←hal] at hlt
   rw [lvlN_eq hok hb]
   generalize lvlB s b=j at hlv hlt
   have hj:a[j]?=some a[j]:=List.getElem?_eq_getElem hlt
   have hj':(a.map (D.int .i64))[j]?=some (.int .i64 a[j]):=by simp [hj]
   have hbd:=hab _ (List.getElem_mem hlt)
   have hw:IntKind.i64.wrap (a[j] + 1)=a[j] + 1:=wrap_in (by omega) (by omega)
   have hset:(a.map (D.int .i64)).set j (.int .i64 (a[j] + 1))=(addAt a j).map (.int .i64):=by
     unfold addAt; rw [List.map_set,List.getD_eq_getElem?_getD,hj]; rfl
   have hz0:decide (0≤j)=true:=by simp
   simp only [↓eA,eB,seval,l31008,h2,h7,h26,h27,h28,H2,H7,hi,hx',hlv,hlt,hj',hw,hset,hz0,List.length_map,wrap_succ (show i < 4611686018427387904 by omega)]
   exact ⟨trivial,trivial,trivial,trivial,trivial,trivial,trivial,trivial,by rw [addAt_len]; exact hal,addAt_bd hab⟩
 · rintro a e H ⟨h2,h7,h26,h27,h28,H2,H7,hal,hab⟩
   simp only [↓eA,eB,seval,l31008,h2,h7,h26,h27,h28,H2,H7,Nat.lt_irrefl]
   and_intros<;>first | trivial | rfl
def reachR (s:Site)(o:List ByteArray):D×Int:=bif !decide (chkErr s o=0) then (.fz true 1 [],chkErr s o) else bif !possO s [] o then (.fz true 1 [],10) else (.fz false 1 ((reachF s o).map (.int .i64)),0)
theorem e_xReach (s:Site)(hF:s.Fit)(nz:Bool)(o:List ByteArray)(ho:o.length < 1000000):L.call 31 [s.enc,strz nz o] []=some (.tup [(reachR s o).1,int (reachR s o).2],[]):=by
 have f1:=e_xcheck s hF nz o ho
 unfold reachR
 cases hc:decide (chkErr s o=0) with
 | false=>
   generalize chkErr s o=er at hc f1
   exact call_eq rfl rfl (by simp only [↓eA,eB,seval,c31,f1,hc])
 | true=>
 obtain ⟨h0,_,hu⟩:=chk_facts (of_decide_eq_true hc)
 rw [of_decide_eq_true hc] at f1
 have f2:=e_xpossible s hF nz o ho
 cases hp:possO s [] o with
 | false=>rw [hp] at f2; exact call_eq rfl rfl (by simp only [↓eA,eB,seval,c31,f1,f2])
 | true=>
 rw [hp] at f2
 have hbe:=hF.be
 have hfit:fits s.benches.length 8=true:=fits_of (by omega)
 have hnn:decide (0≤(s.benches.length:Int))=true:=decide_eq_true (by omega)
 have hrep:List.replicate s.benches.length (D.int .i64 0)=(List.replicate s.benches.length (0:Int)).map (.int .i64):=by simp
 exact call_eq rfl rfl (by
   simp only [↓eA,eB,seval,c31,f1,f2,hfit,hnn,hrep,List.length_map]
   generalize hE:(lim T).loop 31008 _ _=R
   obtain ⟨X,e',H',rfl,rfl,g7,rfl⟩:=Ends.at hE (lp_reach s hF h0 nz o ho hu _ _ (by simp only [↓eA,eB,seval]) (by simp only [↓eA,eB,seval]) (by simp only [↓eA,eB,seval]) (by simp only [↓eA,eB,seval]) (by simp only [↓eA,eB,seval]) rfl rfl)
   simp only [↓eA,eB,seval,g7])
end Tz.C18
set_option maxRecDepth 100000
open Gs Go
namespace Tz.C18
theorem lp_rOrd (s:Site)(hF:s.Fit)(nz:Bool)(o:List ByteArray)(ho:o.length < 1000000)(e:Env)(H:Heap)(h1:Gs.get e 1=strz nz o)(h2:Gs.get e 2 = .ptr 2 0)(h6:Gs.get e 6=int 0)(H2:hget H 2=some (.box s.cells false)) :
   Ends T 32007 e H (fun X e' H'=>match o.any (unknown s) with | true=>X = .ret∧Gs.get e' 4=int 3 | false=>X = .ex 0):=by
 refine (loop_anyH (T:=T) (key:=32007) (li:=l32007.1) rfl o (unknown s) (fun i e H=>Gs.get e 1=strz nz o∧Gs.get e 2 = .ptr 2 0∧Gs.get e 6=int i∧hget H 2=some (.box s.cells false))
   (fun X e' H'=>X = .ret∧Gs.get e' 4=int 3) (fun X e' H'=>X = .ex 0) ?_ ?_ e H ⟨h1,h2,h6,H2⟩).mono fun X e' H' h=>by cases hf:o.any (unknown s)<;>rw [hf] at h<;>exact h
 · rintro i n e H hx hi ⟨h1,h2,h6,H2⟩
   have hx':(o.map D.str)[i]?=some (.str n):=by simp [hx]
   have hq:=e_rIndex s hF n
   have hz:decide (idxOf (called n) s.blocks < 0)=unknown s n:=idx_lt0 _ _
   cases hu:unknown s n<;>rw [hu] at hz<;>simp only [↓eA,eB,seval,l32007,h1,h2,h6,H2,hi,hx',hq,hz,List.length_map,wrap_succ (show i < 4611686018427387904 by omega)]<;>and_intros<;>first | trivial | rfl
 · rintro e H ⟨h1,h2,h6,H2⟩
   simp only [↓eA,eB,seval,l32007,h1,h2,h6,H2,List.length_map,Nat.lt_irrefl]
   and_intros<;>first | trivial | rfl
theorem e_rOrder (s:Site)(hF:s.Fit)(nz:Bool)(o:List ByteArray)(ho:o.length < 1000000):L.call 32 [s.enc,strz nz o] []=some (int (chkErr s o),[]):=by
 have h1:=e_rSite s hF
 rw [site_eq] at h1
 unfold chkErr
 cases hs:decide (siteErr s=0) with
 | false=>exact call_eq rfl rfl (by simp only [↓eA,eB,seval,c32,h1,hs])
 | true=>
 cases hl:decide (256 < (o.length:Int)) with
 | true=>exact call_eq rfl rfl (by simp only [↓eA,eB,seval,c32,h1,hs,hl,List.length_map])
 | false=>
 exact call_eq rfl rfl (by
   simp only [↓eA,eB,seval,c32,h1,hs,hl,List.length_map]
   generalize hE:(lim T).loop 32007 _ _=R
   obtain ⟨X,e',H',rfl,hp⟩:=Ends.at hE (lp_rOrd s hF nz o ho _ _ (by simp only [↓eA,eB,seval]) (by simp only [↓eA,eB,seval]) (by simp only [↓eA,eB,seval]) rfl)
   cases hu:o.any (unknown s) with
   | true=>rw [hu] at hp; obtain ⟨rfl,g4⟩:=hp; simp only [↓eA,eB,seval,g4]
   | false=>rw [hu] at hp; subst hp; simp only [↓eA,eB,seval])
theorem thru_first (s:Site):∀ (r t:List ByteArray),(match thru (R:=Nat) (fun (t:List ByteArray) (n:ByteArray)=>bif freeN s t n then .inr (t ++ [n]) else .inl t.length) r t with | .inl k=>firstF s t r=k | .inr _=>firstF s t r=t.length + r.length):=by
 intro r
 induction r with
 | nil=>intro t; simp [thru,firstF]
 | cons n r ih=>
   intro t
   unfold firstF thru
   cases hfr:freeN s t n with
   | false=>simp
   | true=>
     have:=ih (t ++ [n])
     simp only [cond_true]
     cases hr:thru (R:=Nat) (fun (t:List ByteArray) (n:ByteArray)=>bif freeN s t n then .inr (t ++ [n]) else .inl t.length) r (t ++ [n]) with
     | inl k=>rw [hr] at this; exact this
     | inr u=>rw [hr] at this; simp only at this ⊢; rw [this]; simp; omega
theorem free_poss {s:Site}(hok:SiteOk s){t:List ByteArray}(hst:startErr s t=0){b:Block}(hb:b∈s.blocks):freeN s t b.name=possible s t b:=by
 unfold freeN
 rw [decide_eq_true hst,sorted_find (sorted_of hok.srt) hb]; rfl
theorem lp_rfirst (s:Site)(hF:s.Fit)(h0:siteErr s=0)(h12:s.blocks.length≤12)(nz:Bool)(o:List ByteArray)(ho:o.length < 1000000)(hu:∀ n∈o,∃ b∈s.blocks,b.name=n)(e:Env)(H:Heap)(h1:Gs.get e 1=strz nz o)(h2:Gs.get e 2 = .ptr 2 0)(h5:Gs.get e 5=int 0)(H2:hget H 2=some (.box s.cells false)) :
   Ends T 33002 e H (fun X e' H'=>(X = .ret∧Gs.get e' 4=int (firstF s [] o))∨(X = .ex 0∧Gs.get e' 1=strz nz o∧firstF s [] o=o.length)):=by
 have hok:=site_ok h0
 refine (loop_thru (T:=T) (key:=33002) (li:=l33002.1) rfl (fun (t:List ByteArray) (n:ByteArray)=>bif freeN s t n then .inr (t ++ [n]) else .inl t.length) o
   (fun i t e H=>Gs.get e 1=strz nz o∧Gs.get e 2 = .ptr 2 0∧Gs.get e 5=int i∧hget H 2=some (.box s.cells false)∧t=o.take i∧Inv s t)
   (fun (r:Nat) X e' H'=>X = .ret∧Gs.get e' 4=int r) (fun t X e' H'=>X = .ex 0∧Gs.get e' 1=strz nz o) ?_ ?_ ?_ o [] [] e H rfl ⟨h1,h2,h5,H2,rfl,inv_nil (start_of h0 List.nodup_nil (by simp))⟩).mono fun X e' H' h=>?_
 · rintro i n t t' e H hx ⟨h1,h2,h5,H2,rfl,hI⟩ hf
   have hi:=(List.getElem?_eq_some_iff.1 hx).1
   have hx':(o.map D.str)[i]?=some (.str n):=by simp [hx]
   obtain ⟨b,hb,rfl⟩:=hu n (List.mem_of_getElem? hx)
   have hfr:freeN s (o.take i) b.name=true:=by cases hb:freeN s (o.take i) b.name<;>simp_all
   rw [hfr] at hf
   have hpb:possible s (o.take i) b=true:=by rw [←free_poss hok hI.st hb]; exact hfr
   have hq:=fun nz=>e_rWhy hok hF h12 nz (o.take i) (by simp; omega) hb
   have hz:decide ((whyB s (o.take i) b).1=0)=true:=hpb
   have hinc:inc 0 i=true:=by simp [inc]
   have hle:decide (i≤o.length)=true:=decide_eq_true (by omega)
   injection hf with hf
   simp only [↓eA,eB,seval,l33002,h1,h2,h5,H2,hi,hx',hq,hz,cut_str,hinc,hle,Nat.sub_zero,List.length_map,wrap_succ (show i < 4611686018427387904 by omega)]
   have ht:t'=o.take (i + 1):=by rw [←hf,List.take_add_one,hx]; rfl
   exact ⟨trivial,trivial,trivial,trivial,trivial,ht,by rw [←hf]; exact inv_step hI hb hpb⟩
 · rintro i n t r e H hx ⟨h1,h2,h5,H2,rfl,hI⟩ hf
   have hi:=(List.getElem?_eq_some_iff.1 hx).1
   have hx':(o.map D.str)[i]?=some (.str n):=by simp [hx]
   obtain ⟨b,hb,rfl⟩:=hu n (List.mem_of_getElem? hx)
   have hfr:freeN s (o.take i) b.name=false:=by cases hb:freeN s (o.take i) b.name<;>simp_all
   rw [hfr] at hf
   have hq:=fun nz=>e_rWhy hok hF h12 nz (o.take i) (by simp; omega) hb
   have hz:decide ((whyB s (o.take i) b).1=0)=false:=by rw [free_poss hok hI.st hb] at hfr; exact hfr
   have hinc:inc 0 i=true:=by simp [inc]
   have hle:decide (i≤o.length)=true:=decide_eq_true (by omega)
   injection hf with hf
   have hr:r=i:=by rw [←hf]; simp; omega
   subst hr
   simp only [↓eA,eB,seval,l33002,h1,h2,h5,H2,hi,hx',hq,hz,cut_str,hinc,hle,Nat.sub_zero,List.length_map]
   and_intros<;>first | trivial | rfl
 · rintro t e H ⟨h1,h2,h5,H2,ht,hI⟩
   simp only [↓eA,eB,seval,l33002,h1,h2,h5,H2,Nat.lt_irrefl,List.length_map]
   and_intros<;>first | trivial | rfl
 · have hk:=thru_first s o []
   cases hr:thru (R:=Nat) (fun (t:List ByteArray) (n:ByteArray)=>bif freeN s t n then .inr (t ++ [n]) else .inl t.length) o [] with
   | inl k=>rw [hr] at h hk; exact .inl ⟨h.1,by rw [hk]; exact h.2⟩
   | inr u=>rw [hr] at h hk; exact .inr ⟨h.1,h.2,by simpa using hk⟩
theorem e_rFirst (s:Site)(hF:s.Fit)(h0:siteErr s=0)(h12:s.blocks.length≤12)(nz:Bool)(o:List ByteArray)(ho:o.length < 1000000)(hu:∀ n∈o,∃ b∈s.blocks,b.name=n):L.call 33 [s.enc,strz nz o] []=some (int (firstF s [] o),[]):=
 call_eq rfl rfl (by
   simp only [↓eA,eB,seval,c33,List.length_map]
   generalize hE:(lim T).loop 33002 _ _=R
   obtain ⟨X,e',H',rfl,hp⟩:=Ends.at hE (lp_rfirst s hF h0 h12 nz o ho hu _ _ (by simp only [↓eA,eB,seval]) (by simp only [↓eA,eB,seval]) (by simp only [↓eA,eB,seval]) rfl)
   rcases hp with ⟨rfl,g4⟩ | ⟨rfl,g1,g2⟩
   · simp only [↓eA,eB,seval,g4]
   · rw [g2]; simp only [↓eA,eB,seval,g1,List.length_map])
theorem e_rPossible (s:Site)(hF:s.Fit)(h0:siteErr s=0)(h12:s.blocks.length≤12)(nz:Bool)(o:List ByteArray)(ho:o.length < 1000000)(hu:∀ n∈o,∃ b∈s.blocks,b.name=n):L.call 36 [s.enc,strz nz o] []=some (.bool (possO s [] o),[]):=by
 have h1:=e_rFirst s hF h0 h12 nz o ho hu
 have h2:=first_poss s o []
 rw [List.length_nil,Nat.zero_add] at h2
 rw [←h2]
 have h3:decide ((firstF s [] o:Int)=(o.length:Int))=decide (firstF s [] o=o.length):=by
   by_cases h:firstF s [] o=o.length
   · rw [h]; simp
   · rw [decide_eq_false h,decide_eq_false (by omega)]
 exact call_eq rfl rfl (by simp only [↓eA,eB,seval,c36,h1,h3,List.length_map])
theorem lp_rreach (s:Site)(hF:s.Fit)(h0:siteErr s=0)(nz:Bool)(o:List ByteArray)(ho:o.length < 1000000)(hu:∀ n∈o,∃ b∈s.blocks,b.name=n)(e:Env)(H:Heap)(h1:Gs.get e 1=strz nz o)(h2:Gs.get e 2 = .ptr 2 0)(h5:Gs.get e 5 = .ow 1010)(h6:Gs.get e 6=int 0)
   (H2:hget H 2=some (.box s.cells false)) (H5:hget H 1010=some (.row false 1 ((List.replicate s.benches.length (0:Int)).map (.int .i64)) 0 true)) :
   Ends T 35003 e H (fun X e' H'=>X = .ex 0∧Gs.get e' 5 = .ow 1010∧H'=[(2,.box s.cells false),(1010,.row false 1 ((reachF s o).map (.int .i64)) 0 true)]):=by
 have hok:=site_ok h0
 refine (loop_fold (T:=T) (key:=35003) (li:=l35003.1) rfl o (fun a n=>addAt a (lvlN s n))
   (fun i a e H=>Gs.get e 1=strz nz o∧Gs.get e 2 = .ptr 2 0∧Gs.get e 5 = .ow 1010∧Gs.get e 6=int i∧hget H 2=some (.box s.cells false)∧hget H 1010=some (.row false 1 (a.map (.int .i64)) 0 true)∧a.length=s.benches.length∧∀ x∈a,0≤x∧x≤(i:Int))
   (fun a X e' H'=>X = .ex 0∧Gs.get e' 5 = .ow 1010∧H'=[(2,.box s.cells false),(1010,.row false 1 (a.map (.int .i64)) 0 true)]) ?_ ?_ _ e H ⟨h1,h2,h5,h6,H2,H5,by simp,fun x hx=>by rw [List.eq_of_mem_replicate hx]; omega⟩).mono fun X e' H' h=>h
 · rintro i n a e H hx hi ⟨h1,h2,h5,h6,H2,H5,hal,hab⟩
   have hx':(o.map D.str)[i]?=some (.str n):=by simp [hx]
   obtain ⟨b,hb,rfl⟩:=hu n (List.mem_of_getElem? hx)
   obtain ⟨k,hk,hkb⟩:=find_idx _ (sorted_find (sorted_of hok.srt) hb)
   have hq:=e_rIndex s hF b.name
   have hki:idxOf (called b.name) s.blocks=(k:Int):=by unfold idxOf; rw [hk]
   rw [hki] at hq
   have hlv:=e_rLevel s hF k b hkb
   obtain ⟨_,hl2,hlt⟩:=lvl_ok hok hb
   rw [hl2] at hlv
   rw [←hal] at hlt
   rw [lvlN_eq hok hb]
   generalize lvlB s b=j at hlv hlt
   have hj:a[j]?=some a[j]:=List.getElem?_eq_getElem hlt
   have hj':(a.map (D.int .i64))[j]?=some (.int .i64 a[j]):=by simp [hj]
   have hbd:=hab _ (List.getElem_mem hlt)
   have hw:IntKind.i64.wrap (a[j] + 1)=a[j] + 1:=wrap_in (by omega) (by omega)
   have hset:(a.map (D.int .i64)).set j (.int .i64 (a[j] + 1))=(addAt a j).map (.int .i64):=by
     unfold addAt; rw [List.map_set,List.getD_eq_getElem?_getD,hj]; rfl
   have hz0:decide (0≤j)=true:=by simp
   simp only [↓eA,eB,seval,l35003,h1,h2,h5,h6,H2,H5,hi,hx',hq,hlv,hlt,hj',hw,hset,hz0,List.length_map,wrap_succ (show i < 4611686018427387904 by omega)]
   exact ⟨trivial,trivial,trivial,trivial,trivial,trivial,trivial,by rw [addAt_len]; exact hal,addAt_bd hab⟩
 · rintro a e H ⟨h1,h2,h5,h6,H2,H5,hal,hab⟩
   simp only [↓eA,eB,seval,l35003,h1,h2,h5,h6,H2,H5,List.length_map,Nat.lt_irrefl]
   and_intros<;>first | trivial | rfl
theorem e_rReach (s:Site)(hF:s.Fit)(h0:siteErr s=0)(nz:Bool)(o:List ByteArray)(ho:o.length < 1000000)(hu:∀ n∈o,∃ b∈s.blocks,b.name=n):L.call 35 [s.enc,strz nz o] []=some (.fz false 1 ((reachF s o).map (.int .i64)),[]):=by
 have hbe:=hF.be
 have hfit:fits s.benches.length 8=true:=fits_of (by omega)
 have hnn:decide (0≤(s.benches.length:Int))=true:=decide_eq_true (by omega)
 have hrep:List.replicate s.benches.length (D.int .i64 0)=(List.replicate s.benches.length (0:Int)).map (.int .i64):=by simp
 exact call_eq rfl rfl (by
   simp only [↓eA,eB,seval,c35,hfit,hnn,hrep,List.length_map]
   generalize hE:(lim T).loop 35003 _ _=R
   obtain ⟨X,e',H',rfl,rfl,g5,rfl⟩:=Ends.at hE (lp_rreach s hF h0 nz o ho hu _ _ (by simp only [↓eA,eB,seval]) (by simp only [↓eA,eB,seval]) (by simp only [↓eA,eB,seval]) (by simp only [↓eA,eB,seval]) rfl rfl)
   simp only [↓eA,eB,seval,g5])
theorem lp_sameI (n1 n2:Bool)(a:List Int)(hl:a.length < 1000000)(e:Env)(H:Heap)(h0:Gs.get e 0 = .fz n1 1 (a.map (.int .i64)))(h1:Gs.get e 1 = .fz n2 1 (a.map (.int .i64)))(h5:Gs.get e 5=int 0) :
   Ends T 34004 e H (fun X e' H'=>X = .ex 0):=by
 refine (loop_fold (T:=T) (key:=34004) (li:=l34004.1) rfl a (fun (u:Unit) _=>u)
   (fun i u e H=>Gs.get e 0 = .fz n1 1 (a.map (.int .i64))∧Gs.get e 1 = .fz n2 1 (a.map (.int .i64))∧Gs.get e 5=int i)
   (fun u X e' H'=>X = .ex 0) ?_ ?_ () e H ⟨h0,h1,h5⟩).mono fun X e' H' h=>h
 · rintro i x u e H hx hi ⟨h0,h1,h5⟩
   have hx':(a.map (D.int .i64))[i]?=some (.int .i64 x):=by simp [hx]
   simp only [↓eA,eB,seval,l34004,h0,h1,h5,hi,hx',List.length_map,wrap_succ (show i < 4611686018427387904 by omega)]
   and_intros<;>first | trivial | rfl
 · rintro u e H ⟨h0,h1,h5⟩
   simp only [↓eA,eB,seval,l34004,h0,h1,h5,List.length_map,Nat.lt_irrefl]
   and_intros<;>first | trivial | rfl
theorem e_sameI (n1 n2:Bool)(a:List Int)(hl:a.length < 1000000):L.call 34 [.fz n1 1 (a.map (.int .i64)),.fz n2 1 (a.map (.int .i64))] []=some (.bool true,[]):=
 call_eq rfl rfl (by
   simp only [↓eA,eB,seval,c34,List.length_map]
   generalize hE:(lim T).loop 34004 _ _=R
   obtain ⟨X,e',H',rfl,rfl⟩:=Ends.at hE (lp_sameI n1 n2 a hl _ _ (by simp only [↓eA,eB,seval]) (by simp only [↓eA,eB,seval]) (by simp only [↓eA,eB,seval]))
   simp only [↓eA,eB,seval])
end Tz.C18
set_option maxRecDepth 100000
open Gs Go
namespace Tz.C18
theorem xfold_len (s:Site):∀ (o:List ByteArray) (a:List Int),(o.foldl (fun a n=>addAt a (lvlN s n)) a).length=a.length
 | [],a=>rfl
 | n :: o,a=>by rw [List.foldl_cons,xfold_len s o,addAt_len]
theorem reach_len (s:Site)(o:List ByteArray):(reachF s o).length=s.benches.length:=by unfold reachF; rw [xfold_len]; simp
set_option maxHeartbeats 2000000 in
theorem e_xorders (s:Site)(o:List ByteArray)(i:Int):L.call 9 [s.enc,strs o,int i] []=some (.bool true,[]):=by
 obtain ⟨v,e1,hv⟩:=small21 s false o
 cases v with
 | false=>exact call_eq rfl rfl (by simp only [↓eA,eB,seval,c9,aw21,e1])
 | true=>
 obtain ⟨hF,ho,hb,_⟩:=hv rfl
 have hol:o.length < 1000000:=by omega
 have f2:=e_xCheck s hF false o hol
 have f3:=e_xSwap s hF false o hol i
 have f4:=e_xReach s hF false o hol
 have f5:=e_rOrder s hF false o hol
 unfold swapR at f3
 unfold reachR at f4
 cases hc:decide (chkErr s o=0) with
 | false=>
   rw [hc] at f2 f3 f4
   generalize chkErr s o=er at hc f2 f3 f4 f5
   exact call_eq rfl rfl (by simp only [↓eA,eB,seval,c9,aw21,e1,f2,f3,f4,f5,hc,List.length_nil]<;>first | rfl | simp)
 | true=>
 have hc0:=of_decide_eq_true hc
 rw [hc] at f2 f3 f4
 rw [hc0] at f2 f5
 obtain ⟨h0,_,hu⟩:=chk_facts hc0
 have hok:=site_ok h0
 have h12:=few12 hok hb
 have hk:∀ n∈o,∃ b∈s.blocks,b.name=n:=fun n hn=>known_name hu hn
 have f6:=e_rFirst s hF h0 h12 false o hol hk
 have hpo:=first_poss s o []
 rw [List.length_nil,Nat.zero_add] at hpo
 have hfl:=(first_ge s o []).2
 rw [List.length_nil,Nat.zero_add] at hfl
 simp only [cond_true,cond_false,Bool.not_true] at f2 f3 f4
 cases hp:possO s [] o with
 | false=>
   rw [hp] at f3 f4 hpo
   have hlt:firstF s [] o < o.length:=by have:=of_decide_eq_false hpo; omega
   generalize firstF s [] o=k at f2 f6 hlt
   exact call_eq rfl rfl (by simp only [↓eA,eB,seval,c9,aw21,e1,f2,f3,f4,f5,f6,hlt,List.length_map,List.length_nil])
 | true=>
 rw [hp] at f3 f4 hpo
 have hfe:firstF s [] o=o.length:=of_decide_eq_true hpo
 rw [hfe] at f2 f6
 have f7:=e_rReach s hF h0 false o hol hk
 have hbe:=hF.be
 have f8:=e_sameI false false (reachF s o) (by rw [reach_len]; exact hbe)
 generalize reachF s o=rl at f4 f7 f8
 simp only [cond_true,cond_false,Bool.not_true] at f3 f4
 have hw:IntKind.i64.wrap ((o.length:Int) - 1)=(o.length:Int) - 1:=wrap_in (by omega) (by omega)
 cases hi:decide (i < 0) with
 | true=>
   rw [hi] at f3
   exact call_eq rfl rfl (by simp only [↓eA,eB,seval,c9,aw21,e1,f2,f3,f4,f5,f6,f7,f8,hi,hw,Nat.lt_irrefl,List.length_map,List.length_nil])
 | false=>
 have hi0:=of_decide_eq_false hi
 cases hj:decide ((o.length:Int) - 2 < i) with
 | true=>
   have hj1:decide ((o.length:Int) - 1≤i)=true:=decide_eq_true (by have:=of_decide_eq_true hj; omega)
   rw [hi,hj] at f3
   exact call_eq rfl rfl (by simp only [↓eA,eB,seval,c9,aw21,e1,f2,f3,f4,f5,f6,f7,f8,hi,hj1,hw,Nat.lt_irrefl,List.length_map,List.length_nil])
 | false=>
 have hj0:=of_decide_eq_false hj
 rw [hi,hj] at f3
 have hj1:decide ((o.length:Int) - 1≤i)=false:=decide_eq_false (by omega)
 obtain ⟨k,rfl⟩:∃ k:Nat,i=k:=⟨i.toNat,by omega⟩
 have hk1:k + 1 < o.length:=by omega
 have hk0:k < o.length:=by omega
 rw [Int.toNat_natCast] at f3
 have f9:=fun nz=>e_rPossible s hF h0 h12 nz (swapL o k) (by simp [swapL]; omega) (fun n hn=>hk n (swap_mem hk1 n hn))
 have hfit:fits (0 + o.length) 16=true:=fits_of (by omega)
 have hml:(o.map D.str).length=o.length:=by simp
 have g0:(o.map D.str)[k]?=some (.str o[k]):=by simp [List.getElem?_eq_getElem hk0]
 have g1:(o.map D.str)[k + 1]?=some (.str o[k + 1]):=by simp [List.getElem?_eq_getElem hk1]
 have e0:o.getD k .empty=o[k]:=by rw [List.getD_eq_getElem?_getD,List.getElem?_eq_getElem hk0]; rfl
 have e1':o.getD (k + 1) .empty=o[k + 1]:=by rw [List.getD_eq_getElem?_getD,List.getElem?_eq_getElem hk1]; rfl
 have hM:((o.map D.str).set k (.str o[k + 1])).set (k + 1) (.str o[k])=(swapL o k).map D.str:=by
   unfold swapL; rw [e0,e1',List.map_set,List.map_set]
 generalize o[k]=x at g0 hM
 generalize o[k + 1]=y at g1 hM
 have g1':((o.map D.str).set k (.str y))[k + 1]?=some (.str y):=by rw [List.getElem?_set_ne (by omega)]; exact g1
 have hz1:decide (0≤k + 1)=true:=by simp
 have hz0:decide (0≤k)=true:=by simp
 simp only [cond_true,cond_false,Bool.or_false] at f3
 generalize possO s [] (swapL o k)=pv at f3 f9
 refine call_eq rfl rfl ?_
 simp only [↓eA,eB,seval,c9,aw21,e1,f2,f3,f4,f5,f6,f7,f8,f9,hi,hj1,hw,hfit,hk0,hk1,g0,g1,g1',hM,hz0,hz1,hml,Nat.lt_irrefl,List.length_map,List.length_set,List.length_nil,wrap_succ (show k < 4611686018427387904 by omega)]
 cases pv<;>rfl
end Tz.C18
