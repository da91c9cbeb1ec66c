/- Normal forms of interval lists; The form of the reference is normal; The two checks agree; no conditions. -/
import Derived.Test.YtboigolndjinhaaGreatS91toS22
import Derived.Test.YtboigolndjinhaaGreatP0
set_option linter.all false
open Gs Go
namespace Tz
theorem pts_any (l:List (Int×Int))(n:Int):l.any (hasIv n)=true↔Pts l n:=by
 simp [Pts,hasIv,List.any_eq_true]
theorem tw_spec {l:List Int}(x:Int)(h:l.Pairwise (· < ·)):(∀ y∈l.take (tw l x),y < x)∧∀ y∈l.drop (tw l x),x≤y:=by
 induction l with
 | nil=>simp
 | cons a r ih=>
   have hs:=List.pairwise_cons.1 h
   by_cases hc:a < x
   · have ht:tw (a :: r) x=tw r x + 1:=by simp [tw,List.takeWhile,hc]
     rw [ht]
     simp only [List.take_succ_cons,List.drop_succ_cons]
     obtain ⟨h1,h2⟩:=ih hs.2
     refine ⟨fun y hy=>?_,h2⟩
     rcases List.mem_cons.1 hy with rfl | hy
     · exact hc
     · exact h1 y hy
   · have ht:tw (a :: r) x=0:=by simp [tw,List.takeWhile,hc]
     rw [ht]
     simp only [List.take_zero,List.drop_zero]
     refine ⟨by simp,fun y hy=>?_⟩
     rcases List.mem_cons.1 hy with rfl | hy
     · omega
     · have:=hs.1 y hy; omega
theorem addL_spec {l:List Int}(x:Int)(h:l.Pairwise (· < ·)):(addL l x).Pairwise (· < ·)∧∀ y,y∈addL l x↔y∈l∨y=x:=by
 obtain ⟨h1,h2⟩:=tw_spec x h
 have hsplit:=List.take_append_drop (tw l x) l
 unfold addL
 by_cases hc:l[tw l x]?=some x
 · rw [if_pos hc]
   have hm:=List.mem_of_getElem? hc
   exact ⟨h,fun y=>⟨.inl,fun hy=>by rcases hy with hy | rfl<;>assumption⟩⟩
 · rw [if_neg hc]
   have h3 : ∀ y ∈ l.drop (tw l x), x < y := by
     intro y hy
     have hy2:=h2 y hy
     rcases Int.lt_or_eq_of_le hy2 with hlt | heq
     · exact hlt
     · exfalso
       obtain ⟨i,hi,hg⟩:=List.mem_iff_getElem.1 hy
       have hds:=(List.pairwise_append.1 (by rw [hsplit]; exact h)).2.1
       have hlen:tw l x < l.length:=by rw [List.length_drop] at hi; omega
       have hg0:(l.drop (tw l x))[0]?=l[tw l x]?:=by rw [List.getElem?_drop,Nat.add_zero]
       have hd0:l[tw l x]?=some l[tw l x]:=List.getElem?_eq_getElem hlen
       have h4:=h2 l[tw l x] (List.mem_of_getElem? (by rw [hg0]; exact hd0))
       cases i with
       | zero=>
         apply hc
         rw [←hg0,List.getElem?_eq_getElem hi,hg,heq]
       | succ i=>
         have h0:0 < (l.drop (tw l x)).length:=by omega
         have:=List.pairwise_iff_getElem.1 hds 0 (i + 1) h0 hi (by omega)
         rw [hg] at this
         have e0:(l.drop (tw l x))[0]=l[tw l x]:=by
           have:=List.getElem?_eq_getElem h0
           rw [hg0,hd0] at this
           injection this with this; exact this.symm
         omega
   have hp:=List.pairwise_append.1 (by rw [hsplit]; exact h)
   refine ⟨?_,fun y=>?_⟩
   · rw [List.append_assoc,List.pairwise_append]
     refine ⟨hp.1,List.pairwise_append.2 ⟨List.pairwise_singleton _ _,hp.2.1,fun a ha b hb=>?_⟩,fun a ha b hb=>?_⟩
     · rw [List.mem_singleton] at ha; subst ha; exact h3 b hb
     · rcases List.mem_append.1 hb with hb | hb
       · rw [List.mem_singleton] at hb; subst hb; exact h1 a ha
       · have:=h1 a ha; have:=h3 b hb; omega
   · constructor
     · intro hy
       simp only [List.mem_append,List.mem_singleton] at hy
       rcases hy with (hy | hy) | hy
       · exact .inl (List.mem_of_mem_take hy)
       · exact .inr hy
       · exact .inl (List.mem_of_mem_drop hy)
     · rintro (hy | rfl)
       · rw [←hsplit] at hy
         simp only [List.mem_append,List.mem_singleton]
         rcases List.mem_append.1 hy with hy | hy
         · exact .inl (.inl hy)
         · exact .inr hy
       · simp
theorem endsL_spec (l:List (Int×Int)):(endsL l).Pairwise (· < ·)∧∀ y,y∈endsL l↔∃ p∈l,y=p.1∨y=p.2 + 1:=by
 have:∀ (l:List (Int×Int)) (acc:List Int),acc.Pairwise (· < ·)→(l.foldl estep acc).Pairwise (· < ·)∧∀ y,y∈l.foldl estep acc↔y∈acc∨∃ p∈l,y=p.1∨y=p.2 + 1:=by
   intro l
   induction l with
   | nil=>intro acc h; exact ⟨h,fun y=>by simp⟩
   | cons x r ih=>
     intro acc h
     have h1:=addL_spec x.1 h
     have h2:=addL_spec (x.2 + 1) h1.1
     have h3:=ih (estep acc x) h2.1
     refine ⟨h3.1,fun y=>?_⟩
     rw [List.foldl_cons,h3.2]
     unfold estep
     rw [h2.2,h1.2]
     constructor
     · rintro (((hy | hy) | hy) | ⟨p,hp,hy⟩)
       · exact .inl hy
       · exact .inr ⟨x,by simp,.inl hy⟩
       · exact .inr ⟨x,by simp,.inr hy⟩
       · exact .inr ⟨p,by simp [hp],hy⟩
     · rintro (hy | ⟨p,hp,hy⟩)
       · exact .inl (.inl (.inl hy))
       · rcases List.mem_cons.1 hp with rfl | hp
         · rcases hy with hy | hy
           · exact .inl (.inl (.inr hy))
           · exact .inl (.inr hy)
         · exact .inr ⟨p,hp,hy⟩
 have:=this l [] List.Pairwise.nil
 refine ⟨this.1,fun y=>?_⟩
 unfold endsL
 rw [this.2]
 simp
end Tz
open Gs Go
namespace Tz
theorem at0_eq {es:List Int}{i:Nat}(h:i < es.length):at0 es i=es[i]:=by simp [at0,List.getElem?_eq_getElem h]
theorem any_flat {es:List Int}(hs:es.Pairwise (· < ·)){l:List (Int×Int)}(hm:∀ p∈l,p.1∈es∧p.2 + 1∈es){i:Nat}(hi:i + 1 < es.length){n:Int}(h1:at0 es i≤n)(h2:n < at0 es (i + 1)):l.any (hasIv n)=l.any (hasIv (at0 es i)):=by
 have hi0:i < es.length:=by omega
 rw [at0_eq hi0] at *
 rw [at0_eq hi] at *
 have mono:=List.pairwise_iff_getElem.1 hs
 rw [Bool.eq_iff_iff,pts_any,pts_any]
 constructor
 · rintro ⟨p,hp,h3,h4⟩
   obtain ⟨j,hj,hg⟩:=List.mem_iff_getElem.1 (hm p hp).1
   refine ⟨p,hp,?_,by omega⟩
   by_cases hji:j≤i
   · rcases Nat.lt_or_eq_of_le hji with hlt | rfl
     · have:=mono j i hj hi0 hlt; omega
     · omega
   · rcases Nat.lt_or_eq_of_le (show i + 1≤j by omega) with hlt | rfl
     · have:=mono (i + 1) j hi hj hlt; omega
     · omega
 · rintro ⟨p,hp,h3,h4⟩
   obtain ⟨j,hj,hg⟩:=List.mem_iff_getElem.1 (hm p hp).2
   refine ⟨p,hp,by omega,?_⟩
   by_cases hji:j≤i
   · rcases Nat.lt_or_eq_of_le hji with hlt | rfl
     · have:=mono j i hj hi0 hlt; omega
     · omega
   · rcases Nat.lt_or_eq_of_le (show i + 1≤j by omega) with hlt | rfl
     · have:=mono (i + 1) j hi hj hlt; omega
     · omega
theorem fput_norm {acc:List (Int×Int)}{lo nx:Int}(ha:Norm acc)(hlt:lo < nx)(h:∀ q∈acc,q.2 + 1≤lo) :
   Norm (fput acc lo nx)∧(∀ q∈fput acc lo nx,q.2 + 1≤nx)∧∀ n,Pts (fput acc lo nx) n↔Pts acc n∨lo≤n∧n < nx:=by
 unfold fput
 cases hl:acc.getLast? with
 | none=>
   have:acc=[]:=by simpa using hl
   subst this
   refine ⟨norm_snoc ha (by simp only; omega) (by simp),by simp,fun n=>?_⟩
   rw [pts_append,pts_one]
   simp only
   constructor
   · rintro (h | h)
     · exact .inl h
     · exact .inr ⟨h.1,by omega⟩
   · rintro (h | h)
     · exact .inl h
     · exact .inr ⟨h.1,by omega⟩
 | some p=>
   obtain ⟨pre,rfl⟩:∃ pre,acc=pre ++ [p]:=List.getLast?_eq_some_iff.1 hl
   obtain ⟨h1,h2,h3⟩:=norm_init ha
   have hpx:=h p (by simp)
   simp only
   cases hc:decide (p.2 + 1=lo) with
   | true=>
     have hc':=of_decide_eq_true hc
     simp only [cond_true,List.dropLast_concat]
     refine ⟨norm_snoc h1 (by simp only; omega) h3,?_,fun n=>?_⟩
     · intro q hq
       rcases List.mem_append.1 hq with hq | hq
       · have:=h q (by simp [hq]); omega
       · rw [List.mem_singleton] at hq; subst hq; simp only; omega
     · rw [pts_append,pts_one,pts_append,pts_one]
       simp only
       constructor
       · rintro (hq | hq)
         · exact .inl (.inl hq)
         · by_cases hn:n≤p.2
           · exact .inl (.inr ⟨hq.1,hn⟩)
           · exact .inr ⟨by omega,by omega⟩
       · rintro ((hq | hq) | hq)
         · exact .inl hq
         · exact .inr ⟨hq.1,by omega⟩
         · exact .inr ⟨by omega,by omega⟩
   | false=>
     have hc':=of_decide_eq_false hc
     simp only [cond_false]
     refine ⟨norm_snoc ha (by simp only; omega) fun q hq=>?_,?_,fun n=>?_⟩
     · rcases List.mem_append.1 hq with hq | hq
       · have:=h3 q hq; simp only; omega
       · rw [List.mem_singleton] at hq; subst hq; simp only; omega
     · intro q hq
       rcases List.mem_append.1 hq with hq | hq
       · have:=h q hq; omega
       · rw [List.mem_singleton] at hq; subst hq; simp only; omega
     · rw [pts_append,pts_one]
       simp only
       constructor
       · rintro (h | h)
         · exact .inl h
         · exact .inr ⟨h.1,by omega⟩
       · rintro (h | h)
         · exact .inl h
         · exact .inr ⟨h.1,by omega⟩
def Keep (op:Int)(a b:List (Int×Int))(n:Int):Prop:=skipO op (a.any (hasIv n)) (b.any (hasIv n))=false
theorem skip_out {op:Int}(ho:op=1∨op=2∨op=3):skipO op false false=true:=by rcases ho with rfl | rfl | rfl<;>rfl
theorem form_spec {op:Int}(ho:op=1∨op=2∨op=3)(a b:List (Int×Int))(hab:∀ p∈a ++ b,p.1≤p.2):Norm (formL op a b)∧∀ n,Pts (formL op a b) n↔Keep op a b n:=by
 obtain ⟨hs,hmem⟩:=endsL_spec (a ++ b)
 unfold formL
 generalize hes:endsL (a ++ b)=es at hs hmem
 have hA:∀ p∈a,p.1∈es∧p.2 + 1∈es:=fun p hp=>⟨(hmem _).2 ⟨p,by simp [hp],.inl rfl⟩,(hmem _).2 ⟨p,by simp [hp],.inr rfl⟩⟩
 have hB:∀ p∈b,p.1∈es∧p.2 + 1∈es:=fun p hp=>⟨(hmem _).2 ⟨p,by simp [hp],.inl rfl⟩,(hmem _).2 ⟨p,by simp [hp],.inr rfl⟩⟩
 have mono:=List.pairwise_iff_getElem.1 hs
 have key:∀ k,k≤es.length - 1→Norm ((List.range k).foldl (fstep op a b es) [])∧(∀ q∈(List.range k).foldl (fstep op a b es) [],q.2 + 1≤at0 es k)∧∀ n,Pts ((List.range k).foldl (fstep op a b es) []) n↔(∃ i,i < k∧at0 es i≤n∧n < at0 es (i + 1))∧Keep op a b n:=by
   intro k
   induction k with
   | zero=>intro _; exact ⟨⟨List.Pairwise.nil,by simp⟩,by simp,fun n=>by simp [Pts]⟩
   | succ k ih=>
     intro hk
     obtain ⟨i1,i2,i3⟩:=ih (by omega)
     have hk1:k + 1 < es.length:=by omega
     have hlt:at0 es k < at0 es (k + 1):=by
       rw [at0_eq (by omega),at0_eq hk1]; exact mono k (k + 1) (by omega) hk1 (by omega)
     rw [List.range_succ,List.foldl_append,List.foldl_cons,List.foldl_nil]
     generalize (List.range k).foldl (fstep op a b es) []=acc at i1 i2 i3 ⊢
     have hflat:∀ n,at0 es k≤n→n < at0 es (k + 1)→(Keep op a b n↔skipO op (a.any (hasIv (at0 es k))) (b.any (hasIv (at0 es k)))=false):=by
       intro n h1 h2
       unfold Keep
       rw [any_flat hs hA hk1 h1 h2,any_flat hs hB hk1 h1 h2]
     have hsplit:∀ n,(∃ i,i < k + 1∧at0 es i≤n∧n < at0 es (i + 1))↔(∃ i,i < k∧at0 es i≤n∧n < at0 es (i + 1))∨at0 es k≤n∧n < at0 es (k + 1):=by
       intro n
       constructor
       · rintro ⟨i,hi,h⟩
         rcases Nat.lt_or_eq_of_le (Nat.le_of_lt_succ hi) with hlt | rfl
         · exact .inl ⟨i,hlt,h⟩
         · exact .inr h
       · rintro (⟨i,hi,h⟩ | h)
         · exact ⟨i,by omega,h⟩
         · exact ⟨k,by omega,h⟩
     unfold fstep
     cases hc:skipO op (a.any (hasIv (at0 es k))) (b.any (hasIv (at0 es k))) with
     | true=>
       refine ⟨i1,fun q hq=>by have:=i2 q hq; omega,fun n=>?_⟩
       simp only [cond_true]
       rw [i3,hsplit]
       constructor
       · rintro ⟨h1,h2⟩; exact ⟨.inl h1,h2⟩
       · rintro ⟨h1 | h1,h2⟩
         · exact ⟨h1,h2⟩
         · have:=(hflat n h1.1 h1.2).1 h2; rw [hc] at this; cases this
     | false=>
       obtain ⟨f1,f2,f3⟩:=fput_norm i1 hlt i2
       refine ⟨f1,f2,fun n=>?_⟩
       simp only [cond_false]
       rw [f3,i3,hsplit]
       constructor
       · rintro (⟨h1,h2⟩ | h1)
         · exact ⟨.inl h1,h2⟩
         · exact ⟨.inr h1,(hflat n h1.1 h1.2).2 hc⟩
       · rintro ⟨h1 | h1,h2⟩
         · exact .inl ⟨h1,h2⟩
         · exact .inr h1
 obtain ⟨k1,k2,k3⟩:=key (es.length - 1) (Nat.le_refl _)
 refine ⟨k1,fun n=>?_⟩
 rw [k3]
 constructor
 · exact fun h=>h.2
 · intro h
   refine ⟨?_,h⟩
   have hin:Pts (a ++ b) n:=by
     have:a.any (hasIv n)=true∨b.any (hasIv n)=true:=by
       cases h1:a.any (hasIv n) with
       | true=>exact .inl rfl
       | false=>
         cases h2:b.any (hasIv n) with
         | true=>exact .inr rfl
         | false=>unfold Keep at h; rw [h1,h2,skip_out ho] at h; cases h
     rw [pts_append,←pts_any,←pts_any]; exact this
   obtain ⟨p,hp,h1,h2⟩:=hin
   obtain ⟨j1,hj1,hg1⟩:=List.mem_iff_getElem.1 ((hmem p.1).2 ⟨p,hp,.inl rfl⟩)
   obtain ⟨j2,hj2,hg2⟩:=List.mem_iff_getElem.1 ((hmem (p.2 + 1)).2 ⟨p,hp,.inr rfl⟩)
   have hex:∀ d,∀ i,i < es.length→i + d=j2→at0 es i≤n→∃ i,i < es.length - 1∧at0 es i≤n∧n < at0 es (i + 1):=by
     intro d
     induction d with
     | zero => intro i hi hd hle; rw [at0_eq hi] at hle; have : i = j2 := by omega
               subst this; omega
     | succ d ihd=>
       intro i hi hd hle
       by_cases hn:n < at0 es (i + 1)
       · exact ⟨i,by omega,hle,hn⟩
       · exact ihd (i + 1) (by omega) (by omega) (by omega)
   have hlt:j1 < j2:=by
     rcases Nat.lt_trichotomy j1 j2 with h3 | h3 | h3
     · exact h3
     · subst h3; omega
     · have:=mono j2 j1 hj2 hj1 h3; omega
   exact hex (j2 - j1) j1 hj1 (by omega) (by rw [at0_eq hj1,hg1]; exact h1)
theorem keep_union (a:List (Int×Int))(n:Int):Keep 1 a [] n↔Pts a n:=by
 unfold Keep skipO
 rw [←pts_any]
 cases a.any (hasIv n)<;>simp
theorem merged_form (l:List (Int×Int))(h:∀ x∈l,x.1≤x.2):merged l=formL 1 l []:=by
 obtain ⟨h1,h2⟩:=merged_norm l h
 obtain ⟨h3,h4⟩:=form_spec (.inl rfl) l [] (by simpa using h)
 refine norm_unique h1 h3 fun n=>?_
 rw [h2,h4,keep_union]
end Tz
open Gs Go
namespace Tz
theorem ddF_nodup:∀ (l:List ByteArray) (p:ByteArray),SortedB (p :: l)→((ddF seq p l).length=l.length↔(p :: l).Nodup)
 | [],p,_=>by simp [ddF]
 | y :: r,p,h=>by
   have h1:=List.pairwise_cons.1 h
   have ih:=ddF_nodup r y h1.2
   simp only [ddF]
   cases hs:seq y p with
   | true=>
     have hyp:=seq_iff.1 hs
     have hle:=dd_length_le seq r y
     simp only [cond_true]
     constructor
     · intro he; simp only [List.length_cons] at he; omega
     · intro hn; subst hyp; simp at hn
   | false=>
     have hyp:=seq_false.1 hs
     simp only [cond_false,List.length_cons,Nat.succ_inj]
     rw [ih,List.nodup_cons (a:=p)]
     constructor
     · intro hn
       refine ⟨fun hm=>?_,hn⟩
       rcases List.mem_cons.1 hm with rfl | hm
       · exact hyp rfl
       · have h2:=List.pairwise_cons.1 h1.2
         have a1:=h1.1 y (by simp)
         have a2:=h2.1 p hm
         exact hyp (slt_total (by simpa using a1) (by simpa using a2))
     · exact fun hn=>hn.2
theorem dd_nodup (l:List ByteArray)(h:SortedB l):((dd seq l).length=l.length↔l.Nodup):=by
 cases l with
 | nil=>simp [dd]
 | cons p r=>
   simp only [dd,List.length_cons]
   rw [show ((ddF seq p r).length + 1=r.length + 1)↔((ddF seq p r).length=r.length) from Nat.succ_inj]
   exact ddF_nodup r p h
theorem pairs_nodup (l:List ByteArray):pairs l=false↔l.Nodup:=by
 unfold pairs List.Nodup
 rw [List.pairwise_iff_getElem,List.any_eq_false]
 have hnm:∀ i (h:i < l.length),nm l i=l[i]:=fun i h=>by simp [nm,List.getElem?_eq_getElem h]
 constructor
 · intro h i j hi hj hij he
   have h1:=h j (by simpa using hj)
   rw [Bool.not_eq_true,List.any_eq_false] at h1
   have h2:=h1 i (by simpa using hij)
   rw [hnm i hi,hnm j hj,he,seq_refl] at h2
   exact h2 rfl
 · intro h i hi
   rw [List.mem_range] at hi
   rw [Bool.not_eq_true,List.any_eq_false]
   intro j hj
   rw [List.mem_range] at hj
   rw [hnm i hi,hnm j (by omega),Bool.not_eq_true]
   exact seq_false.2 fun e=>h j i (by omega) hi hj e.symm
theorem dis_unord (s:Survey):disordered s=unordered s:=by
 unfold disordered unordered
 have h1:=dd_nodup (sortB s.names) (sortB_sorted _)
 have h2:=pairs_nodup s.names
 have hp:=sortB_perm s.names
 rw [hp.length_eq] at h1
 have h3:decide ((dd seq (sortB s.names)).length≠s.names.length)=pairs s.names:=by
   cases hc:pairs s.names with
   | false=>
     have:=h1.2 (hp.nodup_iff.2 (h2.1 hc))
     simp [this]
   | true=>
     have:¬ (dd seq (sortB s.names)).length=s.names.length:=by
       intro he
       have:=h2.2 (hp.nodup_iff.1 (h1.1 he))
       rw [hc] at this; cases this
     simp [this]
 rw [h3]
theorem far_eq (b:Box):b.six.any far6=rFar b:=by
 have h:∀ n,far6 n=rf n:=by
   intro n
   unfold far6 rf
   rw [Bool.eq_iff_iff]
   simp only [Bool.or_eq_true,decide_eq_true_eq,Bool.not_eq_true',Bool.and_eq_false_iff,decide_eq_false_iff_not]
   omega
 simp only [Box.six,List.any_cons,List.any_nil,h,rFar,Bool.or_false]
 cases rf b.x0<;>cases rf b.x1<;>cases rf b.y0<;>cases rf b.y1<;>cases rf b.z0<;>cases rf b.z1<;>rfl
theorem any_congr {α:Type}{l:List α}{p q:α→Bool}(h:∀ x∈l,p x=q x):l.any p=l.any q:=by
 induction l with
 | nil=>rfl
 | cons x r ih=>simp only [List.any_cons]; rw [h x (by simp),ih fun y hy=>h y (by simp [hy])]
theorem out_eq (s:Survey)(hj:s.joints.any jbad=false)(hf:s.flaws.any fbad=false):rOut s=outB s:=by
 unfold rOut outB
 congr 1
 congr 1
 · refine any_congr fun j hm=>?_
   have h:=List.any_eq_false.1 hj j hm
   simp only [jbad,Bool.or_eq_true,Bool.and_eq_true,Bool.not_eq_true',decide_eq_false_iff_not,decide_eq_true_eq,not_or,Classical.not_and_iff_not_or_not,Classical.not_not] at h
   unfold rJointOut jointOut Box.lo Box.hi
   have ha:j.axis=0∨j.axis=1:=by omega
   rcases ha with ha | ha
   · rw [if_pos ha,if_pos ha,if_pos ha,if_pos ha]
     unfold inR
     rw [Bool.eq_iff_iff]
     simp only [Bool.or_eq_true,decide_eq_true_eq,Bool.not_eq_true',Bool.and_eq_false_iff,decide_eq_false_iff_not]
     omega
   · have hn:¬ j.axis=0:=by omega
     rw [if_neg hn,if_neg hn,if_neg hn,if_neg hn,if_pos ha,if_pos ha]
     unfold inR
     rw [Bool.eq_iff_iff]
     simp only [Bool.or_eq_true,decide_eq_true_eq,Bool.not_eq_true',Bool.and_eq_false_iff,decide_eq_false_iff_not]
     omega
 · refine any_congr fun f hm=>?_
   have h:=List.any_eq_false.1 hf f hm
   simp only [fbad,decide_eq_true_eq] at h
   unfold rFlawOut flawOut inR
   congr 1
   rw [Bool.eq_iff_iff]
   simp only [Bool.or_eq_true,decide_eq_true_eq,Bool.not_eq_true',Bool.and_eq_false_iff,decide_eq_false_iff_not]
   omega
theorem name_any (s:Survey):(s.names.any fun n=>!pName n)=s.names.any fun n=>!rName n:=any_congr fun n _=>by rw [name_eq]
theorem check_eq (s:Survey):surveyErr s=rCheck s:=by
 unfold surveyErr rCheck
 rw [far_eq,name_any]
 congr 1
 congr 1
 congr 1
 congr 1
 unfold rShapes
 cases hj:s.joints.any jbad with
 | true=>rfl
 | false=>
 cases hf:s.flaws.any fbad with
 | true=>rfl
 | false=>
 rw [out_eq s hj hf,dis_unord]
 simp only [Bool.or_false,cond_false]
 cases hk:s.flaws.find? (fun f=>!decide (polyErr f.base=0)) with
 | some f=>
   have:=List.find?_some hk
   simp only at this ⊢
   rw [this]; rfl
 | none=>
   simp only
   cases s.flaws.any (fun f=>!convex f.base)<;>rfl
theorem jl_ok {s:Survey}{b:Box}{d:Int}(h:SurveyOk s)(hb:boxedErr s b=0):nrmErr (pJointed s b d)=0∧listsErr (pJointed s b d) []=0∧∀ x∈pJointed s b d,x.1≤x.2:=by
 have hJ:=jb_of h hb
 have hlen:=jList_len s b (planeAx d) (planeAt b d)
 have hsz:=h.size
 simp only [sizeBad,Bool.or_eq_false_iff,decide_eq_false_iff_not] at hsz
 have hall:∀ (l:List Joint) (acc:List (Int×Int)),(∀ j∈l,j∈s.joints)→(∀ x∈acc,x.1≤x.2∧-1000000≤x.1∧x.2≤1000000)→∀ x∈l.foldl (jStep b (planeAx d) (planeAt b d)) acc,x.1≤x.2∧-1000000≤x.1∧x.2≤1000000:=by
   intro l
   induction l with
   | nil=>intro acc _ h; exact h
   | cons j r ih=>
     intro acc hm hacc
     refine ih _ (fun y hy=>hm y (by simp [hy])) ?_
     intro x hx
     unfold jStep at hx
     cases hc:jHit b (planeAx d) (planeAt b d) j with
     | false=>rw [hc] at hx; exact hacc x hx
     | true=>
       rw [hc] at hx
       simp only [cond_true,List.mem_append,List.mem_singleton] at hx
       rcases hx with hx | rfl
       · exact hacc x hx
       · simp only [jHit,Bool.and_eq_true,decide_eq_true_eq] at hc
         have:=hJ.z0; have:=hJ.z1
         simp only [jIv]
         refine ⟨hc.2,by omega,by omega⟩
 have hx:=hall s.joints [] (fun j h=>h) (by simp)
 have hl:(pJointed s b d).length≤128:=by unfold pJointed; omega
 have he:ivErr (pJointed s b d)=0:=by
   unfold ivErr
   have h1:(pJointed s b d).any ivFar=false:=by
     rw [List.any_eq_false]
     intro x hm
     have:=hx x hm
     simp only [ivFar,Bool.or_eq_true,Bool.not_eq_true',Bool.and_eq_false_iff,decide_eq_false_iff_not]
     omega
   have h2:(pJointed s b d).any ivRev=false:=by
     rw [List.any_eq_false]
     intro x hm
     have:=hx x hm
     simp only [ivRev,decide_eq_true_eq]
     omega
   rw [h1,h2]; rfl
 refine ⟨?_,?_,fun x hm=>(hx x hm).1⟩
 · unfold nrmErr
   rw [show decide (10000 < ((pJointed s b d).length:Int))=false by rw [decide_eq_false_iff_not]; omega,he]; rfl
 · unfold listsErr
   rw [show decide (10000 < ((pJointed s b d).length:Int))=false by rw [decide_eq_false_iff_not]; omega,List.append_nil,he]; rfl
theorem jointed_eq {s:Survey}{b:Box}{d:Int}(h:SurveyOk s)(hb:boxedErr s b=0):(setR 1 (pJointed s b d) []).1=merged (pJointed s b d):=by
 obtain ⟨h1,h2,h3⟩:=jl_ok (d:=d) h hb
 unfold setR
 rw [h2]
 exact (merged_form _ h3).symm
end Tz
