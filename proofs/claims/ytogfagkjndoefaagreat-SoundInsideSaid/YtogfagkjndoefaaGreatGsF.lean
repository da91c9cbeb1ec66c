/- What the evaluator says of a checked function, the model gives; equations and loops; no conditions. -/
import Derived.Test.YtogfagkjndoefaaGreatGsE
import Derived.LoopN
import Derived.Sort.Defs
import Derived.Sort.Statements
import Derived.Lib.BitFns
import Derived.Laws.Strings
import Derived.Sort.Walk0
set_option linter.all false
namespace Gs
open Go
variable [GlobTab]
def ghostsOk (n:Nat):List Seg→Bool
 | []=>true
 | .g g :: r=>ghOk n g && ghostsOk n r
 | _ :: _=>false
def okRC (P:Program)(T:Tab)(n:Nat):Code→RC→Bool
 | .skip,.skip=>true
 | .ret,.ret=>true
 | .ret,.seq (.reg gs) .ret=>ghostsOk n gs
 | .exit i,.exit j=>i == j
 | .region _ ops draw,.reg segs=>okReg P n ops draw segs
 | .seq a b,.seq a' b'=>okRC P T n a a' && okRC P T n b b'
 | .cond c x y,.cond c' x' y'=>okX n c c' && okRC P T n x x' && okRC P T n y y'
 | .block i c,.block j c'=>i == j && okRC P T n c c'
 | .loop c,.loop key=>(match T.lp key with
   | some li=>distinct li.head.bs && okRC P T n c li.body
   | none=>false)
 | .loop c,.seq (.reg gs) (.loop key)=>ghostsOk n gs && (match T.lp key with
   | some li=>distinct li.head.bs && okRC P T n c li.body
   | none=>false)
 | _,.die=>true
 | _,_=>false
theorem evk_eq {O:Ora}{α:Type} : ∀ (r:RC) (e:Env) (H:Heap) (k:X→Env→Heap→Option α),evk O r e H k=(match ev O r e H with | some (x,e',H')=>k x e' H' | none=>none)
 | .skip,e,H,k=>rfl
 | .ret,e,H,k=>rfl
 | .exit n,e,H,k=>rfl
 | .reg l,e,H,k=>by simp only [evk,ev]; cases evSegs O l e H with | none=>rfl | some p=>rfl
 | .seq a b,e,H,k=>by
   simp only [evk,ev]
   rw [evk_eq a]
   cases ev O a e H with
   | none=>rfl
   | some p=>
     obtain ⟨x,e',H'⟩:=p
     cases x with
     | nor=>exact evk_eq b e' H' k
     | ret=>rfl
     | ex n=>rfl
 | .cond c a b,e,H,k=>by
   simp only [evk,ev]
   split
   · rename_i p _
     cases p
     · exact evk_eq b e H k
     · exact evk_eq a e H k
   · rfl
 | .block n c,e,H,k=>by
   simp only [evk,ev]
   rw [evk_eq c]
   cases ev O c e H with
   | none=>rfl
   | some p=>
     obtain ⟨x,e',H'⟩:=p
     cases x with
     | nor=>rfl
     | ret=>rfl
     | ex m=>cases h:(m == n)<;>simp [h]
 | .loop key,e,H,k=>by simp only [evk,ev]; cases O.loop key e H with | none=>rfl | some p=>rfl
 | .die,e,H,k=>rfl
section
variable {P:Program} {w0:World0} {w w':World} {K0 K K':Km} {Q Q':Pm} {H H':Heap} {n:Nat} {e e':Env} {O:Ora} {T:Tab}
theorem ghosts_ok:∀ {gs:List Seg} {e e':Env} {H H':Heap} {K:Km} {Q:Pm} {ts:Array Value},ghostsOk n gs=true→evSegs O gs e H=some (e',H')→Sim w0 K0 K Q H w→RelE K Q n e ts→∃ K' Q',Sim w0 K0 K' Q' H' w∧RelE K' Q' n e' ts
 | [],e,e',H,H',K,Q,ts,hg,h,hs,he=>by
   simp only [evSegs] at h
   injection h with h; injection h with h1 h2; subst h1; subst h2
   exact ⟨K,Q,hs,he⟩
 | .g g :: r,e,e',H,H',K,Q,ts,hg,h,hs,he=>by
   simp only [ghostsOk,Bool.and_eq_true] at hg
   simp only [evSegs] at h
   split at h<;>try (cases h; done)
   rename_i e1 H1 h1
   obtain ⟨K1,Q1,g1,g2,_⟩:=ghost_ok hg.1 h1 hs he
   exact ghosts_ok hg.2 h g1 g2
 | .q _ :: r,e,e',H,H',K,Q,ts,hg,h,hs,he=>by simp [ghostsOk] at hg
 | .o _ _ :: r,e,e',H,H',K,Q,ts,hg,h,hs,he=>by simp [ghostsOk] at hg
 | .m _ _ _ :: r,e,e',H,H',K,Q,ts,hg,h,hs,he=>by simp [ghostsOk] at hg
 | .p _ :: r,e,e',H,H',K,Q,ts,hg,h,hs,he=>by simp [ghostsOk] at hg
 | .w _ _ _ _ :: r,e,e',H,H',K,Q,ts,hg,h,hs,he=>by simp [ghostsOk] at hg
theorem get_keepE (m:List (Nat×Nat))(e:Env)(l:List Nat)(t:Nat):get (keepE m e l) t=if t∈l then renD m (get e t) else .dead:=by
 induction l with
 | nil=>simp [keepE,get]
 | cons a r ih=>
   simp only [keepE,get]
   by_cases h:a=t
   · subst h; simp
   · rw [nbeq h,cond_false,ih]
     by_cases h2:t∈r
     · simp [h2]
     · simp [h2,Ne.symm h]
theorem head_ok (hs:Sim w0 K0 K Q H w){ts:Array Value}(he:RelE K Q n e ts){h:Head}(hb:distinct h.bs=true):∃ K',Sim w0 K0 K' Q (atHead h e H).2 w∧RelE K' Q n (atHead h e H).1 ts:=by
 rw [distinct_iff] at hb
 have hd:((same h.bs).map (·.1)).Nodup:=by rw [same_dom]; exact hb
 have hr:((same h.bs).map (·.2)).Nodup:=by rw [same_ran]; exact hb
 obtain ⟨g1,g2⟩:=hs.toCore.pick (same h.bs) (fun _ d=>d) hd hr
 have hsame:∀ b c,ren1 (same h.bs) b=some c→b=c:=fun b c hh=>((mem_same _ _ _).1 (ren1_mem hh)).1
 refine ⟨_,⟨g1,hs.kept,fun c i B o m hc hl=>?_,fun c hc hc' y hy hcl=>?_,hs.qk,hs.grow⟩,he.1,fun t ht=>?_⟩
 · obtain ⟨b,hb,hk,_⟩:=mapK_some hc
   exact hs.low b i B o m hk hl
 · obtain ⟨b,x,h1,h2,rfl⟩:=(hget_pick _ _ H _ hr c y).1 hy
   have hbc:=((mem_same _ _ _).1 h1).1
   subst hbc
   have hx:isClean x=true:=by cases x<;>simp_all [renB,isClean]
   have:=hs.clean b hc hc' x h2 hx
   rw [←this]
   cases hk:K b with
   | none=>
     cases hh:mapK (ren1 (same h.bs)) K (pickH (same h.bs) (fun _ d=>d) H (same h.bs)) b with
     | none=>rfl
     | some i=>
       obtain ⟨b',hb',hk',_⟩:=mapK_some hh
       have:=hsame _ _ hb'
       subst this; rw [hk] at hk'; cases hk'
   | some i=>rw [mapK_eq (fun a b c h h'=>ran_inj hr (ren1_mem h) (ren1_mem h')) (mem_ren1 hd h1) (by rw [hk]; simp) (by have:hget (pickH (same h.bs) (fun _ d=>d) H (same h.bs)) b=_:=hy; rw [this]; simp),hk]
 · simp only [atHead]
   rw [get_keepE]
   split
   · rw [renD_eq]; exact (he.2 t ht).map g2
   · exact .dead _
def exitOf:X→Exit
 | .nor=>.normal
 | .ret=>.ret
 | .ex n=>.exit n
def Post (w0:World0)(K0:Km)(n:Nat)(x:X)(e:Env)(H:Heap)(df:List Deferred)(Qx:Exit→Act→World→Prop):Prop:=
 ∀ a w K Q,a.defers=df→Sim w0 K0 K Q H w→RelE K Q n e a.tmps→Qx (exitOf x) a w
def CallsOk (P:Program)(O:Ora):Prop:=∀ g avs Hc r Ho,O.call g avs Hc=some (r,Ho)→Gives P g avs Hc r Ho
def LoopOk (P:Program)(T:Tab)(m:Nat):Prop:=
 ∀ (w0:World0) (K0:Km) (n:Nat) key e H x e' H' c li,(rounds T m).loop key e H=some (x,e',H')→T.lp key=some li→distinct li.head.bs=true→okRC P T n c li.body=true→
   ∀ K Q a w Qx,Sim w0 K0 K Q H w→RelE K Q n e a.tmps→Post w0 K0 n x e' H' a.defers Qx→Code.rounds P c Qx m a w
theorem ev_seqreg {O:Ora}{gs:List Seg}{r:RC}{e:Env}{H:Heap}{y:X×Env×Heap}(h:ev O (.seq (.reg gs) r) e H=some y):∃ e1 H1,evSegs O gs e H=some (e1,H1)∧ev O r e1 H1=some y:=by
 simp only [ev] at h
 cases hg:evSegs O gs e H with
 | none=>rw [hg] at h; cases h
 | some p=>rw [hg] at h; exact ⟨p.1,p.2,rfl,h⟩
theorem code_ok (hm:P.follows .mixedOrders=true){m:Nat}(hO:CallsOk P (rounds T m))(hL:LoopOk P T m):∀ (c:Code) (r:RC) (e:Env) (H:Heap) (x:X) (e':Env) (H':Heap),okRC P T n c r=true→ev (rounds T m) r e H=some (x,e',H')→
   ∀ (K:Km) (Q:Pm) (a:Act) (w:World) (Qx:Exit→Act→World→Prop),Sim w0 K0 K Q H w→RelE K Q n e a.tmps→Post w0 K0 n x e' H' a.defers Qx→c.wp P Qx a w:=by
 intro c
 induction c with
 | skip=>
   intro r e H x e' H' hok h K Q a w Qx hs he hp
   have hnd:r≠.die:=fun hh=>by subst hh; simp [ev] at h
   cases r<;>simp only [okRC] at hok<;>first | (cases hok; done) | (exact absurd rfl hnd) | skip
   simp only [ev] at h
   injection h with h; injection h with h1 h; injection h with h2 h3; subst h1; subst h2; subst h3
   exact wp_skip (hp a w K Q rfl hs he)
 | ret=>
   intro r e H x e' H' hok h K Q a w Qx hs he hp
   have hnd:r≠.die:=fun hh=>by subst hh; simp [ev] at h
   unfold okRC at hok
   split at hok<;>first | (cases hok; done) | (exact absurd rfl hnd) | skip
   all_goals rename_i heq; try (cases heq; done)
   · simp only [ev] at h
     injection h with h; injection h with h1 h; injection h with h2 h3; subst h1; subst h2; subst h3
     exact wp_ret (hp a w K Q rfl hs he)
   · obtain ⟨e1,H1,h1,h⟩:=ev_seqreg h
     simp only [ev] at h
     injection h with h; injection h with h2 h; injection h with h3 h4; subst h2; subst h3; subst h4
     obtain ⟨K1,Q1,g1,g2⟩:=ghosts_ok hok h1 hs he
     exact wp_ret (hp a w K1 Q1 rfl g1 g2)
 | exit i=>
   intro r e H x e' H' hok h K Q a w Qx hs he hp
   have hnd:r≠.die:=fun hh=>by subst hh; simp [ev] at h
   cases r<;>simp only [okRC] at hok<;>first | (cases hok; done) | (exact absurd rfl hnd) | skip
   rename_i j
   have hij:i=j:=by simpa using hok
   subst hij
   simp only [ev] at h
   injection h with h; injection h with h1 h; injection h with h2 h3; subst h1; subst h2; subst h3
   exact wp_exit (hp a w K Q rfl hs he)
 | region id ops draw=>
   intro r e H x e' H' hok h K Q a w Qx hs he hp
   have hnd:r≠.die:=fun hh=>by subst hh; simp [ev] at h
   cases r<;>simp only [okRC] at hok<;>first | (cases hok; done) | (exact absurd rfl hnd) | skip
   rename_i segs
   simp only [ev] at h
   split at h<;>try (cases h; done)
   rename_i e1 H1 h1
   injection h with h; injection h with h2 h; injection h with h3 h4; subst h2; subst h3; subst h4
   exact region_ok hm hO hok h1 hs he fun a' w' K' Q' hd g1 g2=>hp a' w' K' Q' hd g1 g2
 | seq c1 c2 ih1 ih2=>
   intro r e H x e' H' hok h K Q a w Qx hs he hp
   have hnd:r≠.die:=fun hh=>by subst hh; simp [ev] at h
   cases r<;>simp only [okRC] at hok<;>first | (cases hok; done) | (exact absurd rfl hnd) | skip
   rename_i r1 r2
   simp only [Bool.and_eq_true] at hok
   simp only [ev] at h
   cases h1:ev (rounds T m) r1 e H with
   | none=>rw [h1] at h; cases h
   | some p=>
     obtain ⟨x1,e1,H1⟩:=p
     rw [h1] at h
     refine wp_seq (ih1 r1 e H x1 e1 H1 hok.1 h1 K Q a w _ hs he fun a' w' K' Q' hd g1 g2=>?_)
     cases x1 with
     | nor=>exact ih2 r2 e1 H1 x e' H' hok.2 h K' Q' a' w' Qx g1 g2 (hd ▸ hp)
     | ret=>
       simp only at h
       injection h with h; injection h with h2 h; injection h with h3 h4; subst h2; subst h3; subst h4
       exact hp a' w' K' Q' hd g1 g2
     | ex k=>
       simp only at h
       injection h with h; injection h with h2 h; injection h with h3 h4; subst h2; subst h3; subst h4
       exact hp a' w' K' Q' hd g1 g2
 | cond c x1 y1 ih1 ih2=>
   intro r e H x e' H' hok h K Q a w Qx hs he hp
   have hnd:r≠.die:=fun hh=>by subst hh; simp [ev] at h
   cases r<;>simp only [okRC] at hok<;>first | (cases hok; done) | (exact absurd rfl hnd) | skip
   simp only [Bool.and_eq_true] at hok
   simp only [ev] at h
   split at h<;>try (cases h; done)
   rename_i p hc
   have rc:=okX_rel he hok.1.1
   rw [hc] at rc
   refine wp_cond rc.bool_inv ?_
   cases p with
   | true=>exact ih1 _ e H x e' H' hok.1.2 h K Q a w Qx hs he hp
   | false=>exact ih2 _ e H x e' H' hok.2 h K Q a w Qx hs he hp
 | block i c ih=>
   intro r e H x e' H' hok h K Q a w Qx hs he hp
   have hnd:r≠.die:=fun hh=>by subst hh; simp [ev] at h
   cases r<;>simp only [okRC] at hok<;>first | (cases hok; done) | (exact absurd rfl hnd) | skip
   rename_i j r
   simp only [Bool.and_eq_true,beq_iff_eq] at hok
   obtain ⟨rfl,hok⟩:=hok
   simp only [ev] at h
   cases h1:ev (rounds T m) r e H with
   | none=>rw [h1] at h; cases h
   | some p=>
     obtain ⟨x1,e1,H1⟩:=p
     rw [h1] at h
     refine wp_block (ih r e H x1 e1 H1 hok h1 K Q a w _ hs he fun a' w' K' Q' hd g1 g2=>?_)
     cases x1 with
     | nor=>
       simp only at h
       injection h with h; injection h with h2 h; injection h with h3 h4; subst h2; subst h3; subst h4
       exact hp a' w' K' Q' hd g1 g2
     | ret=>
       simp only at h
       injection h with h; injection h with h2 h; injection h with h3 h4; subst h2; subst h3; subst h4
       exact hp a' w' K' Q' hd g1 g2
     | ex k=>
       simp only at h
       by_cases hk:k=i
       · subst hk
         simp only [BEq.rfl,cond_true] at h
         injection h with h; injection h with h2 h; injection h with h3 h4; subst h2; subst h3; subst h4
         simp only [exitOf,Exit.inBlock,if_true]
         exact hp a' w' K' Q' hd g1 g2
       · rw [nbeq hk] at h
         simp only [cond_false] at h
         injection h with h; injection h with h2 h; injection h with h3 h4; subst h2; subst h3; subst h4
         simp only [exitOf,Exit.inBlock,hk,if_false]
         exact hp a' w' K' Q' hd g1 g2
 | loop c ih=>
   intro r e H x e' H' hok h K Q a w Qx hs he hp
   have hnd:r≠.die:=fun hh=>by subst hh; simp [ev] at h
   unfold okRC at hok
   split at hok<;>first | (cases hok; done) | (exact absurd rfl hnd) | skip
   all_goals rename_i heq; try (cases heq; done)
   · injection heq with heq; subst heq
     rename_i key
     split at hok<;>first | (cases hok; done) | (exact absurd rfl hnd) | skip
     rename_i li hli
     simp only [Bool.and_eq_true] at hok
     simp only [ev] at h
     exact wp_loop_rounds m (hL w0 K0 n key e H x e' H' _ li h hli hok.1 hok.2 K Q a w Qx hs he hp)
   · injection heq with heq; subst heq
     rename_i gs key
     simp only [Bool.and_eq_true] at hok
     obtain ⟨hgs,hok⟩:=hok
     split at hok<;>first | (cases hok; done) | (exact absurd rfl hnd) | skip
     rename_i li hli
     simp only [Bool.and_eq_true] at hok
     obtain ⟨e1,H1,h1,h⟩:=ev_seqreg h
     obtain ⟨K1,Q1,g1,g2⟩:=ghosts_ok hgs h1 hs he
     simp only [ev] at h
     exact wp_loop_rounds m (hL w0 K0 n key e1 H1 x e' H' _ li h hli hok.1 hok.2 K1 Q1 a w Qx g1 g2 hp)
 | rangeFunc=>intro r e H x e' H' hok h; cases r<;>first | (simp [okRC] at hok; done) | (simp [ev] at h; done)
 | scope=>intro r e H x e' H' hok h; cases r<;>first | (simp [okRC] at hok; done) | (simp [ev] at h; done)
 | label=>intro r e H x e' H' hok h; cases r<;>first | (simp [okRC] at hok; done) | (simp [ev] at h; done)
 | goto=>intro r e H x e' H' hok h; cases r<;>first | (simp [okRC] at hok; done) | (simp [ev] at h; done)
 | refuse=>intro r e H x e' H' hok h; cases r<;>first | (simp [okRC] at hok; done) | (simp [ev] at h; done)
end
end Gs
namespace Gs
open Go
variable [GlobTab]
def okRes (P:Program)(n:Nat):List ResultVar→List RV→Bool
 | [],[]=>true
 | .tmp t :: r,.tmp u :: r'=>t == u && decide (t < n) && okRes P n r r'
 | .cell t ty :: r,.cell u sz ag :: r'=>t == u && decide (t < n) && sizeT P ty == some sz && aggT P ty == some ag && okRes P n r r'
 | _,_=>false
def okFn (P:Program)(T:Tab)(fn:Func)(f:FI):Bool:=
  (match fn.body with
    | some c=>okRC P T fn.ntmps c f.body
    | none => false) && !(fn.name == "runtime.NumGoroutine") && okRes P fn.ntmps fn.results.toList f.res
section
variable {P:Program} {w0:World0} {w w':World} {K0 K K':Km} {Q Q':Pm} {H H':Heap} {n:Nat} {e e':Env} {O:Ora} {T:Tab}
theorem loop_succ (hm:P.follows .mixedOrders=true){m:Nat}(hO:CallsOk P (rounds T m))(hL:LoopOk P T m):LoopOk P T (m + 1):=by
 intro w0 K0 n key e H x e' H' c li h hli hb hok K Q a w Qx hs he hp
 simp only [rounds,hli,runL] at h
 rw [evk_eq] at h
 split at h<;>try (cases h; done)
 rename_i x1 e1 H1 hev
 obtain ⟨K1,g1,g2⟩:=head_ok hs he (h:=li.head) hb
 rw [rounds_succ]
 refine code_ok hm hO hL c li.body _ _ x1 e1 H1 hok hev K1 Q a w _ g1 g2 fun a' w' K' Q' hd k1 k2=>?_
 cases x1 with
 | nor=>exact hL w0 K0 n key e1 H1 x e' H' c li h hli hb hok K' Q' a' w' Qx k1 k2 (hd ▸ hp)
 | ret=>
   simp only at h
   injection h with h; injection h with h2 h; injection h with h3 h4; subst h2; subst h3; subst h4
   exact hp a' w' K' Q' hd k1 k2
 | ex k=>
   simp only at h
   injection h with h; injection h with h2 h; injection h with h3 h4; subst h2; subst h3; subst h4
   exact hp a' w' K' Q' hd k1 k2
def resF (tmps:Array Value):ResultVar→Sem Value
 | .tmp t=>pure (tmps.getD t undef)
 | .cell a t=>do loadVar t (←asAddr (tmps.getD a undef))
theorem res_list (hs:Sim w0 K0 K Q H w){tmps:Array Value}(he:RelE K Q n e tmps):∀ {l:List ResultVar} {r:List RV} {ds:List D},okRes P n l r=true→rvDs e H r=some ds→
   ∃ vs:List Value,(l.mapM (resF tmps)).run P w = .ok vs w∧RelL K Q ds vs
 | [],[],ds,_,h=>by
   simp only [rvDs] at h
   injection h with h; subst h
   exact ⟨[],by simp,.nil⟩
 | .tmp t :: r,.tmp u :: r',ds,hok,h=>by
   simp only [okRes,Bool.and_eq_true,beq_iff_eq,decide_eq_true_eq] at hok
   obtain ⟨⟨rfl,hlt⟩,hok⟩:=hok
   simp only [rvDs,rvD] at h
   split at h<;>try (cases h; done)
   rename_i d l hd hl
   injection h with h; subst h
   injection hd with hd; subst hd
   obtain ⟨vs,g1,g2⟩:=res_list hs he hok hl
   refine ⟨tmps.getD t undef :: vs,?_,.cons (he.2 t hlt) g2⟩
   simp only [List.mapM_cons,Sem.run_bind,resF,Sem.run_pure,Result.andThen_ok,g1]
 | .cell t ty :: r,.cell u sz ag :: r',ds,hok,h=>by
   simp only [okRes,Bool.and_eq_true,beq_iff_eq,decide_eq_true_eq] at hok
   obtain ⟨⟨⟨⟨rfl,hlt⟩,hsz⟩,hag⟩,hok⟩:=hok
   simp only [rvDs,rvD] at h
   split at h<;>try (cases h; done)
   rename_i d l hd hl
   injection h with h; subst h
   obtain ⟨vs,g1,g2⟩:=res_list hs he hok hl
   obtain ⟨B,o',u,hv,hrun,hr⟩:=ldD_run (P:=P) hs (he.2 t hlt) hd hag hsz
   refine ⟨u :: vs,?_,.cons hr g2⟩
   have ha:(asAddr (pt B o')).run P w = .ok ⟨B,o',none⟩ w:=by simp [asAddr,pt]
   simp only [List.mapM_cons,Sem.run_bind,resF,hv,ha,Result.andThen_ok,hrun,g1,Sem.run_pure]
 | [],_ :: _,ds,hok,_=>by simp [okRes] at hok
 | .tmp _ :: _,[],ds,hok,_=>by simp [okRes] at hok
 | .tmp _ :: _,.cell _ _ _ :: _,ds,hok,_=>by simp [okRes] at hok
 | .cell _ _ :: _,[],ds,hok,_=>by simp [okRes] at hok
 | .cell _ _ :: _,.tmp _ :: _,ds,hok,_=>by simp [okRes] at hok
theorem results_ok (hs:Sim w0 K0 K Q H w){fn:Func}{tmps:Array Value}(he:RelE K Q n e tmps){r:List RV}{d:D}(hok:okRes P n fn.results.toList r=true)(h:resOf e H r=some d):∃ v,(results fn tmps).run P w = .ok v w∧Rel K Q d v:=by
 unfold resOf at h
 cases hd:rvDs e H r with
 | none=>rw [hd] at h; cases h
 | some ds=>
   rw [hd] at h
   obtain ⟨vs,g1,g2⟩:=res_list hs he hok hd
   have hrun:(results fn tmps).run P w = .ok (if h:vs.toArray.size=1 then vs.toArray[0] else .tuple vs.toArray) w:=by
     show ((fn.results.mapM (resF tmps) >>= fun vs=>pure (if h:vs.size=1 then vs[0] else .tuple vs)):Sem Value).run P w=_
     rw [Array.mapM_eq_mapM_toList]
     simp only [Sem.run_bind,map_eq_pure_bind,g1,Result.andThen_ok,Sem.run_pure]
   refine ⟨_,hrun,?_⟩
   cases g2 with
   | nil=>
     simp only at h
     injection h with h; subst h
     exact .tup .nil
   | cons hr ht=>
     cases ht with
     | nil=>
       simp only at h
       injection h with h; subst h
       exact hr
     | cons hr' ht=>
       simp only at h
       injection h with h; subst h
       simp only [List.size_toArray,List.length_cons,Nat.add_eq,Nat.succ_ne_zero,dif_neg,Nat.add_right_cancel_iff,reduceCtorEq,Nat.add_eq_zero_iff,and_false,false_and,Nat.succ.injEq,dite_false]
       exact .tup (.cons hr (.cons hr' ht))
theorem get_start (args:List D):∀ (k t:Nat),get (start k args) t=if k≤t then (args[t - k]?).getD .dead else .dead:=by
 induction args with
 | nil=>intro k t; simp [start,get]
 | cons a r ih=>
   intro k t
   simp only [start,get]
   by_cases h:k=t
   · subst h; simp
   · rw [nbeq h,cond_false,ih]
     by_cases h1:k≤t
     · rw [if_pos (by omega),if_pos h1,show t - k=(t - (k + 1)) + 1 by omega]; rfl
     · rw [if_neg (by omega),if_neg h1]
theorem fn_ok (hm:P.follows .mixedOrders=true){m:Nat}(hO:CallsOk P (rounds T m))(hL:LoopOk P T m){g:Nat}{fn:Func}{f:FI}(hf:P.funcs[g]?=some fn)(hok:okFn P T fn f=true){args:List D}{r:D}(h:runF (rounds T m) f args H=some (r,H')):Gives P g args H r H':=by
 unfold okFn at hok
 simp only [Bool.and_eq_true,Bool.not_eq_true'] at hok
 obtain ⟨⟨h1,h2⟩,h3⟩:=hok
 cases hb:fn.body with
 | none=>rw [hb] at h1; cases h1
 | some c=>
   rw [hb] at h1
   simp only at h1
   refine ⟨⟨fn,hf,by rw [hb]; rfl,h2⟩,fun K Q w vs hids hgl hc ha=>?_⟩
   unfold runF at h
   rw [evk_eq] at h
   split at h<;>try (cases h; done)
   rename_i x e1 H1 hev
   refine calls_of_wp hf hb ?_
   have hs0:Sim ⟨w,Q⟩ K K Q H w:=⟨hc,⟨rfl,rfl,rfl,Nat.le_refl _,fun _ _ _=>rfl,fun _=>Nat.le_refl _⟩,fun b i B o n hk hl=>.inl ⟨b,i,o,n,hk,hl⟩,fun _ _ _ _ _ _=>rfl,fun _ _ _ _=>rfl,fun _ _ _ h=>h⟩
   have he0:RelE K Q fn.ntmps (start 0 args) (vs.toArray ++ Array.replicate (fn.ntmps - vs.toArray.size) undef):=by
     refine ⟨⟨by simp; omega,hgl⟩,fun t ht=>?_⟩
     rw [get_start,if_pos (by omega),Nat.sub_zero]
     cases ht':args[t]? with
     | none=>exact .dead _
     | some d=>
       obtain ⟨v,hv,hr⟩:=ha.get ht'
       have hlt:=(List.getElem?_eq_some_iff.1 hv).1
       simp only [Option.getD_some]
       have:(vs.toArray ++ Array.replicate (fn.ntmps - vs.toArray.size) undef).getD t undef=v:=by
         rw [Array.getD_eq_getD_getElem?,Array.getElem?_append_left (by simpa using hlt)]
         simp [hv]
       rw [this]; exact hr
   refine code_ok (w0:=⟨w,Q⟩) (K0:=K) hm hO hL c f.body _ _ x e1 H1 h1 hev K Q _ w _ hs0 he0 fun a' w' K' Q' hd k1 k2=>?_
   have fin:(match resOf e1 H1 f.res with | some v=>handBack (idsOf H) f.outs v H1 | none=>none)=some (r,H')→a'.defers=[]∧∃ v,(results fn a'.tmps).run P w' = .ok v w'∧(∃ v',Ending.returned v = .returned v'∧∃ K' Q',Sim ⟨w,Q⟩ K K' Q' H' w'∧Le Q Q'∧Rel K' Q' r v'):=fun h=>by
     refine ⟨hd,?_⟩
     split at h<;>try (cases h; done)
     rename_i d hres
     obtain ⟨v,hv,hr⟩:=results_ok k1 k2 h3 hres
     obtain ⟨K2,q1,q2⟩:=handBack_ok (K0:=K) hids (fun b=>by
       cases hk:K b with
       | none=>exact .inr rfl
       | some i=>
         obtain ⟨x,hx⟩:=hc.dom b i hk
         exact .inl ((mem_idsOf H b).2 (by rw [hx]; simp))) h k1 hr
     exact ⟨v,hv,v,rfl,K2,Q',q1,k1.grow,q2⟩
   cases x with
   | nor=>exact fin h
   | ret=>exact fin h
   | ex k=>cases h
end
end Gs
namespace Gs
open Go
variable [GlobTab]
def Evt (p:Nat→Prop):Prop:=∃ M,∀ m,M≤m→p m
theorem Evt.of {p:Nat→Prop}(h:∀ m,p m):Evt p:=⟨0,fun m _=>h m⟩
theorem Evt.and {p q:Nat→Prop}(h:Evt p)(h':Evt q):Evt fun m=>p m∧q m:=by
 obtain ⟨M,h⟩:=h; obtain ⟨N,h'⟩:=h'
 exact ⟨max M N,fun m hm=>⟨h m (by omega),h' m (by omega)⟩⟩
theorem Evt.mono {p q:Nat→Prop}(h:Evt p)(hh:∀ m,p m→q m):Evt q:=by
 obtain ⟨M,h⟩:=h; exact ⟨M,fun m hm=>hh m (h m hm)⟩
structure Tends (L:Ora) (O:Nat→Ora):Prop where
 call:∀ g avs H r,L.call g avs H=some r→Evt fun m=>(O m).call g avs H=some r
 loop:∀ k e H r,L.loop k e H=some r→Evt fun m=>(O m).loop k e H=some r
section
variable {L:Ora} {O:Nat→Ora} (hT:Tends L O)
include hT
theorem evOp_lim {e:Env}{H:Heap}{ro:RO}{x:D×Env×Heap}(h:evOp L e H ro=some x):Evt fun m=>evOp (O m) e H ro=some x:=by
 cases ro
 case call f args bs tids=>
   simp only [evOp,callOp] at h ⊢
   split at h<;>try (cases h; done)
   rename_i g caps hf
   split at h<;>try (cases h; done)
   rename_i hc
   split at h<;>try (cases h; done)
   rename_i r Ho hcall
   refine (hT.call _ _ _ _ hcall).mono fun m hm=>?_
   simp only [hc,hm]; exact h
 case callb f args bs=>
   simp only [evOp,callOp] at h ⊢
   split at h<;>try (cases h; done)
   rename_i g caps hf
   split at h<;>try (cases h; done)
   rename_i hc
   split at h<;>try (cases h; done)
   rename_i r Ho hcall
   have hcall':=hcall
   unfold bzCall at hcall'
   split at hcall'<;>try (cases hcall'; done)
   rename_i as' H1 h1
   split at hcall'<;>try (cases hcall'; done)
   rename_i r1 hc1
   refine (hT.call _ _ _ _ hc1).mono fun m hm=>?_
   have hb:bzCall (O m) g (renL (names bs parId) (rhos e args ++ caps)) (pickH (names bs parId) (fun _ _=>false) H (names bs parId))=some (r,Ho):=by
     unfold bzCall
     rw [h1]
     simp only
     rw [hm]
     exact hcall'
   simp only [hc,hb]; exact h
 case callq f args=>
   simp only [evOp] at h ⊢
   split at h<;>try (cases h; done)
   rename_i g caps hf
   split at h<;>try (cases h; done)
   rename_i r Ho hcall
   refine (hT.call _ _ _ _ hcall).mono fun m hm=>?_
   simp only [hm]; exact h
 case callf f args=>
   simp only [evOp] at h ⊢
   split at h<;>try (cases h; done)
   rename_i g caps hf
   split at h<;>try (cases h; done)
   rename_i r Ho hcall
   refine (hT.call _ _ _ _ hcall).mono fun m hm=>?_
   simp only [hm]; exact h
 case callc f args bs=>
   simp only [evOp] at h ⊢
   split at h<;>try (cases h; done)
   rename_i g caps hf
   split at h<;>try (cases h; done)
   rename_i hc
   split at h<;>try (cases h; done)
   rename_i r Ho hcall
   have hcall':=hcall
   unfold bzCall at hcall'
   split at hcall'<;>try (cases hcall'; done)
   rename_i as' H1 h1
   split at hcall'<;>try (cases hcall'; done)
   rename_i r1 hc1
   refine (hT.call _ _ _ _ hc1).mono fun m hm=>?_
   have hb:bzCall (O m) g (renL (names bs parId) (rhos e args ++ caps)) (pickH (names bs parId) (fun _ _=>false) H (names bs parId))=some (r,Ho):=by
     unfold bzCall
     rw [h1]
     simp only
     rw [hm]
     exact hcall'
   simp only [hc,hb]; exact h
 all_goals exact Evt.of fun m=>h
mutual
theorem evI_lim {H:Heap} : ∀ (i:RI) (e e':Env),evI L H i e=some e'→Evt fun m=>evI (O m) H i e=some e'
 | .op d o,e,e',h=>by
   simp only [evI] at h ⊢
   split at h<;>try (cases h; done)
   rename_i v e1 H1 ho
   exact (evOp_lim hT ho).mono fun m hm=>by rw [hm]; exact h
 | .sc d c want strict blk res alt,e,e',h=>by
   simp only [evI] at h ⊢
   split at h<;>try (cases h; done)
   rename_i p hp
   cases hb:evIs L H blk e with
   | some e1=>
     rw [hb] at h
     exact (evIs_lim blk e e1 hb).mono fun m hm=>by rw [hm]; exact h
   | none=>
     rw [hb] at h
     unfold scEnd at h
     split at h
     · cases h
     · split at h
       · cases h
       · rename_i hj
         refine Evt.of fun m=>?_
         unfold scEnd
         simp only [hj]; exact h
theorem evIs_lim {H:Heap} : ∀ (l:List RI) (e e':Env),evIs L H l e=some e'→Evt fun m=>evIs (O m) H l e=some e'
 | [],e,e',h=>Evt.of fun m=>h
 | i :: r,e,e',h=>by
   simp only [evIs] at h ⊢
   split at h<;>try (cases h; done)
   rename_i e1 h1
   exact ((evI_lim i e e1 h1).and (evIs_lim r e1 e' h)).mono fun m hm=>by rw [hm.1]; exact hm.2
end
theorem evSts_lim:∀ (l:List (Nat×Nat×RO)) (e:Env) (H:Heap) (x:Heap),evSts L l e H=some x→Evt fun m=>evSts (O m) l e H=some x
 | [],e,H,x,h=>Evt.of fun m=>h
 | (_,_,ro) :: r,e,H,x,h=>by
   simp only [evSts] at h ⊢
   split at h<;>try (cases h; done)
   rename_i v e1 H1 h1
   exact ((evOp_lim hT h1).and (evSts_lim r e H1 x h)).mono fun m hm=>by rw [hm.1]; exact hm.2
theorem evP_lim:∀ (l:List (Nat×Nat×RO×List Nat)) (tr:List (List D×List Nat)) (e:Env) (H:Heap) (x:Env×Heap),evP L l tr e H=some x→Evt fun m=>evP (O m) l tr e H=some x
 | [],tr,e,H,x,h=>Evt.of fun m=>h
 | (_,d,ro,ck) :: r,tr,e,H,x,h=>by
   simp only [evP] at h ⊢
   split at h<;>try (cases h; done)
   rename_i v e1 H1 h1
   split at h<;>try (cases h; done)
   rename_i hc
   exact ((evOp_lim hT h1).and (evP_lim r _ _ _ x h)).mono fun m hm=>by rw [hm.1]; simp only [hc]; exact hm.2
theorem evOs_lim:∀ (l:List (Nat×RO)) (e:Env) (H:Heap) (x:Env×Heap),evOs L l e H=some x→Evt fun m=>evOs (O m) l e H=some x
 | [],e,H,x,h=>Evt.of fun m=>h
 | (d,ro) :: r,e,H,x,h=>by
   simp only [evOs] at h ⊢
   split at h<;>try (cases h; done)
   rename_i v e1 H1 h1
   exact ((evOp_lim hT h1).and (evOs_lim r _ _ x h)).mono fun m hm=>by rw [hm.1]; exact hm.2
theorem evSegs_lim:∀ (l:List Seg) (e:Env) (H:Heap) (x:Env×Heap),evSegs L l e H=some x→Evt fun m=>evSegs (O m) l e H=some x
 | [],e,H,x,h=>Evt.of fun m=>h
 | .q l :: r,e,H,x,h=>by
   simp only [evSegs] at h ⊢
   split at h<;>try (cases h; done)
   rename_i e1 h1
   exact ((evIs_lim hT l e e1 h1).and (evSegs_lim r e1 H x h)).mono fun m hm=>by rw [hm.1]; exact hm.2
 | .m l _ ls :: r,e,H,x,h=>by
   simp only [evSegs] at h ⊢
   split at h<;>try (cases h; done)
   rename_i e1 h1
   split at h<;>try (cases h; done)
   rename_i H1 h2
   exact ((evIs_lim hT l e e1 h1).and ((evSts_lim hT ls e1 H H1 h2).and (evSegs_lim r e1 H1 x h))).mono fun m hm=>by rw [hm.1]; simp only [hm.2.1]; exact hm.2.2
 | .o d o :: r,e,H,x,h=>by
   simp only [evSegs] at h ⊢
   split at h<;>try (cases h; done)
   rename_i v e1 H1 h1
   exact ((evOp_lim hT h1).and (evSegs_lim r _ _ x h)).mono fun m hm=>by rw [hm.1]; exact hm.2
 | .g g :: r,e,H,x,h=>by
   simp only [evSegs] at h ⊢
   split at h<;>try (cases h; done)
   rename_i e1 H1 h1
   exact (evSegs_lim r _ _ x h).mono fun m hm=>hm
 | .p l :: r,e,H,x,h=>by
   simp only [evSegs] at h ⊢
   split at h<;>try (cases h; done)
   rename_i e1 H1 h1
   exact ((evP_lim hT l _ e H _ h1).and (evSegs_lim r _ _ x h)).mono fun m hm=>by rw [hm.1]; exact hm.2
 | .w c j want l :: r,e,H,x,h=>by
   simp only [evSegs] at h ⊢
   split at h<;>try (cases h; done)
   rename_i p hp
   split at h
   · rename_i hw
     split at h<;>try (cases h; done)
     rename_i e1 H1 h1
     try simp only [hw]
     exact ((evOs_lim hT l e H _ h1).and (evSegs_lim r _ _ x h)).mono fun m hm=>by rw [hm.1]; exact hm.2
   · rename_i hw
     try simp only [hw]
     exact evSegs_lim r _ _ x h
theorem ev_lim:∀ (r:RC) (e:Env) (H:Heap) (x:X×Env×Heap),ev L r e H=some x→Evt fun m=>ev (O m) r e H=some x
 | .skip,e,H,x,h=>Evt.of fun m=>h
 | .ret,e,H,x,h=>Evt.of fun m=>h
 | .exit n,e,H,x,h=>Evt.of fun m=>h
 | .reg l,e,H,x,h=>by
   simp only [ev] at h ⊢
   split at h<;>try (cases h; done)
   rename_i e1 H1 h1
   exact (evSegs_lim hT l e H _ h1).mono fun m hm=>by rw [hm]; exact h
 | .seq a b,e,H,x,h=>by
   simp only [ev] at h ⊢
   cases ha:ev L a e H with
   | none=>rw [ha] at h; cases h
   | some p=>
     obtain ⟨y,e1,H1⟩:=p
     rw [ha] at h
     have h1:=ev_lim a e H _ ha
     cases y with
     | nor=>exact (h1.and (ev_lim b e1 H1 x h)).mono fun m hm=>by rw [hm.1]; exact hm.2
     | ret=>exact h1.mono fun m hm=>by rw [hm]; exact h
     | ex n=>exact h1.mono fun m hm=>by rw [hm]; exact h
 | .cond c a b,e,H,x,h=>by
   simp only [ev] at h ⊢
   split at h<;>try (cases h; done)
   rename_i p hp
   cases p with
   | true=>exact ev_lim a e H x h
   | false=>exact ev_lim b e H x h
 | .block n c,e,H,x,h=>by
   simp only [ev] at h ⊢
   cases hc:ev L c e H with
   | none=>rw [hc] at h; cases h
   | some p=>
     rw [hc] at h
     exact (ev_lim c e H _ hc).mono fun m hm=>by rw [hm]; exact h
 | .loop key,e,H,x,h=>by
   simp only [ev] at h ⊢
   exact hT.loop _ _ _ _ h
 | .die,e,H,x,h=>by simp [ev] at h
theorem evk_lim {α:Type}(r:RC)(e:Env)(H:Heap)(k:X→Env→Heap→Option α)(k':Nat→X→Env→Heap→Option α)(x:α)(hk:∀ y e H,k y e H=some x→Evt fun m=>k' m y e H=some x)(h:evk L r e H k=some x):Evt fun m=>evk (O m) r e H (k' m)=some x:=by
 rw [evk_eq] at h
 split at h<;>try (cases h; done)
 rename_i y e1 H1 h1
 exact ((ev_lim hT r e H _ h1).and (hk _ _ _ h)).mono fun m hm=>by rw [evk_eq,hm.1]; exact hm.2
theorem runF_lim {f:FI}{args:List D}{H:Heap}{x:D×Heap}(h:runF L f args H=some x):Evt fun m=>runF (O m) f args H=some x:=
 evk_lim hT f.body _ _ _ (fun _=>_) x (fun y e H hk=>Evt.of fun m=>hk) h
theorem runL_lim {key:Nat}{l:LI}{e:Env}{H:Heap}{x:X×Env×Heap}(h:runL L key l e H=some x):Evt fun m=>runL (O m) key l e H=some x:=by
 refine evk_lim hT l.body _ _ _ (fun m y e' H'=>match y with | .nor=>(O m).loop key e' H' | y=>some (y,e',H')) x (fun y e H hk=>?_) h
 cases y with
 | nor=>exact hT.loop _ _ _ _ hk
 | ret=>exact Evt.of fun m=>hk
 | ex n=>exact Evt.of fun m=>hk
end
theorem rounds_mono (T:Tab):∀ m,(∀ g avs H r,(rounds T m).call g avs H=some r→(rounds T (m + 1)).call g avs H=some r)∧(∀ k e H r,(rounds T m).loop k e H=some r→(rounds T (m + 1)).loop k e H=some r)
 | 0=>⟨fun g avs H r h=>by simp [rounds] at h,fun k e H r h=>by simp [rounds] at h⟩
 | m + 1=>by
   obtain ⟨h1,h2⟩:=rounds_mono T m
   have ht:Tends (rounds T m) fun _=>rounds T (m + 1):=⟨fun g avs H r h=>Evt.of fun _=>h1 g avs H r h,fun k e H r h=>Evt.of fun _=>h2 k e H r h⟩
   refine ⟨fun g avs H r h=>?_,fun k e H r h=>?_⟩
   · rw [rounds] at h ⊢
     simp only at h ⊢
     split at h
     · exact h
     · split at h<;>try (cases h; done)
       obtain ⟨M,hM⟩:=runF_lim ht h
       exact hM M (Nat.le_refl _)
   · rw [rounds] at h ⊢
     simp only at h ⊢
     split at h<;>try (cases h; done)
     obtain ⟨M,hM⟩:=runL_lim ht h
     exact hM M (Nat.le_refl _)
theorem rounds_le (T:Tab){m m':Nat}(h:m≤m'):(∀ g avs H r,(rounds T m).call g avs H=some r→(rounds T m').call g avs H=some r)∧(∀ k e H r,(rounds T m).loop k e H=some r→(rounds T m').loop k e H=some r):=by
 induction h with
 | refl=>exact ⟨fun _ _ _ _ h=>h,fun _ _ _ _ h=>h⟩
 | step _ ih=>exact ⟨fun g avs H r h=>(rounds_mono T _).1 _ _ _ _ (ih.1 g avs H r h),fun k e H r h=>(rounds_mono T _).2 _ _ _ _ (ih.2 k e H r h)⟩
open Classical in
noncomputable def lim (T:Tab):Ora:=
 { call:=fun g avs H=>if h:∃ r,∃ m,(rounds T m).call g avs H=some r then some h.choose else none
   loop:=fun k e H=>if h:∃ r,∃ m,(rounds T m).loop k e H=some r then some h.choose else none }
theorem lim_call {T:Tab}{g:Nat}{avs:List D}{H:Heap}{r:D×Heap} : (lim T).call g avs H=some r↔∃ m,(rounds T m).call g avs H=some r:=by
 simp only [lim]
 constructor
 · intro h
   split at h<;>try (cases h; done)
   rename_i hh
   injection h with h
   rw [←h]; exact hh.choose_spec
 · rintro ⟨m,hm⟩
   have hh:∃ r,∃ m,(rounds T m).call g avs H=some r:=⟨r,m,hm⟩
   rw [dif_pos hh]
   obtain ⟨m',hm'⟩:=hh.choose_spec
   have h1:=(rounds_le T (Nat.le_max_left m m')).1 _ _ _ _ hm
   have h2:=(rounds_le T (Nat.le_max_right m m')).1 _ _ _ _ hm'
   rw [h1] at h2; injection h2 with h2; rw [←h2]
theorem lim_loop {T:Tab}{k:Nat}{e:Env}{H:Heap}{r:X×Env×Heap} : (lim T).loop k e H=some r↔∃ m,(rounds T m).loop k e H=some r:=by
 simp only [lim]
 constructor
 · intro h
   split at h<;>try (cases h; done)
   rename_i hh
   injection h with h
   rw [←h]; exact hh.choose_spec
 · rintro ⟨m,hm⟩
   have hh:∃ r,∃ m,(rounds T m).loop k e H=some r:=⟨r,m,hm⟩
   rw [dif_pos hh]
   obtain ⟨m',hm'⟩:=hh.choose_spec
   have h1:=(rounds_le T (Nat.le_max_left m m')).2 _ _ _ _ hm
   have h2:=(rounds_le T (Nat.le_max_right m m')).2 _ _ _ _ hm'
   rw [h1] at h2; injection h2 with h2; rw [←h2]
theorem lim_tends (T:Tab):Tends (lim T) (rounds T):=
 ⟨fun g avs H r h=>by obtain ⟨m,hm⟩:=lim_call.1 h; exact ⟨m,fun m' h'=>(rounds_le T h').1 _ _ _ _ hm⟩,
  fun k e H r h=>by obtain ⟨m,hm⟩:=lim_loop.1 h; exact ⟨m,fun m' h'=>(rounds_le T h').2 _ _ _ _ hm⟩⟩
theorem call_eq {T:Tab}{g:Nat}{f:FI}(hx:T.ext g=none)(hf:T.fn g=some f){args:List D}{H:Heap}{r:D×Heap}(h:runF (lim T) f args H=some r):(lim T).call g args H=some r:=by
 obtain ⟨M,hM⟩:=runF_lim (lim_tends T) h
 exact lim_call.2 ⟨M + 1,by simp only [rounds,hx,hf]; exact hM M (Nat.le_refl _)⟩
theorem loop_eq {T:Tab}{k:Nat}{l:LI}(hl:T.lp k=some l){e:Env}{H:Heap}{r:X×Env×Heap}(h:runL (lim T) k l e H=some r):(lim T).loop k e H=some r:=by
 obtain ⟨M,hM⟩:=runL_lim (lim_tends T) h
 exact lim_loop.2 ⟨M + 1,by simp only [rounds,hl]; exact hM M (Nat.le_refl _)⟩
theorem ext_eq {T:Tab}{g:Nat}{s:List D→Heap→Option (D×Heap)}(hx:T.ext g=some s){args:List D}{H:Heap}{r:D×Heap}(h:s args H=some r):(lim T).call g args H=some r:=
 lim_call.2 ⟨1,by simp only [rounds,hx]; exact h⟩
structure TabOk (P:Program) (T:Tab):Prop where
 mixed:P.follows .mixedOrders=true
 ext:∀ g s,T.ext g=some s→∀ args H r H',s args H=some (r,H')→Gives P g args H r H'
 fn:∀ g f,T.ext g=none→T.fn g=some f→∃ fn,P.funcs[g]?=some fn∧okFn P T fn f=true
theorem rounds_ok {P:Program}{T:Tab}(h:TabOk P T):∀ m,CallsOk P (rounds T m)∧LoopOk P T m
 | 0=>⟨fun g avs Hc r Ho hh=>by simp [rounds] at hh,fun w0 K0 n key e H x e' H' c li hh=>by simp [rounds] at hh⟩
 | m + 1=>by
   obtain ⟨h1,h2⟩:=rounds_ok h m
   refine ⟨fun g avs Hc r Ho hh=>?_,loop_succ h.mixed h1 h2⟩
   simp only [rounds] at hh
   split at hh
   · rename_i s hs; exact h.ext g s hs avs Hc r Ho hh
   · rename_i hs
     split at hh<;>try (cases hh; done)
     rename_i f hf
     obtain ⟨fn,g1,g2⟩:=h.fn g f hs hf
     exact fn_ok h.mixed h1 h2 g1 g2 hh
theorem gives {P:Program}{T:Tab}(h:TabOk P T){g:Nat}{args:List D}{H H':Heap}{r:D}(hc:(lim T).call g args H=some (r,H')):Gives P g args H r H':=by
 obtain ⟨m,hm⟩:=lim_call.1 hc
 exact (rounds_ok h m).1 _ _ _ _ _ hm
end Gs
namespace Gs
open Go
theorem get_setl (e:Env)(a b:Nat)(v:D):get (set e a v) b=bif a == b then v else get e b:=by
 rw [get_set]
 by_cases h:a=b
 · subst h; simp
 · rw [if_neg h,nbeq h]; rfl
theorem renL_closed {m:List (Nat×Nat)}{l:List D}(h:closedL l=true):renL m l=l:=by rw [renL_eq]; exact mapL_closed _ l h
theorem inb_ofNat (i n:Nat):inb (i:Int) n=decide (i < n):=by simp [inb]
theorem inc_ofNat (i n:Nat):inc (i:Int) n=decide (i≤n):=by simp [inc]
theorem wrap_nat {n:Nat}(h:n < 9223372036854775808):IntKind.i64.wrap (n:Int)=(n:Int):=by
 rw [IntKind.wrap_i64]; omega
theorem wrap_in {n:Int}(h : -9223372036854775808≤n)(h':n < 9223372036854775808):IntKind.i64.wrap n=n:=by
 rw [IntKind.wrap_i64]; omega
theorem wrap_succ {i:Nat}(h:i < 4611686018427387904):IntKind.i64.wrap ((i:Int) + 1)=((i + 1:Nat):Int):=by
 rw [IntKind.wrap_i64]; omega
theorem fits_of {n b:Nat}(h:n * b≤140737488355328):fits n b=true:=by simp [fits,h]
end Gs
namespace Gs
open Go
variable [GlobTab]
def thru {α S R:Type}(f:S→α→R ⊕ S):List α→S→R ⊕ S
 | [],s=>.inr s
 | x :: r,s=>match f s x with
   | .inl b=>.inl b
   | .inr s'=>thru f r s'
def upto {S R:Type}(f:S→Nat→R ⊕ S):Nat→Nat→S→R ⊕ S
 | 0,_,s=>.inr s
 | k + 1,i,s=>match f s i with
   | .inl b=>.inl b
   | .inr s'=>upto f k (i + 1) s'
def Ends (T:Tab)(key:Nat)(e:Env)(H:Heap)(P:X→Env→Heap→Prop):Prop:=∃ x e' H',(lim T).loop key e H=some (x,e',H')∧P x e' H'
def Good:Option (X×Env×Heap)→(X→Env→Heap→Prop)→Prop
 | none,_=>False
 | some (x,e,H),P=>P x e H
theorem good_some (x:X)(e:Env)(H:Heap)(P:X→Env→Heap→Prop):Good (some (x,e,H)) P=P x e H:=rfl
def round (O:Ora)(li:LI)(e:Env)(H:Heap):Option (X×Env×Heap):=evk O li.body (atHead li.head e H).1 (atHead li.head e H).2 fun x e H=>some (x,e,H)
def isNor:X→Bool
 | .nor=>true
 | _=>false
theorem runL_round {O:Ora}{key:Nat}{li:LI}{e e':Env}{H H':Heap}{x:X}(h:round O li e H=some (x,e',H')):runL O key li e H=match x with | .nor=>O.loop key e' H' | x=>some (x,e',H'):=by
 unfold round at h
 unfold runL
 rw [evk_eq] at h ⊢
 cases hh:ev O li.body (atHead li.head e H).1 (atHead li.head e H).2 with
 | none=>rw [hh] at h; cases h
 | some p=>
   obtain ⟨x1,e1,H1⟩:=p
   rw [hh] at h
   simp only at h ⊢
   injection h with h; injection h with h1 h; injection h with h2 h3; subst h1; subst h2; subst h3
   cases x1<;>rfl
theorem round_ends {T:Tab}{key:Nat}{li:LI}(hl:T.lp key=some li){e:Env}{H:Heap}{P:X→Env→Heap→Prop}(h:Good (round (lim T) li e H) fun x e' H'=>isNor x=false∧P x e' H'):Ends T key e H P:=by
 cases hr:round (lim T) li e H with
 | none=>rw [hr] at h; exact h.elim
 | some p=>
   obtain ⟨x,e1,H1⟩:=p
   rw [hr] at h
   obtain ⟨h1,h2⟩:=h
   refine ⟨x,e1,H1,loop_eq hl ?_,h2⟩
   rw [runL_round hr]
   cases x<;>first | (simp [isNor] at h1; done) | rfl
theorem round_goes {T:Tab}{key:Nat}{li:LI}(hl:T.lp key=some li){e:Env}{H:Heap}{P:X→Env→Heap→Prop}{Q:Env→Heap→Prop}(h:Good (round (lim T) li e H) fun x e' H'=>isNor x=true∧Q e' H')(hq:∀ e H,Q e H→Ends T key e H P):Ends T key e H P:=by
 cases hr:round (lim T) li e H with
 | none=>rw [hr] at h; exact h.elim
 | some p=>
   obtain ⟨x,e1,H1⟩:=p
   rw [hr] at h
   obtain ⟨h1,h2⟩:=h
   obtain ⟨x2,e2,H2,h3,h4⟩:=hq _ _ h2
   refine ⟨x2,e2,H2,loop_eq hl ?_,h4⟩
   rw [runL_round hr]
   cases x<;>first | (simp [isNor] at h1; done) | exact h3
theorem Ends.mono {T:Tab}{key:Nat}{e:Env}{H:Heap}{P Q:X→Env→Heap→Prop}(h:Ends T key e H P)(hh:∀ x e H,P x e H→Q x e H):Ends T key e H Q:=by
 obtain ⟨x,e',H',h1,h2⟩:=h
 exact ⟨x,e',H',h1,hh _ _ _ h2⟩
theorem loop_thru {T:Tab}{key:Nat}{li:LI}(hl:T.lp key=some li){α S R:Type}(f:S→α→R ⊕ S)(xs:List α)(St:Nat→S→Env→Heap→Prop)(Rt:R→X→Env→Heap→Prop)(Fn:S→X→Env→Heap→Prop)
   (go:∀ i x s s' e H,xs[i]?=some x→St i s e H→f s x = .inr s'→Good (round (lim T) li e H) fun x e' H'=>isNor x=true∧St (i + 1) s' e' H')
   (out:∀ i x s r e H,xs[i]?=some x→St i s e H→f s x = .inl r→Good (round (lim T) li e H) fun x e' H'=>isNor x=false∧Rt r x e' H')
   (fin:∀ s e H,St xs.length s e H→Good (round (lim T) li e H) fun x e' H'=>isNor x=false∧Fn s x e' H') :
   ∀ (suf pre:List α) (s:S) (e:Env) (H:Heap),xs=pre ++ suf→St pre.length s e H→Ends T key e H (fun x e' H'=>match thru f suf s with | .inl r=>Rt r x e' H' | .inr s'=>Fn s' x e' H')
 | [],pre,s,e,H,hx,hs=>by
   rw [List.append_nil] at hx
   subst hx
   exact round_ends hl (fin s e H hs)
 | x :: suf,pre,s,e,H,hx,hs=>by
   have hget:xs[pre.length]?=some x:=by rw [hx]; simp
   simp only [thru]
   cases hf:f s x with
   | inl r=>exact round_ends hl (out _ _ _ _ _ _ hget hs hf)
   | inr s'=>
     refine round_goes hl (go _ _ _ _ _ _ hget hs hf) fun e' H' hs'=>?_
     exact loop_thru hl f xs St Rt Fn go out fin suf (pre ++ [x]) s' e' H' (by rw [hx]; simp) (by simpa using hs')
theorem loop_upto {T:Tab}{key:Nat}{li:LI}(hl:T.lp key=some li){S R:Type}(f:S→Nat→R ⊕ S)(n:Nat)(St:Nat→S→Env→Heap→Prop)(Rt:R→X→Env→Heap→Prop)(Fn:S→X→Env→Heap→Prop)
   (go:∀ i s s' e H,i < n→St i s e H→f s i = .inr s'→Good (round (lim T) li e H) fun x e' H'=>isNor x=true∧St (i + 1) s' e' H')
   (out:∀ i s r e H,i < n→St i s e H→f s i = .inl r→Good (round (lim T) li e H) fun x e' H'=>isNor x=false∧Rt r x e' H')
   (fin:∀ i s e H,n≤i→St i s e H→Good (round (lim T) li e H) fun x e' H'=>isNor x=false∧Fn s x e' H') :
   ∀ (k i:Nat) (s:S) (e:Env) (H:Heap),k=n - i→St i s e H→Ends T key e H (fun x e' H'=>match upto f k i s with | .inl r=>Rt r x e' H' | .inr s'=>Fn s' x e' H')
 | 0,i,s,e,H,hk,hs=>round_ends hl (fin i s e H (by omega) hs)
 | k + 1,i,s,e,H,hk,hs=>by
   simp only [upto]
   cases hf:f s i with
   | inl r=>exact round_ends hl (out _ _ _ _ _ (by omega) hs hf)
   | inr s'=>
     refine round_goes hl (go _ _ _ _ _ (by omega) hs hf) fun e' H' hs'=>?_
     exact loop_upto hl f n St Rt Fn go out fin k (i + 1) s' e' H' (by omega) hs'
theorem thru_find {α S:Type}(p:α→Bool)(s:S):∀ xs:List α,thru (R:=α) (fun (s:S) x=>bif p x then .inl x else .inr s) xs s=match xs.find? p with | some x=>.inl x | none=>.inr s
 | []=>rfl
 | x :: r=>by
   simp only [thru,List.find?]
   cases p x with
   | true=>rfl
   | false=>exact thru_find p s r
theorem thru_fold {α S R:Type}(g:S→α→S):∀ (xs:List α) (s:S),thru (R:=R) (fun s x=>.inr (g s x)) xs s = .inr (xs.foldl g s)
 | [],s=>rfl
 | x :: r,s=>thru_fold g r (g s x)
end Gs
namespace Gs
open Go
variable [GlobTab]
theorem loop_unfold {T:Tab}{k:Nat}{l:LI}(hl:T.lp k=some l)(e:Env)(H:Heap):(lim T).loop k e H=runL (lim T) k l e H:=by
 cases h:runL (lim T) k l e H with
 | some r=>exact loop_eq hl h
 | none=>
   cases hc:(lim T).loop k e H with
   | none=>rfl
   | some r=>
     obtain ⟨m,hm⟩:=lim_loop.1 hc
     cases m with
     | zero=>simp [rounds] at hm
     | succ m=>
       simp only [rounds,hl] at hm
       have ht:Tends (rounds T m) fun _=>lim T:=⟨fun g avs H r h=>Evt.of fun _=>lim_call.2 ⟨m,h⟩,fun k e H r h=>Evt.of fun _=>lim_loop.2 ⟨m,h⟩⟩
       obtain ⟨M,hM⟩:=runL_lim ht hm
       have:=hM M (Nat.le_refl _)
       rw [h] at this; cases this
theorem loop_find {T:Tab}{key:Nat}{li:LI}(hl:T.lp key=some li){α:Type}(xs:List α)(bad:α→Bool)(H:Heap)(St:Nat→Env→Prop)(R:α→X→Env→Prop)(E:X→Env→Prop)
   (step:∀ i x e,xs[i]?=some x→i < xs.length→St i e→Good (round (lim T) li e H) fun X e' H'=>H'=H∧match bad x with | false=>isNor X=true∧St (i + 1) e' | true=>isNor X=false∧R x X e')
   (fin:∀ e,St xs.length e→Good (round (lim T) li e H) fun X e' H'=>isNor X=false∧H'=H∧E X e') (e:Env) (h0:St 0 e) :
   Ends T key e H (fun X e' H'=>H'=H∧match xs.find? bad with | some x=>R x X e' | none=>E X e'):=by
 refine (loop_thru hl (S:=Unit) (R:=α) (fun s x=>bif bad x then .inl x else .inr s) xs (fun i _ e H'=>H'=H∧St i e) (fun x X e' H'=>H'=H∧R x X e') (fun _ X e' H'=>H'=H∧E X e') ?_ ?_ ?_ xs [] () e H rfl ⟨rfl,h0⟩).mono fun X e' H' h=>?_
 · rintro i x s s' e H' hi ⟨rfl,hs⟩ hf
   have hb:bad x=false:=by cases hb:bad x<;>simp_all
   have:=step i x e hi (List.getElem?_eq_some_iff.1 hi).1 hs
   simp only [hb] at this
   unfold Good at this ⊢
   split<;>simp_all
 · rintro i x s r e H' hi ⟨rfl,hs⟩ hf
   have hb:bad x=true:=by cases hb:bad x<;>simp_all
   have hr:r=x:=by simp [hb] at hf; exact hf.symm
   have:=step i x e hi (List.getElem?_eq_some_iff.1 hi).1 hs
   simp only [hb] at this
   unfold Good at this ⊢
   split<;>simp_all
 · rintro s e H' ⟨rfl,hs⟩
   have:=fin e hs
   unfold Good at this ⊢
   split<;>simp_all
 · rw [thru_find] at h
   cases hx:xs.find? bad with
   | some x=>rw [hx] at h; exact h
   | none=>rw [hx] at h; exact h
end Gs
namespace Gs
open Go
variable [GlobTab]
theorem loop_unfold_c {T:Tab}{k:Nat}{l:LI}(hl:T.lp k=some l)(p:Nat×D)(e:Env)(H:Heap):(lim T).loop k (p :: e) H=runL (lim T) k l (p :: e) H:=loop_unfold hl _ _
end Gs
namespace Gs
open Go
variable [GlobTab]
section
variable {O:Ora} {α:Type} {e:Env} {H:Heap} {k:X→Env→Heap→Option α}
theorem evk_skip:evk O .skip e H k=k .nor e H:=rfl
theorem evk_ret:evk O .ret e H k=k .ret e H:=rfl
theorem evk_exit {n:Nat} : evk O (.exit n) e H k=k (.ex n) e H:=rfl
theorem evk_reg {l:List Seg} : evk O (.reg l) e H k=(match evSegs O l e H with | some (e',H')=>k .nor e' H' | none=>none):=rfl
theorem evk_seq {a b:RC} : evk O (.seq a b) e H k=evk O a e H fun x e' H'=>match x with | .nor=>evk O b e' H' k | x=>k x e' H':=rfl
theorem evk_cond {c:Opd}{a b:RC} : evk O (.cond c a b) e H k=(match rho e c with | .bool p=>(bif p then evk O a e H k else evk O b e H k) | _=>none):=rfl
theorem evk_block {n:Nat}{c:RC} : evk O (.block n c) e H k=evk O c e H fun x e' H'=>match x with | .ex m=>(bif (m == n) then k .nor e' H' else k (.ex m) e' H') | x=>k x e' H':=rfl
theorem evk_loop {key:Nat} : evk O (.loop key) e H k=(match O.loop key e H with | some (x,e',H')=>k x e' H' | none=>none):=rfl
theorem evk_die:evk O .die e H k=none:=rfl
end
section
variable {n:Nat} {H:Heap}
theorem frz_ow {b:Nat} : frz (n + 1) (.ow b) H=(match hget H b with | some (.row nz esz xs _ dy)=>some (.fz nz esz xs,hset H b (.row nz esz xs xs.length dy)) | _=>none):=rfl
theorem frz_win {b o l:Nat} : frz (n + 1) (.win b o l) H=(match hget H b with
     | some (.row nz esz xs _ dy)=>(match decide (o + l≤xs.length) with
       | true=>some (.fz false esz (cut xs o l),hset H b (.row nz esz xs xs.length dy))
       | false=>none)
     | _=>none):=rfl
theorem frz_ptr {b o:Nat} : frz (n + 1) (.ptr b o) H=(match hget H b with
     | some (.box cs _)=>(match frzL n cs H with
       | some (cs',H')=>(match hget H' b with
         | some (.box _ _)=>some (.fp cs' o,hset H' b (.box cs' true))
         | _=>none)
       | none=>none)
     | _=>none):=rfl
theorem frz_agg {cs:List D} : frz (n + 1) (.agg cs) H=(match frzL n cs H with | some (cs',H')=>some (.agg cs',H') | none=>none):=rfl
theorem frz_tup {cs:List D} : frz (n + 1) (.tup cs) H=(match frzL n cs H with | some (cs',H')=>some (.tup cs',H') | none=>none):=rfl
theorem frz_fn {g:Nat}{cs:List D} : frz (n + 1) (.fn g cs) H=(match frzL n cs H with | some (cs',H')=>some (.fn g cs',H') | none=>none):=rfl
theorem frz_int {k:IntKind}{z:Int} : frz (n + 1) (.int k z) H=some (.int k z,H):=rfl
theorem frz_bool {z:Bool} : frz (n + 1) (.bool z) H=some (.bool z,H):=rfl
theorem frz_str {z:ByteArray} : frz (n + 1) (.str z) H=some (.str z,H):=rfl
theorem frz_fz {nz:Bool}{z:Nat}{xs:List D} : frz (n + 1) (.fz nz z xs) H=some (.fz nz z xs,H):=rfl
theorem frz_fp {cs:List D}{o:Nat} : frz (n + 1) (.fp cs o) H=some (.fp cs o,H):=rfl
theorem frz_nilp:frz (n + 1) .nilp H=some (.nilp,H):=rfl
theorem frz_mp {b:Nat} : frz (n + 1) (.mp b) H=(match hget H b with | some (.mapB cs _)=>some (.fm cs,hset H b (.mapB cs true)) | _=>none):=rfl
theorem frz_fm {cs:List D} : frz (n + 1) (.fm cs) H=some (.fm cs,H):=rfl
theorem frz_nilfn:frz (n + 1) .nilfn H=some (.nilfn,H):=rfl
theorem frzL_nil:frzL (n + 1) [] H=some ([],H):=rfl
theorem frzL_cons {d:D}{r:List D} : frzL (n + 1) (d :: r) H=(match frz n d H with
     | some (d',H')=>(match frzL n r H' with
       | some (r',H'')=>some (d' :: r',H'')
       | none=>none)
     | none=>none):=rfl
theorem deep_eq:deep=399 + 1:=rfl
end
end Gs
namespace Gs
open Go
variable [GlobTab]
theorem runL_first {O:Ora}{key:Nat}{l:LI}{e:Env}{H:Heap} : runL O key l e H=match some (atHead l.head e H) with
   | some (e0,H0)=>evk O l.body e0 H0 fun x e' H'=>match x with | .nor=>O.loop key e' H' | x=>some (x,e',H')
   | none=>none:=rfl
theorem round_first {O:Ora}{l:LI}{e:Env}{H:Heap} : round O l e H=match some (atHead l.head e H) with
   | some (e0,H0)=>evk O l.body e0 H0 fun x e' H'=>some (x,e',H')
   | none=>none:=rfl
theorem runF_first {O:Ora}{f:FI}{args:List D}{H:Heap} : runF O f args H=match some (start 0 args) with
   | some e0=>evk O f.body e0 H fun x e H'=>match x with
     | .ex _=>none
     | _=>(match resOf e H' f.res with
       | some v=>handBack (idsOf H) f.outs v H'
       | none=>none)
   | none=>none:=rfl
end Gs
namespace Gs
open Go
variable [GlobTab]
theorem any_find {α:Type}(p:α→Bool):∀ xs:List α,xs.any p=(xs.find? p).isSome
 | []=>rfl
 | x :: r=>by
   simp only [List.any_cons,List.find?]
   cases p x with
   | true=>rfl
   | false=>rw [Bool.false_or]; exact any_find p r
theorem loop_any {T:Tab}{key:Nat}{li:LI}(hl:T.lp key=some li){α:Type}(xs:List α)(bad:α→Bool)(H:Heap)(St:Nat→Env→Prop)(R:X→Env→Prop)(E:X→Env→Prop)
   (step:∀ i x e,xs[i]?=some x→i < xs.length→St i e→Good (round (lim T) li e H) fun X e' H'=>H'=H∧match bad x with | false=>isNor X=true∧St (i + 1) e' | true=>isNor X=false∧R X e')
   (fin:∀ e,St xs.length e→Good (round (lim T) li e H) fun X e' H'=>isNor X=false∧H'=H∧E X e') (e:Env) (h0:St 0 e) :
   Ends T key e H (fun X e' H'=>H'=H∧match xs.any bad with | true=>R X e' | false=>E X e'):=by
 refine (loop_find hl xs bad H St (fun _=>R) E step fin e h0).mono fun X e' H' h=>?_
 rw [any_find]
 cases hx:xs.find? bad with
 | some x=>rw [hx] at h; exact h
 | none=>rw [hx] at h; exact h
theorem loop_rng {T:Tab}{key:Nat}{li:LI}(hl:T.lp key=some li)(n:Nat)(bad:Nat→Bool)(H:Heap)(St:Nat→Env→Prop)(R:X→Env→Prop)(E:X→Env→Prop)
   (step:∀ i e,i < n→St i e→Good (round (lim T) li e H) fun X e' H'=>H'=H∧match bad i with | false=>isNor X=true∧St (i + 1) e' | true=>isNor X=false∧R X e')
   (fin:∀ e,St n e→Good (round (lim T) li e H) fun X e' H'=>isNor X=false∧H'=H∧E X e') (e:Env) (h0:St 0 e) :
   Ends T key e H (fun X e' H'=>H'=H∧match (List.range n).any bad with | true=>R X e' | false=>E X e'):=by
 refine loop_any hl (List.range n) bad H St R E (fun i x e hi hl hs=>?_) (fun e hs=>?_) e h0
 · have hlt:i < n:=by simpa using hl
   rw [List.getElem?_range hlt] at hi; injection hi with hi; subst hi
   exact step i e hlt hs
 · rw [List.length_range] at hs; exact fin e hs
end Gs
namespace Gs
open Go
variable [GlobTab]
def pickD (want p:Bool):D→D→D
 | .bool q,.bool r=>.bool (jn want p q r)
 | u,v=>bif jn want p true false then u else v
theorem scEnd_some (want p:Bool)(d:Nat)(res alt:Opd)(e1 e':Env):scEnd want false p d res alt e1 (some e')=some (set e1 d (pickD want p (rho e' res) (rho e1 alt))):=by
 have key:∀ u v:D,pickD want p u v=bif jn want p true false then u else v:=fun u v=>by
   unfold pickD
   split
   · cases want<;>cases p<;>rfl
   · rfl
 rw [key]
 unfold scEnd
 cases jn want p true false<;>rfl
theorem scEnd_none (want p:Bool)(d:Nat)(res alt:Opd)(e1:Env):scEnd want false p d res alt e1 none=match jn want p true false with | true=>none | false=>some (set e1 d (rho e1 alt)):=by
 unfold scEnd
 cases jn want p true false<;>rfl
end Gs
namespace Gs
open Go
variable [GlobTab]
theorem scEnd_off (d:Nat)(res alt:Opd)(e1:Env)(r:Option Env):scEnd true false false d res alt e1 r=some (set e1 d (rho e1 alt)):=rfl
theorem scEnd_off' (d:Nat)(res alt:Opd)(e1:Env)(r:Option Env):scEnd false false true d res alt e1 r=some (set e1 d (rho e1 alt)):=rfl
end Gs
namespace Gs
open Go
variable [GlobTab]
theorem Ends.at {T:Tab}{key:Nat}{e:Env}{H:Heap}{R:Option (X×Env×Heap)}{P:X→Env→Heap→Prop}(hR:(lim T).loop key e H=R)(h:Ends T key e H P):∃ X e' H',R=some (X,e',H')∧P X e' H':=by
 obtain ⟨X,e',H',h1,h2⟩:=h
 exact ⟨X,e',H',by rw [←hR,h1],h2⟩
theorem upto_any (bad:Nat→Bool):∀ (k i:Nat),upto (S:=Unit) (R:=Unit) (fun s i=>bif bad i then .inl () else .inr ()) k i ()=bif (List.range' i k).any bad then .inl () else .inr ()
 | 0,i=>rfl
 | k + 1,i=>by
   simp only [upto,List.range'_succ,List.any_cons]
   cases bad i with
   | true=>rfl
   | false=>exact upto_any bad k (i + 1)
theorem loop_fr {T:Tab}{key:Nat}{li:LI}(hl:T.lp key=some li)(a n:Nat)(bad:Nat→Bool)(H:Heap)(St:Nat→Env→Prop)(R:X→Env→Prop)(E:X→Env→Prop)
   (step:∀ i e,a≤i→i < n→St i e→Good (round (lim T) li e H) fun X e' H'=>H'=H∧match bad i with | false=>isNor X=true∧St (i + 1) e' | true=>isNor X=false∧R X e')
   (fin:∀ i e,n≤i→i=max a n→St i e→Good (round (lim T) li e H) fun X e' H'=>isNor X=false∧H'=H∧E X e') (e:Env) (h0:St a e) :
   Ends T key e H (fun X e' H'=>H'=H∧match (List.range' a (n - a)).any bad with | true=>R X e' | false=>E X e'):=by
 refine (loop_upto hl (S:=Unit) (R:=Unit) (fun s i=>bif bad i then .inl () else .inr ()) n (fun i _ e H'=>H'=H∧a≤i∧i≤max a n∧St i e) (fun _ X e' H'=>H'=H∧R X e') (fun _ X e' H'=>H'=H∧E X e') ?_ ?_ ?_ (n - a) a () e H rfl ⟨rfl,Nat.le_refl _,by omega,h0⟩).mono fun X e' H' h=>?_
 · rintro i s s' e H' hi ⟨rfl,ha,hm,hs⟩ hf
   have hb:bad i=false:=by cases hb:bad i<;>simp_all
   have:=step i e ha hi hs
   simp only [hb] at this
   unfold Good at this ⊢
   split<;>simp_all
   omega
 · rintro i s r e H' hi ⟨rfl,ha,hm,hs⟩ hf
   have hb:bad i=true:=by cases hb:bad i<;>simp_all
   have:=step i e ha hi hs
   simp only [hb] at this
   unfold Good at this ⊢
   split<;>simp_all
 · rintro i s e H' hi ⟨rfl,ha,hm,hs⟩
   have:=fin i e hi (by omega) hs
   unfold Good at this ⊢
   split<;>simp_all
 · rw [upto_any] at h
   cases hx:(List.range' a (n - a)).any bad with
   | true=>rw [hx] at h; exact h
   | false=>rw [hx] at h; exact h
theorem tmod_nat (a b:Nat):(a:Int).tmod (b:Int)=((a % b:Nat):Int):=(Int.ofNat_tmod a b).symm
end Gs
namespace Gs
open Go
variable [GlobTab]
theorem loop_anyH {T:Tab}{key:Nat}{li:LI}(hl:T.lp key=some li){α:Type}(xs:List α)(bad:α→Bool)(St:Nat→Env→Heap→Prop)(R:X→Env→Heap→Prop)(E:X→Env→Heap→Prop)
   (step:∀ i x e H,xs[i]?=some x→i < xs.length→St i e H→Good (round (lim T) li e H) fun X e' H'=>match bad x with | false=>isNor X=true∧St (i + 1) e' H' | true=>isNor X=false∧R X e' H')
   (fin:∀ e H,St xs.length e H→Good (round (lim T) li e H) fun X e' H'=>isNor X=false∧E X e' H') (e:Env) (H:Heap) (h0:St 0 e H) :
   Ends T key e H (fun X e' H'=>match xs.any bad with | true=>R X e' H' | false=>E X e' H'):=by
 refine (loop_thru hl (S:=Unit) (R:=Unit) (fun s x=>bif bad x then .inl () else .inr ()) xs (fun i _ e H'=>St i e H') (fun _ X e' H'=>R X e' H') (fun _ X e' H'=>E X e' H') ?_ ?_ ?_ xs [] () e H rfl h0).mono fun X e' H' h=>?_
 · rintro i x s s' e H' hi hs hf
   have hb:bad x=false:=by cases hb:bad x<;>simp_all
   have:=step i x e H' hi (List.getElem?_eq_some_iff.1 hi).1 hs
   simpa only [hb] using this
 · rintro i x s r e H' hi hs hf
   have hb:bad x=true:=by cases hb:bad x<;>simp_all
   have:=step i x e H' hi (List.getElem?_eq_some_iff.1 hi).1 hs
   simpa only [hb] using this
 · rintro s e H' hs
   exact fin e H' hs
 · have key:∀ l:List α,thru (S:=Unit) (R:=Unit) (fun s x=>bif bad x then .inl () else .inr ()) l ()=bif l.any bad then .inl () else .inr ():=by
     intro l
     induction l with
     | nil=>rfl
     | cons a r ih=>
       simp only [thru,List.any_cons]
       cases bad a with
       | true=>rfl
       | false=>exact ih
   rw [key] at h
   cases hx:xs.any bad with
   | true=>rw [hx] at h; exact h
   | false=>rw [hx] at h; exact h
theorem loop_fold {T:Tab}{key:Nat}{li:LI}(hl:T.lp key=some li){α S:Type}(xs:List α)(g:S→α→S)(St:Nat→S→Env→Heap→Prop)(E:S→X→Env→Heap→Prop)
   (step:∀ i x s e H,xs[i]?=some x→i < xs.length→St i s e H→Good (round (lim T) li e H) fun X e' H'=>isNor X=true∧St (i + 1) (g s x) e' H')
   (fin:∀ s e H,St xs.length s e H→Good (round (lim T) li e H) fun X e' H'=>isNor X=false∧E s X e' H') (s:S) (e:Env) (H:Heap) (h0:St 0 s e H) :
   Ends T key e H (fun X e' H'=>E (xs.foldl g s) X e' H'):=by
 refine (loop_thru hl (R:=Empty) (fun s x=>.inr (g s x)) xs St (fun _ _ _ _=>False) E ?_ ?_ fin xs [] s e H rfl h0).mono fun X e' H' h=>?_
 · rintro i x s s' e H' hi hs hf
   injection hf with hf; subst hf
   exact step i x s e H' hi (List.getElem?_eq_some_iff.1 hi).1 hs
 · rintro i x s r e H' hi hs hf; cases hf
 · rw [thru_fold] at h; exact h
theorem hget_hset_l (H:Heap)(b c:Nat)(x:Blk):hget (hset H b x) c=bif b == c then some x else hget H c:=by
 rw [hget_hset]
 by_cases h:b=c
 · subst h; simp
 · rw [if_neg h,nbeq h]; rfl
theorem bq_tt:(true == true)=true:=rfl
theorem bq_tf:(true == false)=false:=rfl
theorem bq_ft:(false == true)=false:=rfl
theorem bq_ff:(false == false)=true:=rfl
end Gs
set_option maxRecDepth 100000
namespace Gs
open Go
def eA:=And.intro (And.intro (And.intro (@Gs.evk_skip) (@Gs.evk_ret)) (And.intro (@Gs.evk_exit) (And.intro (@Gs.evk_reg) (@Gs.evk_seq)))) (And.intro (And.intro (@Gs.evk_cond) (And.intro (@Gs.evk_block) (@Gs.evk_loop))) (And.intro (@Gs.evk_die) (And.intro (@Gs.scEnd_off) (@Gs.scEnd_off'))))
def eB:=And.intro (And.intro (And.intro (And.intro (And.intro (And.intro (And.intro (And.intro (And.intro (And.intro (@Gs.runF_first) (And.intro (@Gs.round_first) (@if_true.{1}))) (And.intro (@if_false.{1}) (And.intro (@Gs.good_some) (@Gs.isNor.eq_1)))) (And.intro (And.intro (@Gs.isNor.eq_2) (And.intro (@Gs.runL_first) (@Gs.evSegs.eq_1))) (And.intro (And.intro (@Gs.evSegs.eq_2) (@Gs.evSegs.eq_3)) (And.intro (@Gs.evSegs.eq_4) (@Gs.evSegs.eq_5))))) (And.intro (And.intro (And.intro (And.intro (@Gs.evSegs.eq_6) (And.intro (@Gs.evSegs.eq_7) (And.intro (And.intro (@Gs.evOs.eq_1) (@Gs.evOs.eq_2)) (And.intro (And.intro (@Gs.wd.eq_1) (@Gs.wd.eq_2)) (And.intro (And.intro (@Gs.bq_tt) (@Gs.bq_tf)) (And.intro (@Gs.bq_ft) (@Gs.bq_ff))))))) (And.intro (@Gs.evIs.eq_1) (@Gs.evIs.eq_2))) (And.intro (@Gs.evI.eq_1) (And.intro (@Gs.evI.eq_2) (@Gs.evOp.eq_1)))) (And.intro (And.intro (@Gs.evOp.eq_2) (And.intro (@Gs.evOp.eq_3) (@Gs.evOp.eq_4))) (And.intro (And.intro (@Gs.evOp.eq_5) (@Gs.evOp.eq_6)) (And.intro (@Gs.evOp.eq_7) (@Gs.evOp.eq_8)))))) (And.intro (And.intro (And.intro (And.intro (@Gs.evOp.eq_9) (And.intro (@Gs.evOp.eq_10) (@Gs.evOp.eq_11))) (And.intro (@Gs.evOp.eq_12) (And.intro (@Gs.evOp.eq_13) (@Gs.evOp.eq_14)))) (And.intro (And.intro (@Gs.evOp.eq_15) (And.intro (@Gs.evOp.eq_16) (@Gs.evOp.eq_17))) (And.intro (And.intro (@Gs.evOp.eq_18) (@Gs.evOp.eq_19)) (And.intro (@Gs.evOp.eq_20) (@Gs.evOp.eq_21))))) (And.intro (And.intro (And.intro (@Gs.evOp.eq_22) (And.intro (@Gs.evOp.eq_23) (@Gs.evOp.eq_24))) (And.intro (And.intro (@Gs.evOp.eq_25) (@Gs.evOp.eq_26)) (And.intro (@Gs.evOp.eq_27) (@Gs.evOp.eq_28)))) (And.intro (And.intro (@Gs.evOp.eq_29) (And.intro (@Gs.evOp.eq_30) (@Gs.evOp.eq_31))) (And.intro (And.intro (@Gs.evOp.eq_32) (@Gs.evOp.eq_33)) (And.intro (@Gs.evOp.eq_34) (@Gs.evOp.eq_35))))))) (And.intro (And.intro (And.intro (And.intro (And.intro (@Gs.evOp.eq_36) (And.intro (@Gs.evOp.eq_37) (And.intro (@Gs.evOp.eq_38) (And.intro (And.intro (@Gs.evOp.eq_39) (@Gs.evOp.eq_40)) (And.intro (@Gs.evOp.eq_41) (@Gs.evOp.eq_42)))))) (And.intro (@Gs.evSts.eq_1) (And.intro (@Gs.evSts.eq_2) (@Gs.evP.eq_1)))) (And.intro (And.intro (@Gs.evP.eq_2) (And.intro (And.intro (And.intro (And.intro (@Gs.sideOk.eq_1) (@Gs.sideOk.eq_2)) (And.intro (@Gs.sideOk.eq_3) (@Gs.sideOk.eq_4))) (@Gs.chkP.eq_1)) (@Gs.chkP.eq_2))) (And.intro (And.intro (@Gs.nth.eq_1) (@Gs.nth.eq_2)) (And.intro (@Gs.nth.eq_3) (@Gs.ghost.eq_1))))) (And.intro (And.intro (And.intro (@Gs.ghost.eq_2) (And.intro (@Gs.ghost.eq_3) (@Gs.ghost.eq_4))) (And.intro (And.intro (And.intro (@Gs.ghost.eq_5) (@Gs.ghost.eq_6)) (@Gs.rho.eq_1)) (And.intro (@Gs.rho.eq_2) (@Gs.rhos.eq_1)))) (And.intro (And.intro (@Gs.rhos.eq_2) (And.intro (@Gs.get.eq_1) (@Gs.get.eq_2))) (And.intro (And.intro (@Gs.set.eq_1) (@Gs.set.eq_2)) (And.intro (@Gs.get_setl) (@cond_true.{1})))))) (And.intro (And.intro (And.intro (And.intro (@cond_false.{1}) (And.intro (@Bool.and_true) (@Bool.true_and))) (And.intro (@Bool.and_false) (And.intro (@Bool.false_and) (@Bool.and_self)))) (And.intro (And.intro (@Bool.not_true) (And.intro (@Bool.not_false) (@Bool.true_or))) (And.intro (And.intro (@Bool.or_true) (@Bool.false_or)) (And.intro (@Bool.or_false) (@Bool.cond_false_right))))) (And.intro (And.intro (And.intro (@Bool.cond_true_left) (And.intro (@Bool.cond_false_left) (@Bool.cond_true_right))) (And.intro (And.intro (@Bool.cond_not.{1}) (@Bool.false_eq_true)) (And.intro (@Gs.ineg.eq_1) (@Int.cast_ofNat_Int)))) (And.intro (And.intro (@Gs.wrap_in) (And.intro (@List.append_nil.{0}) (@List.nil_append.{0}))) (And.intro (And.intro (@List.cons_append.{0}) (@List.length_cons.{0})) (And.intro (@List.length_nil.{0}) (@Gs.hget.eq_1)))))))) (And.intro (And.intro (And.intro (And.intro (And.intro (And.intro (@Gs.hget.eq_2) (And.intro (@Gs.hset.eq_1) (@Gs.hset.eq_2))) (And.intro (@Gs.hget_hset_l) (And.intro (@Gs.noMem.eq_1) (@Gs.noMem.eq_2)))) (And.intro (And.intro (@Gs.idsOf.eq_1) (And.intro (@Gs.idsOf.eq_2) (@Gs.mem.eq_1))) (And.intro (And.intro (@Gs.mem.eq_2) (@Gs.smallL.eq_1)) (And.intro (@Gs.smallL.eq_2) (@decide_true))))) (And.intro (And.intro (And.intro (@decide_false) (And.intro (@Gs.start.eq_1) (@Gs.start.eq_2))) (And.intro (@Gs.resOf.eq_1) (And.intro (@Gs.rvD.eq_1) (@Gs.rvD.eq_2)))) (And.intro (And.intro (@Gs.rvDs.eq_1) (And.intro (@Gs.rvDs.eq_2) (@Gs.handBack.eq_1))) (And.intro (And.intro (@Gs.distinct.eq_1) (@Gs.distinct.eq_2)) (And.intro (@Gs.dom.eq_1) (@Gs.dom.eq_2)))))) (And.intro (And.intro (And.intro (And.intro (@Gs.ran.eq_1) (And.intro (@Gs.ran.eq_2) (@Gs.joinM.eq_1))) (And.intro (@Gs.joinM.eq_2) (And.intro (@Gs.same.eq_1) (@Gs.same.eq_2)))) (And.intro (And.intro (@Gs.names.eq_1) (And.intro (@Gs.names.eq_2) (@Gs.back.eq_1))) (And.intro (And.intro (@Gs.back.eq_2) (@Gs.parId.eq_1)) (And.intro (@Gs.resId.eq_1) (@Gs.renD.eq_1))))) (And.intro (And.intro (And.intro (@Gs.renD.eq_2) (And.intro (@Gs.renD.eq_3) (@Gs.renD.eq_4))) (And.intro (And.intro (@Gs.renD.eq_5) (@Gs.renD.eq_6)) (And.intro (@Gs.renD.eq_7) (And.intro (@Gs.renD.eq_8) (@Gs.renD.eq_9))))) (And.intro (And.intro (@Gs.renL.eq_1) (And.intro (@Gs.renL.eq_2) (@Gs.ren1.eq_1))) (And.intro (And.intro (@Gs.ren1.eq_2) (@Gs.renB.eq_1)) (And.intro (@Gs.renB.eq_2) (And.intro (@Gs.renB.eq_3) (@Gs.renB.eq_4)))))))) (And.intro (And.intro (And.intro (And.intro (And.intro (@Gs.pickH.eq_1) (And.intro (@Gs.pickH.eq_2) (@Gs.keepE.eq_1))) (And.intro (@Gs.keepE.eq_2) (And.intro (@Gs.atHead.eq_1) (@Gs.asVar.eq_1)))) (And.intro (And.intro (@Gs.asVar.eq_2) (And.intro (@Gs.ldD.eq_1) (@Gs.ldD.eq_2))) (And.intro (And.intro (@Gs.ldD.eq_3) (@Gs.ldD.eq_4)) (And.intro (@Gs.stD.eq_1) (@Gs.stD.eq_2))))) (And.intro (And.intro (And.intro (@Gs.stD.eq_3) (And.intro (@Gs.lenOf.eq_1) (@Gs.lenOf.eq_2))) (And.intro (And.intro (@Gs.lenOf.eq_3) (@Gs.lenD.eq_1)) (And.intro (@Gs.lenD.eq_2) (@Gs.lenD.eq_3)))) (And.intro (And.intro (@Gs.lenD.eq_4) (And.intro (@Gs.ordBin.eq_1) (@Gs.ordBin.eq_2))) (And.intro (And.intro (@Gs.ordBin.eq_3) (@Gs.ordBin.eq_4)) (And.intro (@Gs.ordBin.eq_5) (@Gs.kEq.eq_1)))))) (And.intro (And.intro (And.intro (And.intro (@Gs.kEq.eq_2) (And.intro (@Gs.kEq.eq_3) (@Gs.kEq.eq_4))) (And.intro (@Gs.kEq.eq_5) (And.intro (@Gs.kEq.eq_6) (@Gs.kEq.eq_7)))) (And.intro (And.intro (@Gs.kEq.eq_8) (And.intro (@Gs.kEq.eq_9) (@Gs.intBin.eq_1))) (And.intro (And.intro (@Gs.intBin.eq_2) (@Gs.intBin.eq_3)) (And.intro (@Gs.intBin.eq_4) (@Gs.intBin.eq_5))))) (And.intro (And.intro (And.intro (@Gs.intBin.eq_6) (And.intro (@Gs.intBin.eq_7) (@Gs.intBin.eq_8))) (And.intro (And.intro (@Gs.intBin.eq_9) (@Gs.intBin.eq_10)) (And.intro (@Gs.intBin.eq_11) (@Gs.intBin.eq_12)))) (And.intro (And.intro (@Gs.strBin.eq_1) (And.intro (@Gs.strBin.eq_2) (@Gs.strBin.eq_3))) (And.intro (And.intro (@Gs.strBin.eq_4) (@Gs.strBin.eq_5)) (And.intro (@Gs.strBin.eq_6) (@Gs.strBin.eq_7))))))))) (And.intro (And.intro (And.intro (And.intro (And.intro (And.intro (And.intro (@Gs.strBin.eq_8) (And.intro (@Gs.cell.eq_1) (@Gs.cell.eq_2))) (And.intro (@Gs.cell.eq_3) (And.intro (@Gs.part.eq_1) (@Gs.part.eq_2)))) (And.intro (And.intro (@Gs.part.eq_3) (And.intro (@Gs.take.eq_1) (@Gs.take.eq_2))) (And.intro (And.intro (@Gs.take.eq_3) (@Gs.over.eq_1)) (And.intro (@Gs.over.eq_2) (@Gs.over.eq_3))))) (And.intro (And.intro (And.intro (@Gs.putAt.eq_1) (And.intro (@Gs.putAt.eq_2) (@Gs.putAt.eq_3))) (And.intro (@Gs.clen.eq_1) (And.intro (@Gs.clen.eq_2) (@Gs.cellsOf.eq_1)))) (And.intro (And.intro (@Gs.cellsOf.eq_2) (And.intro (@Gs.closed.eq_1) (@Gs.closed.eq_2))) (And.intro (And.intro (@Gs.closed.eq_3) (@Gs.closed.eq_4)) (And.intro (@Gs.closed.eq_5) (@Gs.closed.eq_6)))))) (And.intro (And.intro (And.intro (And.intro (@Gs.closed.eq_7) (And.intro (@Gs.closed.eq_8) (And.intro (@Gs.closed.eq_9) (@Gs.closed.eq_10)))) (And.intro (@Gs.closedL.eq_1) (And.intro (@Gs.closedL.eq_2) (@Gs.solid.eq_1)))) (And.intro (And.intro (@Gs.solid.eq_2) (And.intro (@Gs.solid.eq_3) (@Gs.solid.eq_4))) (And.intro (And.intro (@Gs.solidL.eq_1) (@Gs.solidL.eq_2)) (And.intro (@Gs.solidAll.eq_1) (@Gs.solidAll.eq_2))))) (And.intro (And.intro (And.intro (@Gs.known.eq_1) (And.intro (@Gs.known.eq_2) (@Gs.known.eq_3))) (And.intro (And.intro (@Gs.allEsz.eq_1) (@Gs.allEsz.eq_2)) (And.intro (@Gs.elems.eq_1) (@Gs.elems.eq_2)))) (And.intro (And.intro (@Gs.elems.eq_3) (And.intro (@Gs.elems.eq_4) (@Gs.appOp.eq_1))) (And.intro (And.intro (@Gs.killD.eq_1) (@Gs.killD.eq_2)) (And.intro (@Gs.killD.eq_3) (@Gs.killD.eq_4))))))) (And.intro (And.intro (And.intro (And.intro (And.intro (@Gs.killD.eq_5) (And.intro (@Gs.killD.eq_6) (@Gs.killD.eq_7))) (And.intro (And.intro (@Gs.killD.eq_8) (@Gs.killD.eq_9)) (And.intro (@Gs.killL.eq_1) (@Gs.killL.eq_2)))) (And.intro (And.intro (@Gs.killE.eq_1) (And.intro (@Gs.killE.eq_2) (@Gs.killB.eq_1))) (And.intro (And.intro (@Gs.killB.eq_2) (@Gs.killH.eq_1)) (And.intro (@Gs.killH.eq_2) (@Gs.without.eq_1))))) (And.intro (And.intro (And.intro (@Gs.without.eq_2) (And.intro (@Gs.catH.eq_1) (@Gs.catH.eq_2))) (And.intro (And.intro (@Gs.catL.eq_1) (@Gs.catL.eq_2)) (And.intro (@Gs.turned.eq_1) (@Gs.turned.eq_2)))) (And.intro (And.intro (@Gs.wasDirty.eq_1) (And.intro (@Gs.markBack.eq_1) (@Gs.callOp.eq_1))) (And.intro (And.intro (@Gs.callOp.eq_2) (@Gs.frz_ow)) (And.intro (@Gs.frz_win) (@Gs.frz_ptr)))))) (And.intro (And.intro (And.intro (And.intro (@Gs.frz_agg) (And.intro (@Gs.frz_tup) (@Gs.frz_fn))) (And.intro (@Gs.frz_int) (And.intro (@Gs.frz_bool) (@Gs.frz_str)))) (And.intro (And.intro (@Gs.frz_fz) (And.intro (@Gs.frz_fp) (@Gs.frz_nilp))) (And.intro (And.intro (@Gs.frz_nilfn) (@Gs.frzL_nil)) (And.intro (@Gs.frzL_cons) (@Gs.deep_eq))))) (And.intro (And.intro (And.intro (@Gs.parts.eq_1) (And.intro (@Gs.parts.eq_2) (@Gs.isNil.eq_1))) (And.intro (And.intro (@Gs.isNil.eq_2) (@Gs.isNil.eq_3)) (And.intro (@Gs.isNil.eq_4) (@Gs.isNil.eq_5)))) (And.intro (And.intro (@Gs.isNil.eq_6) (And.intro (@Gs.isNil.eq_7) (@Gs.agLike.eq_1))) (And.intro (And.intro (@Gs.agLike.eq_2) (@Gs.agLike.eq_3)) (And.intro (@Gs.dsts.eq_1) (@Gs.dsts.eq_2)))))))) (And.intro (And.intro (And.intro (And.intro (And.intro (And.intro (@Gs.dstsI.eq_1) (And.intro (@Gs.dstsI.eq_2) (@Gs.wipe.eq_1))) (And.intro (@Gs.wipe.eq_2) (And.intro (@Gs.scEnd_off) (@Gs.scEnd_off')))) (And.intro (And.intro (@Gs.scEnd_some) (And.intro (@Gs.scEnd_none) (@Gs.pickD.eq_1))) (And.intro (And.intro (@Gs.pickD.eq_2) (@Gs.jn.eq_1)) (And.intro (@Gs.jn.eq_2) (@Gs.lowOf.eq_1))))) (And.intro (And.intro (And.intro (@Gs.lowOf.eq_2) (And.intro (@Gs.highOf.eq_1) (@Gs.highOf.eq_2))) (And.intro (And.intro (@Gs.slcD.eq_1) (@Gs.slcD.eq_2)) (And.intro (@Gs.slcD.eq_3) (@Gs.slcD.eq_4)))) (And.intro (And.intro (@Gs.slcD.eq_5) (And.intro (@Gs.slcD.eq_6) (@Gs.iadD.eq_1))) (And.intro (And.intro (@Gs.iadD.eq_2) (@Gs.iadD.eq_3)) (And.intro (@Gs.iadD.eq_4) (@Gs.eqK.eq_1)))))) (And.intro (And.intro (And.intro (And.intro (@Gs.eqK.eq_2) (And.intro (@Gs.eqK.eq_3) (@Gs.eqK.eq_4))) (And.intro (@Gs.eqK.eq_5) (And.intro (@Gs.eqK.eq_6) (@Gs.eqK.eq_7)))) (And.intro (And.intro (@Gs.eqK.eq_8) (And.intro (@Gs.eqK.eq_9) (@Gs.maxL.eq_1))) (And.intro (And.intro (@Gs.maxL.eq_2) (@Gs.maxL.eq_3)) (And.intro (@Gs.minL.eq_1) (@Gs.minL.eq_2))))) (And.intro (And.intro (And.intro (@Gs.minL.eq_3) (And.intro (@Gs.wr.eq_1) (@Gs.wr.eq_2))) (And.intro (And.intro (@Gs.wr.eq_3) (@Gs.wr.eq_4)) (And.intro (@Gs.wr.eq_5) (@Gs.wr.eq_6)))) (And.intro (And.intro (@Gs.wr.eq_7) (And.intro (@Gs.wr.eq_8) (@Gs.wr.eq_9))) (And.intro (And.intro (@Gs.wr.eq_10) (And.intro (@Gs.wr.eq_11) (And.intro (@Gs.wr.eq_12) (And.intro (@Gs.wr.eq_13) (And.intro (And.intro (And.intro (And.intro (@Gs.frz_mp) (@Gs.frz_fm)) (And.intro (@Gs.kindOk.eq_1) (And.intro (@Gs.kindOk.eq_2) (@Gs.kindOk.eq_3)))) (And.intro (And.intro (@Gs.kindOk.eq_4) (@Gs.optInt.eq_1)) (And.intro (@Gs.optInt.eq_2) (And.intro (@Gs.mapOf.eq_1) (@Gs.mapOf.eq_2))))) (And.intro (And.intro (And.intro (@Gs.mapOf.eq_3) (@Gs.keyEq.eq_1)) (And.intro (@Gs.keyEq.eq_2) (And.intro (@Gs.keyEq.eq_3) (@Gs.keyEq.eq_4)))) (And.intro (And.intro (@Gs.mfind.eq_1) (And.intro (@Gs.mfind.eq_2) (@Gs.mfind.eq_3))) (And.intro (@Gs.mput.eq_1) (And.intro (@Gs.mput.eq_2) (@Gs.mput.eq_3)))))))))) (And.intro (@Gs.opds.eq_1) (@Gs.opds.eq_2))))))) (And.intro (And.intro (And.intro (And.intro (And.intro (@Gs.opds.eq_3) (And.intro (@Gs.opds.eq_4) (@Gs.opds.eq_5))) (And.intro (@Gs.opds.eq_6) (And.intro (@Gs.opds.eq_7) (@Gs.opds.eq_8)))) (And.intro (And.intro (@Gs.opds.eq_9) (And.intro (@Gs.opds.eq_10) (@Gs.opds.eq_11))) (And.intro (And.intro (@Gs.opds.eq_12) (@Gs.opds.eq_13)) (And.intro (@Gs.opds.eq_14) (@Gs.opds.eq_15))))) (And.intro (And.intro (And.intro (@Gs.opds.eq_16) (And.intro (@Gs.opds.eq_17) (@Gs.opds.eq_18))) (And.intro (And.intro (@Gs.opds.eq_19) (@Gs.opds.eq_20)) (And.intro (@Gs.opds.eq_21) (@Gs.opds.eq_22)))) (And.intro (And.intro (@Gs.opds.eq_23) (And.intro (@Gs.opds.eq_24) (@Gs.opds.eq_25))) (And.intro (And.intro (@Gs.opds.eq_26) (@Gs.opds.eq_27)) (And.intro (@Gs.opds.eq_28) (@Gs.opds.eq_29)))))) (And.intro (And.intro (And.intro (And.intro (@Gs.opds.eq_30) (And.intro (@Gs.opds.eq_31) (@Gs.opds.eq_32))) (And.intro (@Gs.opds.eq_33) (And.intro (@Gs.opds.eq_34) (@Gs.opds.eq_35)))) (And.intro (And.intro (@Gs.opds.eq_36) (And.intro (@Gs.opds.eq_37) (And.intro (@Gs.opds.eq_38) (And.intro (And.intro (@Gs.opds.eq_39) (@Gs.opds.eq_40)) (And.intro (@Gs.opds.eq_41) (@Gs.opds.eq_42)))))) (And.intro (And.intro (@Gs.optX.eq_1) (@Gs.optX.eq_2)) (And.intro (@Gs.sound.eq_1) (@Gs.sound.eq_2))))) (And.intro (And.intro (And.intro (@Gs.sound.eq_3) (And.intro (@Gs.sound.eq_4) (@Gs.sound.eq_5))) (And.intro (And.intro (@Gs.sound.eq_6) (@Gs.sound.eq_7)) (And.intro (@Gs.sound.eq_8) (And.intro (@Gs.sound.eq_9) (@Gs.sound.eq_10))))) (And.intro (And.intro (@Gs.soundL.eq_1) (And.intro (@Gs.soundL.eq_2) (@Gs.inb_ofNat))) (And.intro (And.intro (@Gs.inc_ofNat) (@Int.toNat_natCast)) (And.intro (@Int.ofNat_lt) (@List.length_map.{0,0})))))))))) (And.intro (@evOp.eq_43) (And.intro (@mdel.eq_1) (And.intro (@mdel.eq_2) (And.intro (@mdel.eq_3) (And.intro (@wr.eq_14) (@opds.eq_43))))))) (And.intro (@evOp.eq_44) (And.intro (@wr.eq_15) (And.intro (@opds.eq_44) (And.intro (@bzCall.eq_1) (And.intro (@plainR.eq_1) (And.intro (@plainR.eq_2) (And.intro (@plainR.eq_3) (And.intro (@plainR.eq_4) (And.intro (@plainL.eq_1) (And.intro (@plainL.eq_2) (And.intro (@plainL.eq_3) (And.intro (@plainL.eq_4) (And.intro (@evOp.eq_45) (And.intro (@opds.eq_45) (And.intro (@namedIn.eq_1) (And.intro (@namedIn.eq_2) (And.intro (@allRow.eq_1) (@allRow.eq_2))))))))))))))))))
end Gs
namespace Gs
open Go
def strs:List D→Option (List ByteArray)
 | []=>some []
 | .str s :: r=>(match strs r with | some l=>some (s :: l) | none=>none)
 | _ :: _=>none
theorem strs_map:∀ l:List ByteArray,strs (l.map .str)=some l
 | []=>rfl
 | s :: r=>by simp only [List.map_cons,strs,strs_map r]
theorem strs_eq:∀ {xs:List D} {l:List ByteArray},strs xs=some l→xs=l.map .str
 | [],l,h=>by simp only [strs,Option.some.injEq] at h; subst h; rfl
 | d :: r,l,h=>by
   cases d<;>simp only [strs] at h<;>try (cases h; done)
   split at h<;>try (cases h; done)
   rename_i l' hl
   injection h with h; subst h
   rw [List.map_cons,←strs_eq hl]
def insB (x:ByteArray):List ByteArray→List ByteArray
 | []=>[x]
 | y :: r=>bif slt y x then y :: insB x r else x :: y :: r
def sortB:List ByteArray→List ByteArray
 | []=>[]
 | x :: r=>insB x (sortB r)
def sortStrX:List D→Heap→Option (D×Heap)
 | [.ow b],H=>(match hget H b with
   | some (.row nz 1 xs 0 false)=>(match strs xs with
     | some l=>(match decide (l.length < 4611686018427387904) with
       | true=>some (.tup [],hset H b (.row nz 1 ((sortB l).map .str) 0 false))
       | false=>none)
     | none=>none)
   | _=>none)
 | [.fz true _ []],H=>some (.tup [],H)
 | _,_=>none
def nums:List D→Option (List Int)
 | []=>some []
 | .int .i64 n :: r=>(match nums r with | some l=>some (n :: l) | none=>none)
 | _ :: _=>none
theorem nums_map:∀ l:List Int,nums (l.map (.int .i64))=some l
 | []=>rfl
 | s :: r=>by simp only [List.map_cons,nums,nums_map r]
theorem nums_eq:∀ {xs:List D} {l:List Int},nums xs=some l→xs=l.map (.int .i64)
 | [],l,h=>by simp only [nums,Option.some.injEq] at h; subst h; rfl
 | d :: r,l,h=>by
   unfold nums at h
   split at h<;>try (cases h; done)
   · rename_i heq; cases heq
   · rename_i n r' heq
     injection heq with h1 h2; subst h1; subst h2
     split at h<;>try (cases h; done)
     rename_i l' hl
     injection h with h; subst h
     rw [List.map_cons,←nums_eq hl]
def insN (x:Int):List Int→List Int
 | []=>[x]
 | y :: r=>bif decide (y < x) then y :: insN x r else x :: y :: r
def sortN:List Int→List Int
 | []=>[]
 | x :: r=>insN x (sortN r)
def sortIntX:List D→Heap→Option (D×Heap)
 | [.ow b],H=>(match hget H b with
   | some (.row nz 1 xs 0 false)=>(match nums xs with
     | some l=>(match decide (l.length < 4611686018427387904) with
       | true=>some (.tup [],hset H b (.row nz 1 ((sortN l).map (.int .i64)) 0 false))
       | false=>none)
     | none=>none)
   | _=>none)
 | [.fz true _ []],H=>some (.tup [],H)
 | _,_=>none
abbrev Six:=Int×Int×Int×Int×Int×Int
def sixD (x:Six):D:=.agg [.int .i64 x.1,.int .i64 x.2.1,.int .i64 x.2.2.1,.int .i64 x.2.2.2.1,.int .i64 x.2.2.2.2.1,.int .i64 x.2.2.2.2.2]
def sixs:List D→Option (List Six)
 | []=>some []
 | .agg [.int .i64 a,.int .i64 b,.int .i64 c,.int .i64 d,.int .i64 e,.int .i64 f] :: r=>(match sixs r with | some l=>some ((a,b,c,d,e,f) :: l) | none=>none)
 | _ :: _=>none
theorem sixs_eq:∀ {xs:List D} {l:List Six},sixs xs=some l→xs=l.map sixD
 | [],l,h=>by simp only [sixs,Option.some.injEq] at h; subst h; rfl
 | d :: r,l,h=>by
   unfold sixs at h
   split at h<;>try (cases h; done)
   · rename_i heq; cases heq
   · rename_i a b c d e f r' heq
     injection heq with h1 h2; subst h1; subst h2
     split at h<;>try (cases h; done)
     rename_i l' hl
     injection h with h; subst h
     rw [List.map_cons,←sixs_eq hl]
     rfl
def ltBx (x y:Six):Bool:=if x.2.2.1=y.2.2.1 then (if x.2.1=y.2.1 then decide (x.1 < y.1) else decide (x.2.1 < y.2.1)) else decide (x.2.2.1 < y.2.2.1)
def sortBx (l:List Six):List Six:=(Sort.pdq ltBx l.toArray 0 l.length (Lib.bitLen l.length) true true).toList
def sortBoxX (cmp:Nat):List D→Heap→Option (D×Heap)
 | [.ow b,.fn g []],H=>(match g == cmp,hget H b with
   | true,some (.row nz 6 xs 0 false)=>(match sixs xs with
     | some l=>(match decide (l.length < 4611686018427387904) with
       | true=>some (.tup [],hset H b (.row nz 6 ((sortBx l).map sixD) 0 false))
       | false=>none)
     | none=>none)
   | _,_=>none)
 | [.fz true _ [],.fn g []],H=>(match g == cmp with
   | true=>some (.tup [],H)
   | false=>none)
 | _,_=>none
end Gs
namespace Gs
open Go
theorem toList_inj {a b:ByteArray}(h:a.toList=b.toList):a=b:=by
 rw [Go.ByteArray.toList_eq,Go.ByteArray.toList_eq] at h
 exact ByteArray.ext (Array.ext' h)
theorem seq_iff {a b:ByteArray} : seq a b=true↔a=b:=by
 simp only [seq,beq_iff_eq]
 exact ⟨toList_inj,fun h=>by rw [h]⟩
theorem seq_false {a b:ByteArray} : seq a b=false↔a≠b:=by
 rw [←Bool.not_eq_true,Ne,seq_iff]
theorem slt_iff {a b:ByteArray} : slt a b=true↔a.toList < b.toList:=by
 simp only [slt,Go.Proofs.bytesLess_eq,decide_eq_true_eq]
theorem slt_irrefl (a:ByteArray):slt a a=false:=by
 cases h:slt a a with
 | false=>rfl
 | true=>exact absurd (slt_iff.1 h) (List.lt_irrefl _)
theorem slt_trans {a b c:ByteArray}(h:slt a b=true)(h':slt b c=true):slt a c=true:=
 slt_iff.2 (List.lt_trans (slt_iff.1 h) (slt_iff.1 h'))
theorem slt_asymm {a b:ByteArray}(h:slt a b=true):slt b a=false:=by
 cases h':slt b a with
 | false=>rfl
 | true=>have:=slt_trans h h'; rw [slt_irrefl] at this; cases this
theorem slt_total {a b:ByteArray}(h:slt a b=false)(h':slt b a=false):a=b:=by
 have h1:¬ a.toList < b.toList:=fun e=>by rw [slt_iff.2 e] at h; cases h
 have h2:¬ b.toList < a.toList:=fun e=>by rw [slt_iff.2 e] at h'; cases h'
 exact toList_inj (List.le_antisymm (List.not_lt.1 h2) (List.not_lt.1 h1))
def SortedB:List ByteArray→Prop:=List.Pairwise fun a b=>slt b a=false
theorem insB_perm (x:ByteArray):∀ l,(insB x l).Perm (x :: l)
 | []=>.refl _
 | y :: r=>by
   simp only [insB]
   cases slt y x with
   | true=>exact ((insB_perm x r).cons y).trans (List.Perm.swap x y r)
   | false=>exact .refl _
theorem sortB_perm:∀ l,(sortB l).Perm l
 | []=>.refl _
 | x :: r=>(insB_perm x _).trans ((sortB_perm r).cons x)
theorem insB_sorted {x:ByteArray} : ∀ {l},SortedB l→SortedB (insB x l)
 | [],_=>List.pairwise_singleton _ _
 | y :: r,h=>by
   have hy:=List.pairwise_cons.1 h
   simp only [insB]
   cases hs:slt y x with
   | true=>
     refine List.pairwise_cons.2 ⟨fun z hz=>?_,insB_sorted hy.2⟩
     rcases List.mem_cons.1 ((insB_perm x r).mem_iff.1 hz) with rfl | hz
     · exact slt_asymm hs
     · exact hy.1 z hz
   | false=>
     refine List.pairwise_cons.2 ⟨fun z hz=>?_,h⟩
     rcases List.mem_cons.1 hz with rfl | hz
     · exact hs
     · cases hzx:slt z x with
       | false=>rfl
       | true=>
         cases hxy:slt x y with
         | true=>have:=slt_trans hzx hxy; rw [hy.1 z hz] at this; cases this
         | false=>rw [←slt_total hxy hs] at hy; rw [hy.1 z hz] at hzx; cases hzx
theorem sortB_sorted:∀ l,SortedB (sortB l)
 | []=>List.Pairwise.nil
 | x :: r=>insB_sorted (sortB_sorted r)
theorem sortedB_unique:∀ {l m:List ByteArray},l.Perm m→SortedB l→SortedB m→l=m
 | [],m,h,_,_=>(List.nil_perm.1 h).symm
 | x :: r,[],h,_,_=>by have:=h.length_eq; simp at this
 | x :: r,y :: r',h,h1,h2=>by
   have hx:=List.pairwise_cons.1 h1
   have hy:=List.pairwise_cons.1 h2
   have hxy:x=y:=by
     have e1:x∈y :: r':=h.mem_iff.1 (by simp)
     have e2:y∈x :: r:=h.mem_iff.2 (by simp)
     rcases List.mem_cons.1 e1 with e | e1
     · exact e
     · rcases List.mem_cons.1 e2 with e | e2
       · exact e.symm
       · exact slt_total (hy.1 x e1) (hx.1 y e2)
   subst hxy
   rw [sortedB_unique (h.cons_inv) hx.2 hy.2]
end Gs
namespace Gs
open Go
def ptsD:List D→Option (List (Int×Int))
 | []=>some []
 | .agg [.int .i64 x,.int .i64 y] :: r=>(match ptsD r with
   | some l=>some ((x,y) :: l)
   | none=>none)
 | _=>none
theorem ptsD_map:∀ l:List (Int×Int),ptsD (l.map fun q=>.agg [.int .i64 q.1,.int .i64 q.2])=some l
 | []=>rfl
 | q :: r=>by simp only [List.map_cons,ptsD,ptsD_map r]
theorem ptsD_eq:∀ {xs:List D} {l:List (Int×Int)},ptsD xs=some l→xs=l.map fun q=>.agg [.int .i64 q.1,.int .i64 q.2]
 | [],l,h=>by simp only [ptsD,Option.some.injEq] at h; subst h; rfl
 | d :: r,l,h=>by
   unfold ptsD at h
   split at h
   · rename_i heq; cases heq
   · rename_i x y r' heq
     injection heq with h1 h2; subst h1; subst h2
     split at h<;>try (cases h; done)
     rename_i l' hl
     injection h with h; subst h
     rw [List.map_cons,←ptsD_eq hl]
   · cases h
def gdet (a b c:Int×Int):Int:=(b.1 - a.1) * (c.2 - a.2) - (b.2 - a.2) * (c.1 - a.1)
def gok (a:Int×Int):Bool:=decide (-1000000≤a.1) && decide (a.1≤1000000) && decide (-1000000≤a.2) && decide (a.2≤1000000)
def gat (l:List (Int×Int))(i:Nat):Int×Int:=(l[i]?).getD (0,0)
def gnx (l:List (Int×Int))(i:Nat):Nat:=(i + 1) % l.length
def gup (a b:Int×Int):Bool:=decide (a.2 < b.2) || (decide (b.2=a.2) && decide (a.1 < b.1))
def gbad (l:List (Int×Int))(i:Nat):Bool:=decide (gdet (gat l i) (gat l (gnx l i)) (gat l (gnx l (gnx l i)))≤0)
def gsw (l:List (Int×Int))(i:Nat):Bool:=!gup (gat l i) (gat l (gnx l i)) && gup (gat l (gnx l i)) (gat l (gnx l (gnx l i)))
def gconv (l:List (Int×Int)):Bool:=!(List.range l.length).any (gbad l) && decide (((List.range l.length).filter (gsw l)).length=1)
def gfit (l:List (Int×Int)):Bool:=decide (0 < l.length) && decide (l.length < 1000000) && l.all gok
def convexX:List D→Heap→Option (D×Heap)
 | [.fz _ 2 xs],H=>(match ptsD xs with
   | some l=>(match gfit l with
     | true=>some (.bool (gconv l),H)
     | false=>none)
   | none=>none)
 | _,_=>none
def gdiv (a b:Int×Int)(q:List (Int×Int)):Bool:=!q.any fun c=>decide (0 < gdet a b c)
def gedge (l q:List (Int×Int)):Int:=match (List.range l.length).find? fun i=>gdiv (gat l i) (gat l (gnx l i)) q with
  | some i=>(i:Int)
  | none=>-1
def edgeX:List D→Heap→Option (D×Heap)
 | [.fz _ 2 xs,.fz _ 2 ys],H=>(match ptsD xs,ptsD ys with
   | some l,some q=>(match gfit l && gfit q with
     | true=>some (.int .i64 (gedge l q),H)
     | false=>none)
   | _,_=>none)
 | _,_=>none
end Gs
namespace Gs
open Go
variable [GlobTab]
theorem killE_nil:∀ e:Env,killE [] e=e
 | []=>rfl
 | (k,d) :: r=>by simp only [killE,killD_nil d,killE_nil r]
section
variable {α:Type} (eq:α→α→Bool)
def ddF:α→List α→List α
 | _,[]=>[]
 | p,y :: r=>bif eq y p then ddF y r else y :: ddF y r
def dd:List α→List α
 | []=>[]
 | x :: r=>x :: ddF eq x r
theorem ddF_snoc (y:α):∀ (l:List α) (p:α),ddF eq p (l ++ [y])=ddF eq p l ++ (bif eq y (l.getLast?.getD p) then [] else [y])
 | [],p=>by
   have e:([]:List α).getLast?.getD p=p:=rfl
   rw [e]; simp only [List.nil_append,ddF]
 | x :: r,p=>by
   have e:(x :: r).getLast?.getD p=r.getLast?.getD x:=by
     cases r with
     | nil=>rfl
     | cons a r'=>rw [List.getLast?_cons_cons]; simp [List.getLast?_cons]
   simp only [List.cons_append,ddF,ddF_snoc y r x,e]
   cases eq x p<;>simp
theorem dd_take_succ {xs:List α}{i:Nat}{y p:α}(hi:xs[i + 1]?=some y)(hp:xs[i]?=some p):dd eq (xs.take (i + 2))=dd eq (xs.take (i + 1)) ++ (bif eq y p then [] else [y]):=by
 cases xs with
 | nil=>simp at hi
 | cons x r=>
   simp only [List.getElem?_cons_succ] at hi
   simp only [List.take_succ_cons,dd]
   have hlen:i < r.length:=(List.getElem?_eq_some_iff.1 hi).1
   rw [List.take_add_one,hi,Option.toList_some,ddF_snoc]
   have e:(r.take i).getLast?.getD x=p:=by
     cases i with
     | zero=>simpa using hp
     | succ j=>
       rw [List.getLast?_eq_getElem?]
       simp only [List.length_take]
       rw [List.getElem?_cons_succ] at hp
       rw [List.getElem?_take_of_lt (by omega),show min (j + 1) r.length - 1=j by omega,hp]; rfl
   rw [e]
   cases eq y p<;>simp
theorem dd_length_le:∀ (l:List α) (p:α),(ddF eq p l).length≤l.length
 | [],_=>Nat.le_refl _
 | x :: r,p=>by
   simp only [ddF]
   cases eq x p
   · simp only [cond_false,List.length_cons]; have:=dd_length_le r x; omega
   · simp only [cond_true,List.length_cons]; have:=dd_length_le r x; omega
end
end Gs
namespace Gs
open Go
variable [GlobTab]
mutual
def eqD:D→D→Bool
 | .bool a,.bool b=>a == b
 | .int k a,.int j b=>(match kEq k j with | true=>decide (a=b) | false=>false)
 | .str a,.str b=>seq a b
 | .agg a,.agg b=>eqDL a b
 | .tup a,.tup b=>eqDL a b
 | .fz p n a,.fz q m b=>(match p == q,n == m with | true,true=>eqDL a b | _,_=>false)
 | .fm a,.fm b=>eqDL a b
 | .fp a n,.fp b m=>(match n == m with | true=>eqDL a b | false=>false)
 | .nilp,.nilp=>true
 | .nilfn,.nilfn=>true
 | .fn g a,.fn h b=>(match g == h with | true=>eqDL a b | false=>false)
 | _,_=>false
def eqDL:List D→List D→Bool
 | [],[]=>true
 | a :: r,b :: s=>(match eqD a b with | true=>eqDL r s | false=>false)
 | _,_=>false
end
theorem kEq_same {k j:IntKind}(h:kEq k j=true):k=j:=by
 cases k<;>cases j<;>first | rfl | cases h
mutual
theorem eqD_same:∀ (a b:D),eqD a b=true→a=b
 | .bool a,b,h=>by cases b<;>simp [eqD] at h; rw [h]
 | .int k a,b,h=>by
   cases b<;>simp only [eqD,Bool.false_eq_true] at h
   split at h
   · rename_i hk; rw [kEq_same hk,of_decide_eq_true h]
   · cases h
 | .str a,b,h=>by cases b<;>simp only [eqD,Bool.false_eq_true] at h; rw [seq_iff.1 h]
 | .agg a,b,h=>by cases b<;>simp only [eqD,Bool.false_eq_true] at h; rw [eqDL_same _ _ h]
 | .tup a,b,h=>by cases b<;>simp only [eqD,Bool.false_eq_true] at h; rw [eqDL_same _ _ h]
 | .fz p n a,b,h=>by
   cases b<;>simp only [eqD,Bool.false_eq_true] at h
   split at h
   · rename_i h1 h2; rw [eqDL_same _ _ h,beq_iff_eq.1 h1,beq_iff_eq.1 h2]
   · cases h
 | .fm a,b,h=>by cases b<;>simp only [eqD,Bool.false_eq_true] at h; rw [eqDL_same _ _ h]
 | .fp a n,b,h=>by
   cases b<;>simp only [eqD,Bool.false_eq_true] at h
   split at h
   · rename_i h1; rw [eqDL_same _ _ h,beq_iff_eq.1 h1]
   · cases h
 | .nilp,b,h=>by cases b<;>first | rfl | simp [eqD] at h
 | .nilfn,b,h=>by cases b<;>first | rfl | simp [eqD] at h
 | .fn g a,b,h=>by
   cases b<;>simp only [eqD,Bool.false_eq_true] at h
   split at h
   · rename_i h1; rw [eqDL_same _ _ h,beq_iff_eq.1 h1]
   · cases h
 | .ow _,b,h=>by simp [eqD] at h
 | .win _ _ _,b,h=>by simp [eqD] at h
 | .ptr _ _,b,h=>by simp [eqD] at h
 | .ep _ _ _,b,h=>by simp [eqD] at h
 | .mp _,b,h=>by simp [eqD] at h
 | .dead,b,h=>by simp [eqD] at h
theorem eqDL_same:∀ (a b:List D),eqDL a b=true→a=b
 | [],b,h=>by cases b<;>first | rfl | simp [eqDL] at h
 | x :: r,b,h=>by
   cases b<;>simp only [eqDL,Bool.false_eq_true] at h
   split at h
   · rename_i h1; rw [eqD_same _ _ h1,eqDL_same _ _ h]
   · cases h
end
def fget:List (Nat×List D×D)→Nat→List D→Option D
 | [],_,_=>none
 | (h,av,r) :: l,g,args=>(match h == g with
   | true=>(match eqDL av args with | true=>some r | false=>fget l g args)
   | false=>fget l g args)
def Facts (T:Tab)(F:List (Nat×List D×D)):Prop:=∀ g av r,(g,av,r)∈F→(lim T).call g av []=some (r,[])
theorem fget_mem {F:List (Nat×List D×D)}{g:Nat}{args:List D}{r:D}(h:fget F g args=some r):(g,args,r)∈F:=by
 induction F with
 | nil=>simp [fget] at h
 | cons x l ih=>
   obtain ⟨k,av,s⟩:=x
   simp only [fget] at h
   split at h
   · rename_i h1
     split at h
     · rename_i h2
       injection h with h
       rw [←h,beq_iff_eq.1 h1,eqDL_same _ _ h2]; exact List.mem_cons_self ..
     · exact List.mem_cons_of_mem _ (ih h)
   · exact List.mem_cons_of_mem _ (ih h)
def roundsF (T:Tab)(F:List (Nat×List D×D)):Nat→Ora
 | 0=>⟨fun _ _ _=>none,fun _ _ _=>none⟩
 | n + 1 =>
   { call := fun g args H => match H with
       | []=>(match fget F g args with
         | some r=>some (r,[])
         | none=>(match T.ext g with
           | some s=>s args []
           | none=>match T.fn g with
             | some f=>runF (roundsF T F n) f args []
             | none=>none))
       | _ => (match T.ext g with
           | some s=>s args H
           | none=>match T.fn g with
             | some f=>runF (roundsF T F n) f args H
             | none=>none)
     loop:=fun key e H=>match T.lp key with
       | some l=>runL (roundsF T F n) key l e H
       | none=>none }
theorem roundsF_lim {T:Tab}{F:List (Nat×List D×D)}(hF:Facts T F):∀ m,(∀ g avs H r,(roundsF T F m).call g avs H=some r→(lim T).call g avs H=some r)∧(∀ k e H r,(roundsF T F m).loop k e H=some r→(lim T).loop k e H=some r)
 | 0=>⟨fun g avs H r h=>by simp [roundsF] at h,fun k e H r h=>by simp [roundsF] at h⟩
 | m + 1 => by
   obtain ⟨h1,h2⟩:=roundsF_lim hF m
   have ht:Tends (roundsF T F m) fun _=>lim T:=⟨fun g avs H r h=>Evt.of fun _=>h1 g avs H r h,fun k e H r h=>Evt.of fun _=>h2 k e H r h⟩
   have run:∀ {g:Nat} {avs:List D} {H:Heap} {r:D×Heap},(match T.ext g with
       | some s=>s avs H
       | none=>match T.fn g with
         | some f=>runF (roundsF T F m) f avs H
         | none=>none)=some r→(lim T).call g avs H=some r:=by
     intro g avs H r h
     split at h
     · rename_i s hs; exact ext_eq hs h
     · rename_i hx
       split at h<;>try (cases h; done)
       rename_i f hf
       obtain ⟨M,hM⟩:=runF_lim ht h
       exact call_eq hx hf (hM M (Nat.le_refl _))
   refine ⟨fun g avs H r h=>?_,fun k e H r h=>?_⟩
   · rw [roundsF] at h
     simp only at h
     split at h
     · split at h
       · rename_i s hs; injection h with h; rw [←h]; exact hF _ _ _ (fget_mem hs)
       · exact run h
     · exact run h
   · rw [roundsF] at h
     simp only at h
     split at h<;>try (cases h; done)
     rename_i l hl
     obtain ⟨M,hM⟩:=runL_lim ht h
     exact loop_eq hl (hM M (Nat.le_refl _))
theorem facts_nil (T:Tab):Facts T []:=fun _ _ _ h=>by cases h
theorem facts_cons {T:Tab}{F F':List (Nat×List D×D)}{g:Nat}{av:List D}{r:D}{n:Nat}(hF:Facts T F)(h:(roundsF T F n).call g av []=some (r,[]))(hF':Facts T F'):Facts T ((g,av,r) :: F'):=by
 intro g' av' r' hm
 cases hm with
 | head=>exact (roundsF_lim hF n).1 _ _ _ _ h
 | tail _ hm=>exact hF' _ _ _ hm
end Gs
