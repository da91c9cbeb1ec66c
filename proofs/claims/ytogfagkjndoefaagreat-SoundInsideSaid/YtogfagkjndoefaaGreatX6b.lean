/- Closed cells of the row; no conditions. -/
import Derived.Test.YtogfagkjndoefaaGreatX3toX31
import Derived.Test.YtogfagkjndoefaaGreatGsF
import Derived.Test.YtogfagkjndoefaaGreatX33toXBx
import Derived.ProofKit
import Derived.Test.YtogfagkjndoefaaGreatProg
set_option linter.all false
set_option maxRecDepth 100000
open Gs Go
namespace Tz
namespace B60
@[instance_reducible] def gt:GlobTab:=⟨fun _=>none,true⟩
attribute [local instance 10000] gt
def fn60:List (Nat×FI):=fns.filter fun p=>[60,61,97,98,151].contains p.1
def lp60:List (Nat×LI):=lps.filter fun p=>p.1 == 97003
def T:Tab:=⟨find fn60,find lp60,find []⟩
noncomputable abbrev L:Ora:=lim T
noncomputable def chk (p:Nat×FI):Bool:=match Go.Proofs.Tryz.prog.funcs[p.1]? with
  | some fn=>okFn Go.Proofs.Tryz.prog T fn p.2
  | none=>false
theorem all60:fn60.all chk=true:=by kernel_rfl
theorem mixed60:Go.Proofs.Tryz.prog.follows .mixedOrders=true:=by kernel_rfl
theorem find_in {α:Type} : ∀ {l:List (Nat×α)} {i:Nat} {x:α},find l i=some x→(i,x)∈l
 | [],_,_,h=>by cases h
 | (k,y) :: r,i,x,h=>by
   unfold find at h
   cases hk:k == i with
   | true=>rw [hk] at h; injection h with h; subst h; have:=eq_of_beq hk; subst this; exact List.mem_cons_self
   | false=>rw [hk] at h; exact List.mem_cons_of_mem _ (find_in h)
theorem tab60:TabOk Go.Proofs.Tryz.prog T where
 mixed:=mixed60
 ext:=by intro g s hs; cases hs
 fn:=by
   intro g f _ hf
   have hf':find fn60 g=some f:=hf
   have h:=List.all_eq_true.1 all60 (g,f) (find_in hf')
   unfold chk at h
   simp only at h
   split at h
   · rename_i fn hfn; exact ⟨fn,hfn,h⟩
   · cases h
theorem i30:inb 0 3=true:=rfl
theorem i31:inb 1 3=true:=rfl
theorem i32:inb 2 3=true:=rfl
abbrev int (n:Int):D:=.int .i64 n
theorem q_nan (a:Int):L.call 151 [int a] []=some (.bool false,[]):=call_eq rfl rfl (by simp only [↓eA,eB,seval,c151])
def cI (a b:Int):Int:=bif decide (a < b) then -1 else bif decide (b < a) then 1 else 0
theorem q_cmp (a b:Int):L.call 98 [int a,int b] []=some (int (cI a b),[]):=
 call_eq rfl rfl (by
   unfold cI
   cases h1:decide (a < b) with
   | true=>simp only [↓eA,eB,seval,c98,q_nan,h1]
   | false=>
   cases h2:decide (b < a) with
   | true=>simp only [↓eA,eB,seval,c98,q_nan,h1,h2]
   | false=>simp only [↓eA,eB,seval,c98,q_nan,h1,h2])
def oI (a b c:Int):Int:=bif !decide (a=0) then a else bif !decide (b=0) then b else bif !decide (c=0) then c else 0
theorem q_or (a b c:Int):L.call 97 [.fz false 1 [int a,int b,int c]] []=some (int (oI a b c),[]):=
 call_eq rfl rfl (by
   have q0:([int a,int b,int c]:List D)[0]?=some (int a):=rfl
   have q1:([int a,int b,int c]:List D)[1]?=some (int b):=rfl
   have q2:([int a,int b,int c]:List D)[2]?=some (int c):=rfl
   simp only [↓eA,eB,seval,c97]
   unfold oI
   rw [loop_unfold_c (T:=T) (k:=97003) rfl]
   simp only [↓eA,eB,seval,l97003,i30,q0]
   cases h0:decide (a=0) with
   | false=>simp only [↓eA,eB,seval,h0]
   | true=>
   simp only [↓eA,eB,seval,h0]
   rw [loop_unfold_c (T:=T) (k:=97003) rfl]
   simp only [↓eA,eB,seval,l97003,i31,q1]
   cases h1:decide (b=0) with
   | false=>simp only [↓eA,eB,seval,h1]
   | true=>
   simp only [↓eA,eB,seval,h1]
   rw [loop_unfold_c (T:=T) (k:=97003) rfl]
   simp only [↓eA,eB,seval,l97003,i32,q2]
   cases h2:decide (c=0) with
   | false=>simp only [↓eA,eB,seval,h2]
   | true=>
   simp only [↓eA,eB,seval,h2]
   rw [loop_unfold_c (T:=T) (k:=97003) rfl]
   simp only [↓eA,eB,seval,l97003])
theorem q_com (a b c d e f:Int):L.call 61 [.agg [int a,int b,int c],.agg [int d,int e,int f]] []=some (int (oI (cI c f) (cI b e) (cI a d)),[]):=
 call_eq rfl rfl (by simp only [↓eA,eB,seval,c61,q_cmp,q_or])
def cf (x y:Six):Int:=oI (cI x.2.2.1 y.2.2.1) (cI x.2.1 y.2.1) (cI x.1 y.1)
theorem q_pc2 (x y:Six):L.call 60 [sixD x,sixD y] []=some (int (cf x y),[]):=
 call_eq rfl rfl (by simp only [↓eA,eB,seval,c60,sixD,q_com]; rfl)
theorem cI_cases (a b:Int):a < b∧cI a b = -1∨a=b∧cI a b=0∨b < a∧cI a b=1:=by
 unfold cI
 by_cases h1:a < b
 · rw [decide_eq_true h1]; exact .inl ⟨h1,rfl⟩
 · rw [decide_eq_false h1]
   by_cases h2:b < a
   · rw [decide_eq_true h2]; exact .inr (.inr ⟨h2,rfl⟩)
   · rw [decide_eq_false h2]; exact .inr (.inl ⟨by omega,rfl⟩)
theorem cf_lt (x y:Six):decide (cf x y < 0)=ltBx x y:=by
 rw [Bool.eq_iff_iff,ltBx_iff,decide_eq_true_eq]
 unfold cf
 rcases cI_cases x.2.2.1 y.2.2.1 with ⟨h,e⟩ | ⟨h,e⟩ | ⟨h,e⟩<;>rw [e]
 · exact ⟨fun _=>.inl h,fun _=>by simp [oI]⟩
 · rcases cI_cases x.2.1 y.2.1 with ⟨h',e'⟩ | ⟨h',e'⟩ | ⟨h',e'⟩<;>rw [e']
   · exact ⟨fun _=>.inr ⟨h,.inl h'⟩,fun _=>by simp [oI]⟩
   · rcases cI_cases x.1 y.1 with ⟨h2,e2⟩ | ⟨h2,e2⟩ | ⟨h2,e2⟩<;>rw [e2]
     · exact ⟨fun _=>.inr ⟨h,.inr ⟨h',h2⟩⟩,fun _=>by simp [oI]⟩
     · exact ⟨fun k=>absurd k (by simp [oI]),fun k=>by omega⟩
     · exact ⟨fun k=>absurd k (by simp [oI]),fun k=>by omega⟩
   · exact ⟨fun k=>absurd k (by simp [oI]),fun k=>by omega⟩
 · exact ⟨fun k=>absurd k (by simp [oI]),fun k=>by omega⟩
end B60
end Tz
namespace Go.Proofs
open Go.Shelf Go.RowKit Go.Lib Go.Sort Gs
def Tryz.encSix (x:Six):List Value:=[.int .i64 x.1,.int .i64 x.2.1,.int .i64 x.2.2.1,.int .i64 x.2.2.2.1,.int .i64 x.2.2.2.2.1,.int .i64 x.2.2.2.2.2]
theorem grown_of {W w':World}(h1:w'.os=W.os)(h2:w'.tape=W.tape)(h3:w'.output=W.output)(h4:W.heap.size≤w'.heap.size)(h5:∀ k,k < W.heap.size→w'.heap[k]?=W.heap[k]?)(h6:W.drawn≤w'.drawn):∃ q os',w'=grow (W.drewN q) os':=by
 refine ⟨w'.drawn - W.drawn,w'.heap.extract W.heap.size w'.heap.size,?_⟩
 obtain ⟨hp,tp,dr,os,ou⟩:=w'
 obtain ⟨hp0,tp0,dr0,os0,ou0⟩:=W
 simp only at h1 h2 h3 h4 h5 h6
 subst h1; subst h2; subst h3
 have e1:hp=hp0 ++ hp.extract hp0.size hp.size:=by
   apply Array.ext_getElem?
   intro i
   by_cases hi:i < hp0.size
   · rw [Array.getElem?_append_left hi]; exact h5 i hi
   · rw [Array.getElem?_append_right (by omega),Array.getElem?_extract]
     by_cases hi2:i < hp.size
     · rw [if_pos (by omega),show hp0.size + (i - hp0.size)=i by omega]
     · rw [if_neg (by omega),Array.getElem?_eq_none (by omega)]
 have e2:dr=dr0 + (dr - dr0):=by omega
 show (⟨hp,tp,dr,os,ou⟩:World)=⟨hp0 ++ hp.extract hp0.size hp.size,tp,dr0 + (dr - dr0),os,ou⟩
 rw [←e1,←e2]
section
attribute [local instance 10000] Tz.B60.gt
theorem Tryz.closure60 (x y:Six)(W:World):Calls Tryz.prog 60 #[.agg (Tryz.encSix x).toArray,.agg (Tryz.encSix y).toArray] W fun e w'=>e = .returned (.int .i64 (Tz.B60.cf x y))∧∃ q os',w'=grow (W.drewN q) os':=by
 have ha:RelL (fun _=>none) (fun _ _=>none) [sixD x,sixD y] [.agg (Tryz.encSix x).toArray,.agg (Tryz.encSix y).toArray]:=
   .cons (.agg (.cons (.int _ _) (.cons (.int _ _) (.cons (.int _ _) (.cons (.int _ _) (.cons (.int _ _) (.cons (.int _ _) .nil))))))) (.cons (.agg (.cons (.int _ _) (.cons (.int _ _) (.cons (.int _ _) (.cons (.int _ _) (.cons (.int _ _) (.cons (.int _ _) .nil))))))) .nil)
 have hc:Core (fun _=>none) (fun _ _=>none) [] W:=⟨fun B o v h=>(by cases h),fun b x h=>(by cases h),fun b i h=>(by cases h),fun b b' i i' B o n o' n' h=>(by cases h)⟩
 have hg:=(gives Tz.B60.tab60 (Tz.B60.q_pc2 x y)).2 (fun _=>none) (fun _ _=>none) W _ (by intro b hb; cases hb) (by intro g cs h; cases h) hc ha
 refine hg.mono ?_
 rintro e w' ⟨v,rfl,K',Q',hs,_,hr⟩
 cases hr
 have hk:=hs.kept
 exact ⟨rfl,grown_of hk.os hk.tape hk.output hk.size (fun k h=>hk.block k h (by rintro ⟨b,i,o,n,hh,_⟩; cases hh)) (hk.drawn rfl)⟩
end
theorem Tryz.cmpLays60 (blk off size:Nat)(w:World):CmpLays Tryz.prog 60 #[] Tryz.encSix 6 Tz.B60.cf blk off size w:=
 fun _ _ _ _ x y=>Tryz.closure60 x y _
end Go.Proofs
