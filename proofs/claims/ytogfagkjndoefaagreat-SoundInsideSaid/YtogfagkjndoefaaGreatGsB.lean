/- The operations of the small code agree with the model, first part; no conditions. -/
import Derived.Test.YtogfagkjndoefaaGreatGsA
import Derived.Laws.Entries
import Derived.Laws.Append
set_option linter.all false
namespace Gs
open Go
variable [GlobTab]
section
variable {K:Km} {Q:Pm} {v:Value}
theorem Rel.bool_inv {b:Bool}(h:Rel K Q (.bool b) v):v = .bool b:=by cases h; rfl
theorem Rel.int_inv {k:IntKind}{i:Int}(h:Rel K Q (.int k i) v):v = .int k i:=by cases h; rfl
theorem Rel.str_inv {s:ByteArray}(h:Rel K Q (.str s) v):v = .string s:=by cases h; rfl
theorem Rel.agg_inv {cs:List D}(h:Rel K Q (.agg cs) v):∃ vs,v = .agg vs.toArray∧RelL K Q cs vs:=by
 cases h with | agg h=>exact ⟨_,rfl,h⟩
theorem Rel.ptr_inv {b o:Nat}(h:Rel K Q (.ptr b o) v):∃ B tot,v=pt B o∧K b=some ⟨some (B,0,tot),none⟩:=by
 cases h with | ptr off h=>exact ⟨_,_,rfl,h⟩
theorem Rel.fp_inv {cs:List D}{o:Nat}(h:Rel K Q (.fp cs o) v):∃ B o',v=pt B (o' + o)∧RelAt K Q B o' cs∧closedL cs=true:=by
 cases h with | fp off h hx=>exact ⟨_,_,rfl,h,hx⟩
theorem Rel.ep_inv {b i o:Nat}(h:Rel K Q (.ep b i o) v):∃ B base tot nz esz len,v=pt B (base + i * esz + o)∧K b=some ⟨some (B,base,tot),some (nz,esz,len)⟩∧i < len:=by
 cases h with | ep off h hi=>exact ⟨_,_,_,_,_,_,rfl,h,hi⟩
end
theorem Rel.one {K:Km}{Q:Pm}{d:D}{v:Value}(h:Rel K Q d v)(hs:solid d=true):v.oneCell'=true:=by
 cases h<;>first | rfl | (simp [solid] at hs)
theorem RelL.one {K:Km}{Q:Pm} : ∀ {l:List D} {vs:List Value},RelL K Q l vs→solidL l=true→∀ v∈vs,v.oneCell'=true
 | _,_,.nil,_,v,hv=>by simp at hv
 | _,_,.cons h t,hs,v,hv=>by
   simp only [solidL,Bool.cond_false_right,Bool.and_eq_true] at hs
   cases hv with
   | head=>exact h.one hs.1
   | tail _ hv=>exact t.one hs.2 v hv
theorem ibeq (x y:Int):(x == y)=decide (x=y):=by rw [Bool.eq_iff_iff]; simp
def OpOk (P:Program)(w0:World0)(K0 K:Km)(Q:Pm)(w:World)(n:Nat)(o:Oper)(a:Act)(d:D)(e:Env)(H:Heap):Prop:=
 ∃ K' Q' w' v,((execOp a.eval o).run P w = .ok (.value v) w'∨((execOp a.eval o).run P w = .ok .skip w'∧v=undef))∧
   Sim w0 K0 K' Q' H w'∧RelE K' Q' n e a.tmps∧Rel K' Q' d v∧Le Q Q'
section
variable {P:Program} {w0:World0} {w:World} {K0 K:Km} {Q:Pm} {H:Heap} {n:Nat} {e:Env} {a:Act} {o:Oper}
theorem OpOk.val {d:D}{v:Value}(hs:Sim w0 K0 K Q H w)(he:RelE K Q n e a.tmps)(hrun:(execOp a.eval o).run P w = .ok (.value v) w)(hr:Rel K Q d v):OpOk P w0 K0 K Q w n o a d e H:=
 ⟨K,Q,w,v,.inl hrun,hs,he,hr,fun _ _ _ h=>h⟩
theorem op_mov {x:Operand}{y:Opd}(ho:o.op = .move x∨o.op = .assign x)(hok:okX n x y=true)(hs:Sim w0 K0 K Q H w)(he:RelE K Q n e a.tmps):OpOk P w0 K0 K Q w n o a (rho e y) e H:=by
 refine .val hs he ?_ (okX_rel he hok)
 rcases ho with ho | ho<;>simp [execOp,ho]
theorem op_pick {c x y:Operand}{c' x' y':Opd}{p:Bool}(ho:o.op = .pick c x y)(h1:okX n c c'=true)(h2:okX n x x'=true)(h3:okX n y y'=true)(hc:rho e c' = .bool p)
   (hs:Sim w0 K0 K Q H w) (he:RelE K Q n e a.tmps):OpOk P w0 K0 K Q w n o a (bif p then rho e x' else rho e y') e H:=by
 have hp:=okX_rel he h1
 rw [hc] at hp
 have hcv:a.eval c = .bool p:=hp.bool_inv
 refine .val hs he (v:=if p then a.eval x else a.eval y) ?_ ?_
 · simp [execOp,ho,hcv,asBool]
 · cases p
   · exact okX_rel he h3
   · exact okX_rel he h2
theorem binInt_run {op:BinOp}{t:TypeId}{k:IntKind}{x y:Int}{d:D}(h:intBin k x y op=some d):∃ v,(binOp op t (.int k x) (.int k y)).run P w = .ok v w∧Rel K Q d v:=by
 cases op<;>simp only [intBin,Option.some.injEq,reduceCtorEq] at h<;>try (cases h; done)
 case add=>subst h; exact ⟨_,by simp [binOp,Op.intArith],.int _ _⟩
 case sub=>subst h; exact ⟨_,by simp [binOp,Op.intArith],.int _ _⟩
 case mul=>subst h; exact ⟨_,by simp [binOp,Op.intArith],.int _ _⟩
 case quo=>
   split at h
   · cases h
   · rename_i hy
     have hy:y≠0:=by simpa using hy
     injection h with h; subst h
     exact ⟨_,by simp [binOp,Op.intDiv,hy],.int _ _⟩
 case rem=>
   split at h
   · cases h
   · rename_i hy
     have hy:y≠0:=by simpa using hy
     injection h with h; subst h
     exact ⟨_,by simp [binOp,Op.intDiv,hy],.int _ _⟩
 case eql=>subst h; exact ⟨.bool (decide (x=y)),by simp [binOp,Op.intCmp,ibeq],.bool _⟩
 case neq=>subst h; exact ⟨.bool (!decide (x=y)),by simp [binOp,Op.intCmp,bne,ibeq],.bool _⟩
 case lss=>subst h; exact ⟨.bool (decide (x < y)),by simp [binOp,Op.intCmp],.bool _⟩
 case leq=>subst h; exact ⟨.bool (decide (x≤y)),by simp [binOp,Op.intCmp],.bool _⟩
 case gtr=>subst h; exact ⟨.bool (decide (y < x)),by simp [binOp,Op.intCmp],.bool _⟩
 case geq=>subst h; exact ⟨.bool (decide (y≤x)),by simp [binOp,Op.intCmp],.bool _⟩
 case shr=>
   split at h
   · rename_i hy
     have hy:y=1:=by simpa using hy
     subst hy
     injection h with h; subst h
     refine ⟨_,?_,.int _ _⟩
     cases k<;>simp [binOp,Op.shift,IntKind.bits]
   · cases h
theorem binStr_run {op:BinOp}{t:TypeId}{x y:ByteArray}{d:D}(h:strBin x y op=some d):∃ v,(binOp op t (.string x) (.string y)).run P w = .ok v w∧Rel K Q d v:=by
 cases op<;>simp only [strBin,Option.some.injEq,reduceCtorEq] at h<;>try (cases h; done)
 case add=>
   split at h<;>try (cases h; done)
   rename_i hf
   injection h with h; subst h
   refine ⟨_,?_,.str _⟩
   have:¬ (((x.size + y.size:Nat):Int) > IntKind.i64.max):=by have:=of_decide_eq_true hf; omega
   simp only [binOp,Op.stringOp]
   rw [if_neg this]; rfl
 case eql=>subst h; exact ⟨.bool (seq x y),by simp [binOp,Op.stringOp,seq],.bool _⟩
 case neq=>subst h; exact ⟨.bool (!seq x y),by simp [binOp,Op.stringOp,seq],.bool _⟩
 case lss=>subst h; exact ⟨.bool (slt x y),by simp [binOp,Op.stringOp,slt],.bool _⟩
 case leq=>subst h; exact ⟨.bool (slt x y || seq x y),by simp [binOp,Op.stringOp,slt,seq],.bool _⟩
 case gtr=>subst h; exact ⟨.bool (!(slt x y || seq x y)),by simp [binOp,Op.stringOp,slt,seq],.bool _⟩
 case geq=>subst h; exact ⟨.bool (!slt x y),by simp [binOp,Op.stringOp,slt],.bool _⟩
theorem kEq_eq {j k:IntKind}(h:kEq j k=true):j=k:=by cases j<;>cases k<;>simp_all [kEq]
theorem eqGuard_plain {op:BinOp}{t:TypeId}{x y:Operand}{u v:Value}(h:∀ xs,u≠.agg xs)(h':u≠.nilIface):(eqGuard op t x y u v).run P w = .ok () w:=by
 cases op<;>cases u<;>first
   | exact absurd rfl h'
   | exact absurd rfl (h _)
   | (simp [eqGuard]; done)
   | (cases v<;>simp [eqGuard])
theorem op_bin {op:BinOp}{t t':TypeId}{x y:Operand}{x' y':Opd}{d:D}(ho:o.op = .binOp op t x y t')(h1:okX n x x'=true)(h2:okX n y y'=true)(hd:ordBin op (rho e x') (rho e y')=some d)
   (hs:Sim w0 K0 K Q H w) (he:RelE K Q n e a.tmps):OpOk P w0 K0 K Q w n o a d e H:=by
 have hx:=okX_rel he h1
 have hy:=okX_rel he h2
 unfold ordBin at hd
 split at hd<;>try (cases hd; done)
 · rename_i k u hu
   split at hd<;>try (cases hd; done)
   rename_i j v hv
   split at hd<;>try (cases hd; done)
   rename_i hk
   have hk:=kEq_eq hk; subst hk
   rw [hu] at hx; rw [hv] at hy
   have ex:a.eval x = .int k u:=hx.int_inv
   have ey:a.eval y = .int k v:=hy.int_inv
   obtain ⟨r,hr,hrel⟩:=binInt_run (P:=P) (w:=w) (t:=t) (K:=K) (Q:=Q) hd
   refine .val hs he (v:=r) ?_ hrel
   simp only [execOp,ho,ex,ey,Sem.run_bind,eqGuard_plain (P:=P) (w:=w) (u:=.int k u) (fun _=>by simp) (by simp),Result.andThen_ok,hr,Sem.run_pure]
 · rename_i u hu
   split at hd<;>try (cases hd; done)
   rename_i v hv
   rw [hu] at hx; rw [hv] at hy
   have ex:a.eval x = .string u:=hx.str_inv
   have ey:a.eval y = .string v:=hy.str_inv
   obtain ⟨r,hr,hrel⟩:=binStr_run (P:=P) (w:=w) (t:=t) (K:=K) (Q:=Q) hd
   refine .val hs he (v:=r) ?_ hrel
   simp only [execOp,ho,ex,ey,Sem.run_bind,eqGuard_plain (P:=P) (w:=w) (u:=.string u) (fun _=>by simp) (by simp),Result.andThen_ok,hr,Sem.run_pure]
theorem op_not {t:TypeId}{x:Operand}{x':Opd}{b:Bool}(ho:o.op = .unOp .not t x)(h1:okX n x x'=true)(hb:rho e x' = .bool b)(hs:Sim w0 K0 K Q H w)(he:RelE K Q n e a.tmps):OpOk P w0 K0 K Q w n o a (.bool (!b)) e H:=by
 have hx:=okX_rel he h1
 rw [hb] at hx
 have ex:a.eval x = .bool b:=hx.bool_inv
 exact .val hs he (v:=.bool (!b)) (by simp [execOp,ho,ex,Op.unary]) (.bool _)
theorem op_neg {t:TypeId}{x:Operand}{x':Opd}{k:IntKind}{i:Int}(ho:o.op = .unOp .neg t x)(h1:okX n x x'=true)(hb:rho e x' = .int k i)(hs:Sim w0 K0 K Q H w)(he:RelE K Q n e a.tmps):OpOk P w0 K0 K Q w n o a (.int k (k.wrap (0 - i))) e H:=by
 have hx:=okX_rel he h1
 rw [hb] at hx
 have ex:a.eval x = .int k i:=hx.int_inv
 exact .val hs he (v:=.int k (k.wrap (0 - i))) (by simp [execOp,ho,ex,Op.unary,Op.intArith]) (.int _ _)
theorem op_conv {s t:TypeId}{x:Operand}{x':Opd}{k j:IntKind}{i:Int}{d:TypeDesc}(ho:o.op = .convert s t x)(hsrc:P.underlying s=some d)(ht:P.underlying t=some (.int k))(h1:okX n x x'=true)(hb:rho e x' = .int j i)(hs:Sim w0 K0 K Q H w)(he:RelE K Q n e a.tmps):OpOk P w0 K0 K Q w n o a (.int k (k.wrap i)) e H:=by
 have hx:=okX_rel he h1
 rw [hb] at hx
 have ex:a.eval x = .int j i:=hx.int_inv
 refine .val hs he (v:=.int k (k.wrap i)) ?_ (.int _ _)
 simp only [execOp,ho,ex,convert,Sem.run_bind,Go.run_underlying hsrc,Go.run_underlying ht,Result.andThen_ok]
 simp [Conv.intToInt]
theorem op_convS {s t:TypeId}{x:Operand}{x':Opd}{i:ByteArray}(ho:o.op = .convert s t x)(hsrc:P.underlying s=some .string)(ht:P.underlying t=some .string)(h1:okX n x x'=true)(hb:rho e x' = .str i)(hs:Sim w0 K0 K Q H w)(he:RelE K Q n e a.tmps):OpOk P w0 K0 K Q w n o a (.str i) e H:=by
 have hx:=okX_rel he h1
 rw [hb] at hx
 have ex:a.eval x = .string i:=hx.str_inv
 refine .val hs he (v:=.string i) ?_ (.str _)
 simp only [execOp,ho,ex,convert,Sem.run_bind,Go.run_underlying hsrc,Go.run_underlying ht,Result.andThen_ok]
 simp
theorem op_ext {x:Operand}{x':Opd}{i:Nat}{vs:List D}{d:D}(ho:o.op = .extract x i)(h1:okX n x x'=true)(hb:rho e x' = .tup vs)(hd:cell vs i=some d)(hs:Sim w0 K0 K Q H w)(he:RelE K Q n e a.tmps):OpOk P w0 K0 K Q w n o a d e H:=by
 have hx:=okX_rel he h1
 rw [hb] at hx
 rw [cell_eq] at hd
 generalize ex:a.eval x=v at hx
 cases hx with
 | tup hl=>
   obtain ⟨u,hu,hr⟩:=hl.get hd
   refine .val hs he (v:=u) ?_ hr
   simp [execOp,ho,ex,Instr.extract,hu]
theorem op_mkfn {g:Nat}{cs:Array Operand}{cs':List Opd}(ho:o.op = .makeFunc (.func g) #[] cs)(h1:okXs n cs.toList cs'=true)(hs:Sim w0 K0 K Q H w)(he:RelE K Q n e a.tmps):OpOk P w0 K0 K Q w n o a (.fn g (rhos e cs')) e H:=by
 have hx:=okXs_rel he h1
 refine .val hs he (v:=.func (.func g) #[] (cs.map a.eval)) ?_ ?_
 · simp [execOp,ho,Instr.makeFunc]
 · have:=Rel.fn (g:=g) hx
   rwa [show (List.map a.eval cs.toList).toArray=cs.map a.eval by apply Array.ext'; simp] at this
theorem op_nil {x:Operand}{x':Opd}{d:D}(ho:o.op = .nilCheck x)(h1:okX n x x'=true)(hd:(∃ b i,rho e x' = .ptr b i)∨(∃ b i j,rho e x' = .ep b i j)∨(∃ b i,rho e x' = .fp b i)∨(∃ g cs,rho e x' = .fn g cs))
   (hs:Sim w0 K0 K Q H w) (he:RelE K Q n e a.tmps):OpOk P w0 K0 K Q w n o a (rho e x') e H:=by
 have hx:=okX_rel he h1
 refine .val hs he (v:=a.eval x) ?_ hx
 generalize ex:a.eval x=v at hx
 rcases hd with ⟨b,i,h⟩ | ⟨b,i,j,h⟩ | ⟨b,i,h⟩ | ⟨g,cs,h⟩<;>rw [h] at hx<;>cases hx<;>simp [execOp,ho,ex]
end
end Gs
namespace Gs
open Go
variable [GlobTab]
section
variable {P:Program} {w0:World0} {w:World} {K0 K:Km} {Q:Pm} {H:Heap} {n:Nat} {e:Env} {a:Act} {o:Oper}
theorem execOp_builtin {b:Builtin}{args:Array Operand}{ats:Array TypeId}(ho:o.op = .call ⟨.builtin b,args,ats⟩) :
   (execOp a.eval o).run P w=(builtin b ats o.type (args.map fun | .const _=>true | _=>false) (args.map a.eval)).run P w:=by
 simp only [execOp,ho,resolve,Sem.run_bind,Sem.run_pure,Result.andThen_ok,invoke]
 rfl
theorem Sim.row_len (hs:Sim w0 K0 K Q H w){b:Nat}{nz:Bool}{esz:Nat}{xs:List D}{p:Nat}{dy:Bool}(hx:hget H b=some (.row nz esz xs p dy)){i:Bi}(hk:K b=some i):i.k=some (nz,esz,xs.length):=by
 obtain ⟨_,_,_,h⟩:=hs.blk b _ hx
 rcases h with ⟨g,_,rfl⟩ | ⟨B,base,vs,t,g,_⟩
 · rw [hk] at g; injection g with g; rw [g]; rfl
 · rw [hk] at g; injection g with g; rw [g]
theorem lenD_run (hs:Sim w0 K0 K Q H w){d:D}{v:Value}{r:D}(hr:Rel K Q d v)(hd:lenD H d=some r):∃ p n c,v = .slice p n c∧n≤c∧r = .int .i64 n:=by
 cases hr with
 | fzNil nz esz=>simp [lenD] at hd; subst hd; exact ⟨_,_,_,rfl,Nat.le_refl _,rfl⟩
 | fzE esz p c=>simp [lenD] at hd; subst hd; exact ⟨_,_,_,rfl,Nat.zero_le _,rfl⟩
 | fz hn hrow hc hx=>simp [lenD] at hd; subst hd; exact ⟨_,_,_,rfl,hc,rfl⟩
 | owNil h=>
   simp only [lenD] at hd
   split at hd<;>try (cases hd; done)
   rename_i hx
   have:=hs.row_len hx h
   injection hd with hd; subst hd
   simp at this
   exact ⟨_,_,_,rfl,Nat.le_refl _,by rw [←this.2.2]⟩
 | ow h hl ht ha=>
   simp only [lenD] at hd
   split at hd<;>try (cases hd; done)
   rename_i hx
   have:=hs.row_len hx h
   injection hd with hd; subst hd
   simp at this
   exact ⟨_,_,_,rfl,hl,by rw [←this.2.2]⟩
 | winNil h=>simp [lenD] at hd; subst hd; exact ⟨_,_,_,rfl,Nat.le_refl _,rfl⟩
 | win h hl ho ht ha=>simp [lenD] at hd; subst hd; exact ⟨_,_,_,rfl,hl,rfl⟩
 | _=>simp [lenD] at hd
theorem op_len {x:Operand}{x':Opd}{t:TypeId}{d:D}{str:Bool}(ho:o.op = .call ⟨.builtin .len,#[x],#[t]⟩)(ht:if str then P.underlying t=some .string else ∃ e,P.underlying t=some (.slice e))(h1:okX n x x'=true)(hd:lenOf str H (rho e x')=some d)
   (hs:Sim w0 K0 K Q H w) (he:RelE K Q n e a.tmps):OpOk P w0 K0 K Q w n o a d e H:=by
 have hx:=okX_rel he h1
 cases str with
 | true=>
   simp only [lenOf] at hd
   split at hd<;>try (cases hd; done)
   rename_i s hsx
   injection hd with hd; subst hd
   rw [hsx] at hx
   have ex:=hx.str_inv
   refine .val hs he (v:=.int .i64 s.size) ?_ (.int _ _)
   rw [execOp_builtin ho]
   simp only [builtin,List.map_toArray,List.map_cons,List.map_nil,Builtin.len_,ex,Sem.run_bind]
   simp [Go.run_underlying (by simpa using ht),goInt]
 | false=>
   obtain ⟨el,ht⟩:=ht
   obtain ⟨p,k,c,hv,_,rfl⟩:=lenD_run hs hx hd
   refine .val hs he (v:=.int .i64 k) ?_ (.int _ _)
   rw [execOp_builtin ho]
   simp only [builtin,List.map_toArray,List.map_cons,List.map_nil,Builtin.len_,hv,Sem.run_bind]
   simp [Go.run_underlying ht,goInt]
theorem op_idxS {x i:Operand}{x' i':Opd}{t:TypeId}{s:ByteArray}{k:IntKind}{j:Int}(ho:o.op = .index t x i)(ht:P.underlying t=some .string)(h1:okX n x x'=true)(h2:okX n i i'=true)
   (hx:rho e x' = .str s) (hi:rho e i' = .int k j) (hb:inb j s.size=true) (hs:Sim w0 K0 K Q H w) (he:RelE K Q n e a.tmps):OpOk P w0 K0 K Q w n o a (.int .u8 (bat s j.toNat)) e H:=by
 have rx:=okX_rel he h1
 have ri:=okX_rel he h2
 rw [hx] at rx; rw [hi] at ri
 have ex:=rx.str_inv
 have ei:=ri.int_inv
 simp only [inb,decide_eq_true_eq] at hb
 have hlt:j.toNat < s.size:=by omega
 refine .val hs he (v:=.int .u8 (bat s j.toNat)) ?_ (.int _ _)
 simp only [execOp,ho,ex,ei,Instr.index,Sem.run_bind,asIntOf,Sem.run_pure,Result.andThen_ok,Go.run_underlying ht,hb.1,if_true]
 have hg:s[j.toNat]?=some s[j.toNat]:=getElem?_pos s _ hlt
 simp [hg,bat]
theorem fieldPlace_run {f:Field}{B o':Nat}{k:Nat}(hsz:sizeT P f.type=some (k + 1)):(fieldPlace ⟨B,o',none⟩ f).run P w = .ok ⟨B,o' + f.offset,none⟩ w:=by
 simp only [fieldPlace,Sem.run_bind,run_sizeT hsz,Result.andThen_ok,add_at]
 simp
def fieldT (P:Program)(t:TypeId)(f:Nat):Option (Nat×TypeId):=
 match P.underlying t with
 | some (.struct fs)=>(fs[f]?).map fun x=>(x.offset,x.type)
 | _=>none
theorem fieldT_eq {t:TypeId}{f off:Nat}{ft:TypeId}(h:fieldT P t f=some (off,ft)):∃ fs x,P.underlying t=some (.struct fs)∧fs[f]?=some x∧x.offset=off∧x.type=ft:=by
 unfold fieldT at h
 split at h<;>try (cases h; done)
 rename_i fs hu
 cases hx:fs[f]? with
 | none=>simp [hx] at h
 | some x=>simp [hx] at h; exact ⟨fs,x,hu,hx,h.1,h.2⟩
theorem op_fld {t:TypeId}{f off:Nat}{x:Operand}{x':Opd}{d:D}{ft:TypeId}{k:Nat}(ho:o.op = .fieldAddr t x f)(hf:fieldT P t f=some (off,ft))(hsz:sizeT P ft=some (k + 1))(h1:okX n x x'=true)
   (hd:(∃ b i,rho e x' = .ptr b i∧d = .ptr b (i + off))∨(∃ b i j,rho e x' = .ep b i j∧d = .ep b i (j + off))∨(∃ b i,rho e x' = .fp b i∧d = .fp b (i + off)))
   (hs:Sim w0 K0 K Q H w) (he:RelE K Q n e a.tmps):OpOk P w0 K0 K Q w n o a d e H:=by
 have hx:=okX_rel he h1
 obtain ⟨fs,fx,hu,hfx,rfl,rfl⟩:=fieldT_eq hf
 have key:∀ B o',a.eval x=pt B o'→(execOp a.eval o).run P w = .ok (.value (pt B (o' + fx.offset))) w:=fun B o' hv=>by
   simp only [execOp,ho,Instr.fieldAt,Sem.run_bind,Go.run_underlying hu,Result.andThen_ok,hfx,hv,Instr.sureAddr,Sem.run_pure,fieldPlace_run hsz]
 rcases hd with ⟨b,i,h,rfl⟩ | ⟨b,i,j,h,rfl⟩ | ⟨b,i,h,rfl⟩<;>rw [h] at hx
 · obtain ⟨B,tot,hv,hk⟩:=hx.ptr_inv
   exact .val hs he (key _ _ hv) (.ptr _ hk)
 · obtain ⟨B,base,tot,nz,esz,len,hv,hk,hi⟩:=hx.ep_inv
   exact .val hs he (key _ _ hv) (by rw [Nat.add_assoc]; exact .ep _ hk hi)
 · obtain ⟨B,o',hv,hat,hc⟩:=hx.fp_inv
   exact .val hs he (key _ _ hv) (by rw [Nat.add_assoc]; exact .fp _ hat hc)
theorem op_iadA {t:TypeId}{m esz:Nat}{x i:Operand}{x' i':Opd}{d:D}{el:TypeId}{k:IntKind}{j:Int}(ho:o.op = .indexAddr t x i)(ht:P.underlying t=some (.array m el))(hsz:sizeT P el=some esz)(h1:okX n x x'=true)(h2:okX n i i'=true)
   (hi:rho e i' = .int k j) (hb:inb j m=true)
   (hd:(∃ b i,rho e x' = .ptr b i∧d = .ptr b (i + j.toNat * esz))∨(∃ b i l,rho e x' = .ep b i l∧d = .ep b i (l + j.toNat * esz))∨(∃ b i,rho e x' = .fp b i∧d = .fp b (i + j.toNat * esz)))
   (hs:Sim w0 K0 K Q H w) (he:RelE K Q n e a.tmps):OpOk P w0 K0 K Q w n o a d e H:=by
 have hx:=okX_rel he h1
 have ri:=okX_rel he h2
 rw [hi] at ri
 have ei:=ri.int_inv
 simp only [inb,decide_eq_true_eq] at hb
 have key:∀ B o',a.eval x=pt B o'→(execOp a.eval o).run P w = .ok (.value (pt B (o' + j.toNat * esz))) w:=fun B o' hv=>by
   simp only [execOp,ho,Instr.indexAt,Sem.run_bind,ei,asIntOf,Sem.run_pure,Result.andThen_ok,Go.run_underlying ht,hv,Instr.sureAddr,hb,and_self,if_true,run_sizeT hsz,add_at]
 rcases hd with ⟨b,i,h,rfl⟩ | ⟨b,i,l,h,rfl⟩ | ⟨b,i,h,rfl⟩<;>rw [h] at hx
 · obtain ⟨B,tot,hv,hk⟩:=hx.ptr_inv
   exact .val hs he (key _ _ hv) (.ptr _ hk)
 · obtain ⟨B,base,tot,nz,esz,len,hv,hk,hi⟩:=hx.ep_inv
   exact .val hs he (key _ _ hv) (by rw [Nat.add_assoc]; exact .ep _ hk hi)
 · obtain ⟨B,o',hv,hat,hc⟩:=hx.fp_inv
   exact .val hs he (key _ _ hv) (by rw [Nat.add_assoc]; exact .fp _ hat hc)
theorem iadD_run (hs:Sim w0 K0 K Q H w){esz:Nat}{d r:D}{v:Value}{j:Int}(hr:Rel K Q d v)(hd:iadD H esz d j=some r) :
   ∃ B b0 len cap,v = .slice (some ⟨B,b0,none⟩) len cap∧0≤j∧j < len∧Rel K Q r (pt B (b0 + j.toNat * esz)):=by
 cases hr with
 | fzNil nz z=>
   simp only [iadD,inb] at hd
   split at hd<;>try (cases hd; done)
 | fzE z p c=>
   simp only [iadD,inb] at hd
   split at hd<;>try (cases hd; done)
 | fz hn hrow hc hx=>
   simp only [iadD] at hd
   split at hd<;>try (cases hd; done)
   rename_i h1 h2
   have h2:=eq_of_beq h2; subst h2
   simp only [inb,decide_eq_true_eq] at h1
   split at hd<;>try (cases hd; done)
   rename_i el hel
   injection hd with hd; subst hd
   obtain ⟨g1,g2⟩:=hrow.get hel
   refine ⟨_,_,_,_,rfl,h1.1,h1.2,?_⟩
   have:=Rel.fp (K:=K) 0 g2 (cellsOf_closed (closedL_mem hx (List.mem_of_getElem? hel)))
   simpa using this
 | owNil h=>
   simp only [iadD] at hd
   split at hd<;>try (cases hd; done)
   rename_i hx
   have:=hs.row_len hx h
   simp at this
   split at hd<;>try (cases hd; done)
   rename_i h1 h2
   simp only [inb,decide_eq_true_eq] at h1
   rw [←this.2.2] at h1; simp at h1; omega
 | ow h hl ht ha=>
   simp only [iadD] at hd
   split at hd<;>try (cases hd; done)
   rename_i hx
   have:=hs.row_len hx h
   simp at this
   split at hd<;>try (cases hd; done)
   rename_i h1 h2
   have h2:=eq_of_beq h2; subst h2
   simp only [inb,decide_eq_true_eq] at h1
   injection hd with hd; subst hd
   rw [ha (by omega)]
   refine ⟨_,_,_,_,rfl,h1.1,by rw [this.2.2]; exact h1.2,?_⟩
   rw [←this.2.1]
   have:=Rel.ep (K:=K) (Q:=Q) (i:=j.toNat) 0 h (by rw [this.2.2]; omega)
   simpa using this
 | winNil h=>
   simp only [iadD] at hd
   split at hd<;>try (cases hd; done)
   split at hd<;>try (cases hd; done)
   rename_i h1 h2
   simp only [inb,decide_eq_true_eq] at h1
   omega
 | @win b1 B1 base1 tot1 nz1 esz1 len1 cap1 off1 l1 a1 h hl ho ht ha=>
   simp only [iadD] at hd
   split at hd<;>try (cases hd; done)
   rename_i hx
   have:=hs.row_len hx h
   simp at this
   split at hd<;>try (cases hd; done)
   rename_i h1 h2
   have h2:=eq_of_beq h2; subst h2
   simp only [inb,decide_eq_true_eq] at h1
   injection hd with hd; subst hd
   rw [ha (by omega)]
   refine ⟨_,_,_,_,rfl,h1.1,h1.2,?_⟩
   rw [←this.2.1]
   have:=Rel.ep (K:=K) (Q:=Q) (i:=off1 + j.toNat) 0 h (by omega)
   rw [Nat.add_mul,←Nat.add_assoc] at this
   simpa using this
 | _=>simp [iadD] at hd
theorem op_iadS {t:TypeId}{esz:Nat}{x i:Operand}{x' i':Opd}{d:D}{el:TypeId}{k:IntKind}{j:Int}(ho:o.op = .indexAddr t x i)(ht:P.underlying t=some (.slice el))(hsz:sizeT P el=some esz)(h1:okX n x x'=true)(h2:okX n i i'=true)
   (hi:rho e i' = .int k j) (hd:iadD H esz (rho e x') j=some d) (hs:Sim w0 K0 K Q H w) (he:RelE K Q n e a.tmps):OpOk P w0 K0 K Q w n o a d e H:=by
 have ri:=okX_rel he h2
 rw [hi] at ri
 have ei:=ri.int_inv
 obtain ⟨B,b0,len,cap,hv,g0,g1,hr⟩:=iadD_run hs (okX_rel he h1) hd
 refine .val hs he ?_ hr
 simp only [execOp,ho,Instr.indexAt,Sem.run_bind,ei,asIntOf,Sem.run_pure,Result.andThen_ok,Go.run_underlying ht,hv,g0,g1,and_self,if_true,run_sizeT hsz,add_at]
theorem part_run {t:TypeId}{ag:Bool}{sz off:Nat}{cs:List D}{vs:List Value}{r:D}(hl:RelL K Q cs vs)(hr:asVar ag sz off cs=some r)(ha:aggT P t=some ag)(hz:sizeT P t=some sz) :
   ∃ v,(Go.part t vs.toArray off).run P w = .ok v w∧Rel K Q r v:=by
 cases ag with
 | true=>
   simp only [asVar] at hr
   cases hp:part cs off sz with
   | none=>simp [hp] at hr
   | some l=>
     simp only [hp,Option.some.injEq] at hr
     obtain ⟨h1,h2⟩:=part_eq _ _ _ _ hp
     subst hr; subst h1
     refine ⟨.agg ((vs.drop off).take sz).toArray,?_,.agg ((hl.drop off).take sz)⟩
     simp only [Go.part,Sem.run_bind,run_aggT ha,Result.andThen_ok,if_true,run_sizeT hz,Sem.run_pure]
     congr 2
     apply Array.ext'
     simp [List.extract_eq_take_drop]<;>congr 1<;>omega
 | false=>
   simp only [asVar,cell_eq] at hr
   obtain ⟨v,hv,hrel⟩:=hl.get hr
   refine ⟨v,?_,hrel⟩
   simp only [Go.part,Sem.run_bind,run_aggT ha,Result.andThen_ok,Bool.false_eq_true,if_false]
   simp [hv]
theorem op_fldv {t:TypeId}{f off sz:Nat}{ag:Bool}{x:Operand}{x':Opd}{d:D}{ft:TypeId}{cs:List D}(ho:o.op = .field t x f)(hf:fieldT P t f=some (off,ft))(hsz:sizeT P ft=some sz)(hag:aggT P ft=some ag)(h1:okX n x x'=true)
   (hx:rho e x' = .agg cs) (hd:asVar ag sz off cs=some d) (hs:Sim w0 K0 K Q H w) (he:RelE K Q n e a.tmps):OpOk P w0 K0 K Q w n o a d e H:=by
 have rx:=okX_rel he h1
 rw [hx] at rx
 obtain ⟨vs,hv,hl⟩:=rx.agg_inv
 obtain ⟨fs,fx,hu,hfx,rfl,rfl⟩:=fieldT_eq hf
 obtain ⟨v,hrun,hr⟩:=part_run (P:=P) (w:=w) hl hd hag hsz
 refine .val hs he (v:=v) ?_ hr
 simp only [execOp,ho,Instr.field,Sem.run_bind,Go.run_underlying hu,Result.andThen_ok,hfx,hv,asAgg,Sem.run_pure,hrun]
theorem op_idxA {t:TypeId}{m esz:Nat}{ag:Bool}{x i:Operand}{x' i':Opd}{d:D}{el:TypeId}{k:IntKind}{j:Int}{cs:List D}(ho:o.op = .index t x i)(ht:P.underlying t=some (.array m el))(hsz:sizeT P el=some esz)(hag:aggT P el=some ag)
   (h1:okX n x x'=true) (h2:okX n i i'=true) (hx:rho e x' = .agg cs) (hi:rho e i' = .int k j) (hb:inb j m=true) (hd:asVar ag esz (j.toNat * esz) cs=some d) (hs:Sim w0 K0 K Q H w) (he:RelE K Q n e a.tmps):OpOk P w0 K0 K Q w n o a d e H:=by
 have rx:=okX_rel he h1
 have ri:=okX_rel he h2
 rw [hx] at rx; rw [hi] at ri
 obtain ⟨vs,hv,hl⟩:=rx.agg_inv
 have ei:=ri.int_inv
 simp only [inb,decide_eq_true_eq] at hb
 obtain ⟨v,hrun,hr⟩:=part_run (P:=P) (w:=w) hl hd hag hsz
 refine .val hs he (v:=v) ?_ hr
 simp only [execOp,ho,Instr.index,Sem.run_bind,ei,asIntOf,Sem.run_pure,Result.andThen_ok,Go.run_underlying ht,hv,hb,and_self,if_true,run_sizeT hsz,hrun]
theorem ldD_run (hs:Sim w0 K0 K Q H w){t:TypeId}{ag:Bool}{sz:Nat}{d r:D}{v:Value}(hr:Rel K Q d v)(hd:ldD H sz ag d=some r)(ha:aggT P t=some ag)(hz:sizeT P t=some sz) :
   ∃ B o' u,v=pt B o'∧(loadVar t ⟨B,o',none⟩).run P w = .ok u w∧Rel K Q r u:=by
 cases hr with
 | ptr off hk=>
   simp only [ldD] at hd
   split at hd<;>try (cases hd; done)
   rename_i cs fr hx
   obtain ⟨B',n',hk',hc⟩:=BoxOk.cells (hs.blk _ _ hx)
   rw [hk] at hk'; injection hk' with hk'; injection hk' with hk'; injection hk' with hk'; injection hk' with e1 _; subst e1
   obtain ⟨u,hrun,hrel⟩:=asVar_run (P:=P) hc hd (run_aggT ha) (fun _=>run_sizeT hz)
   rw [Nat.zero_add] at hrun
   exact ⟨_,_,u,rfl,hrun,hrel⟩
 | ep off hk hi=>
   simp only [ldD] at hd
   split at hd<;>try (cases hd; done)
   rename_i nz esz xs p dy hx
   split at hd<;>try (cases hd; done)
   rename_i el hel
   obtain ⟨B',base',n',hk',hc⟩:=RowOk.cells (hs.blk _ _ hx) hel
   rw [hk] at hk'; injection hk' with hk'; injection hk' with e1 e2; injection e1 with e1; injection e1 with e1 e3; injection e3 with e3 _; injection e2 with e2; injection e2 with _ e2; injection e2 with e2 _
   subst e1; subst e2; subst e3
   obtain ⟨u,hrun,hrel⟩:=asVar_run (P:=P) hc hd (run_aggT ha) (fun _=>run_sizeT hz)
   exact ⟨_,_,u,rfl,hrun,hrel⟩
 | fp off hat hc=>
   simp only [ldD] at hd
   obtain ⟨u,hrun,hrel⟩:=asVar_run (P:=P) (hat.cells hs.val) hd (run_aggT ha) (fun _=>run_sizeT hz)
   exact ⟨_,_,u,rfl,hrun,hrel⟩
 | _=>simp [ldD] at hd
theorem op_ld {t:TypeId}{sz:Nat}{ag:Bool}{x:Operand}{x':Opd}{d:D}(ho:o.op = .load t x)(hsz:sizeT P t=some sz)(hag:aggT P t=some ag)(h1:okX n x x'=true)(hd:ldD H sz ag (rho e x')=some d)
   (hs:Sim w0 K0 K Q H w) (he:RelE K Q n e a.tmps):OpOk P w0 K0 K Q w n o a d e H:=by
 obtain ⟨B,o',u,hv,hrun,hr⟩:=ldD_run (P:=P) hs (okX_rel he h1) hd hag hsz
 refine .val hs he (v:=u) ?_ hr
 simp only [execOp,ho,Instr.loadAt,hv,Sem.run_bind,Instr.sureAddr,Sem.run_pure,Result.andThen_ok,hrun]
theorem maxL_run {k:IntKind} : ∀ {l:List D} {vs:List Value} {x r:Int},RelL K Q l vs→maxL x l=some r→(List.foldlM Builtin.max2 (.int k x) vs:Sem Value).run P w = .ok (.int k r) w
 | [],[],x,r,_,h=>by simp [maxL] at h; simp [h]
 | d :: l,v :: vs,x,r,.cons hd ht,h=>by
   cases d<;>simp only [maxL,reduceCtorEq] at h<;>try (cases h; done)
   rename_i j y
   rw [hd.int_inv]
   simp only [List.foldlM_cons,Sem.run_bind,Builtin.max2,Sem.run_pure,Result.andThen_ok]
   have:(if y > x then y else x)=max x y:=by rw [Int.max_def]; split<;>split<;>omega
   rw [this]
   exact maxL_run ht h
theorem minL_run {k:IntKind} : ∀ {l:List D} {vs:List Value} {x r:Int},RelL K Q l vs→minL x l=some r→(List.foldlM Builtin.min2 (.int k x) vs:Sem Value).run P w = .ok (.int k r) w
 | [],[],x,r,_,h=>by simp [minL] at h; simp [h]
 | d :: l,v :: vs,x,r,.cons hd ht,h=>by
   cases d<;>simp only [minL,reduceCtorEq] at h<;>try (cases h; done)
   rename_i j y
   rw [hd.int_inv]
   simp only [List.foldlM_cons,Sem.run_bind,Builtin.min2,Sem.run_pure,Result.andThen_ok]
   have:(if y < x then y else x)=min x y:=by rw [Int.min_def]; split<;>split<;>omega
   rw [this]
   exact minL_run ht h
theorem op_mx {args:Array Operand}{ats:Array TypeId}{xs:List Opd}{k:IntKind}{x:Int}{l:List D}{r:Int}(ho:o.op = .call ⟨.builtin .max,args,ats⟩)(h1:okXs n args.toList xs=true)(hx:rhos e xs = .int k x :: l)(hr:maxL x l=some r)
   (hs:Sim w0 K0 K Q H w) (he:RelE K Q n e a.tmps):OpOk P w0 K0 K Q w n o a (.int k r) e H:=by
 have hl:=okXs_rel he h1
 rw [hx] at hl
 generalize hm:args.toList.map a.eval=vs at hl
 cases hl with
 | cons hd ht=>
   rename_i v vs
   refine .val hs he (v:=.int k r) ?_ (.int _ _)
   rw [execOp_builtin ho]
   simp only [builtin,Builtin.max_,Array.toList_map,hm,hd.int_inv,Sem.run_bind,maxL_run ht hr,Result.andThen_ok,Sem.run_pure]
theorem op_mn {args:Array Operand}{ats:Array TypeId}{xs:List Opd}{k:IntKind}{x:Int}{l:List D}{r:Int}(ho:o.op = .call ⟨.builtin .min,args,ats⟩)(h1:okXs n args.toList xs=true)(hx:rhos e xs = .int k x :: l)(hr:minL x l=some r)
   (hs:Sim w0 K0 K Q H w) (he:RelE K Q n e a.tmps):OpOk P w0 K0 K Q w n o a (.int k r) e H:=by
 have hl:=okXs_rel he h1
 rw [hx] at hl
 generalize hm:args.toList.map a.eval=vs at hl
 cases hl with
 | cons hd ht=>
   rename_i v vs
   refine .val hs he (v:=.int k r) ?_ (.int _ _)
   rw [execOp_builtin ho]
   simp only [builtin,Builtin.min_,Array.toList_map,hm,hd.int_inv,Sem.run_bind,minL_run ht hr,Result.andThen_ok,Sem.run_pure]
end
end Gs
namespace Gs
open Go
variable [GlobTab]
section
variable {P:Program} {w0:World0} {w:World} {K0 K:Km} {Q:Pm} {H:Heap} {n:Nat} {e:Env} {a:Act} {o:Oper}
theorem sliceBound_run {k:IntKind}{i:Int}{y:Nat}{c:BoundsCode}(h0:0≤i)(h1:i≤y):(Instr.sliceBound (.int k i) y c).run P w = .ok i.toNat w:=by
 simp [Instr.sliceBound,asIntOf,h0,h1]
def BoundIs (v:Option Value)(d:Int)(y:Int):Prop:=(v=none∧y=d)∨∃ k,v=some (.int k y)
theorem sliceBounds_run {isSl:Bool}{len cap:Nat}{lo hi:Option Value}{l h:Int}(hl:BoundIs lo 0 l)(hh:BoundIs hi len h)(h0:0≤l)(h1:l≤h)(h2:h≤cap) :
   (Instr.sliceBounds isSl len cap lo hi none).run P w = .ok (l.toNat,h.toNat,cap) w:=by
 rcases hh with ⟨rfl,rfl⟩ | ⟨k,rfl⟩<;>rcases hl with ⟨rfl,rfl⟩ | ⟨k',rfl⟩<;>simp only [Instr.sliceBounds,Sem.run_bind,Sem.run_pure,Result.andThen_ok]
 · simp
 · rw [sliceBound_run h0 (by omega)]; simp
 · rw [sliceBound_run (by omega) h2]; simp
 · rw [sliceBound_run (by omega) h2]
   simp only [Result.andThen_ok,Sem.run_bind]
   rw [sliceBound_run h0 (by omega)]; simp
def okO (n:Nat):Option Operand→Option Opd→Bool
 | none,none=>true
 | some x,some y=>okX n x y
 | _,_=>false
theorem lowOf_is {lo:Option Operand}{lo':Option Opd}{k:IntKind}{l:Int}(he:RelE K Q n e a.tmps)(hok:okO n lo lo'=true)(h:lowOf e lo' = .int k l):BoundIs (lo.map a.eval) 0 l:=by
 cases lo with
 | none=>
   cases lo' with
   | none=>simp [lowOf] at h; exact .inl ⟨rfl,h.2.symm⟩
   | some y=>simp [okO] at hok
 | some x=>
   cases lo' with
   | none=>simp [okO] at hok
   | some y=>
     simp only [lowOf] at h
     have:=okX_rel he hok
     rw [h] at this
     exact .inr ⟨k,by simp [this.int_inv]⟩
theorem highOf_is {str:Bool}{hi:Option Operand}{hi':Option Opd}{x:D}{k:IntKind}{h:Int}{len:Nat}(he:RelE K Q n e a.tmps)(hok:okO n hi hi'=true)
   (hh:highOf str e H x hi'=some (.int k h)) (hlen:∀ r,lenOf str H x=some r→r = .int .i64 len):BoundIs (hi.map a.eval) len h:=by
 cases hi with
 | none=>
   cases hi' with
   | none=>
     simp only [highOf] at hh
     have:=hlen _ hh
     injection this with _ e
     exact .inl ⟨rfl,e⟩
   | some y=>simp [okO] at hok
 | some x=>
   cases hi' with
   | none=>simp [okO] at hok
   | some y=>
     simp only [highOf,Option.some.injEq] at hh
     have:=okX_rel he hok
     rw [hh] at this
     exact .inr ⟨k,by simp [this.int_inv]⟩
theorem slcD_run (hs:Sim w0 K0 K Q H w){esz:Nat}{d r:D}{v:Value}{l h:Int}(hr:Rel K Q d v)(hd:slcD false esz H d l h=some r) :
   ∃ p len cap,v = .slice p len cap∧(∀ r',lenD H d=some r'→r' = .int .i64 len)∧0≤l∧l≤h∧h≤len∧len≤cap∧
     Rel K Q r (.slice (if cap=l.toNat then p else p.map (·.add (l.toNat * esz))) (h.toNat - l.toNat) (cap - l.toNat)):=by
 have hlen:∀ p len cap,v = .slice p len cap→∀ r',lenD H d=some r'→r' = .int .i64 len:=fun p len cap hv r' hr'=>by
   obtain ⟨p',n',c',hv',_,rfl⟩:=lenD_run hs hr hr'
   rw [hv] at hv'; injection hv' with _ e _; rw [e]
 cases hr with
 | fzNil nz z=>
   simp only [slcD] at hd
   split at hd<;>try (cases hd; done)
   rename_i hb
   simp only [Bool.and_eq_true,inc,decide_eq_true_eq,beq_iff_eq] at hb
   injection hd with hd; subst hd
   have h1:h=0:=by have:=hb.1.1; simp at this; omega
   have h2:l=0:=by have:=hb.1.2; rw [h1] at this; simp at this; omega
   subst h1; subst h2
   refine ⟨_,_,_,rfl,hlen _ _ _ rfl,by omega,by omega,by omega,by omega,?_⟩
   simpa [cut] using Rel.fzNil (K:=K) (Q:=Q) nz z
 | fzE z p c=>
   simp only [slcD] at hd
   split at hd<;>try (cases hd; done)
   rename_i hb
   simp only [Bool.and_eq_true,inc,decide_eq_true_eq,beq_iff_eq] at hb
   injection hd with hd; subst hd
   have h1:h=0:=by have:=hb.1.1; simp at this; omega
   have h2:l=0:=by have:=hb.1.2; rw [h1] at this; simp at this; omega
   subst h1; subst h2
   refine ⟨_,_,_,rfl,hlen _ _ _ rfl,by omega,by omega,by omega,by omega,?_⟩
   simpa [cut] using Rel.fzE (K:=K) (Q:=Q) z _ _
 | @fz nz z xs B o' cap hn hrow hc hx=>
   simp only [slcD] at hd
   split at hd<;>try (cases hd; done)
   rename_i hb
   simp only [Bool.and_eq_true,inc,decide_eq_true_eq,beq_iff_eq] at hb
   obtain ⟨⟨⟨h1,h2⟩,h3,h4⟩,rfl⟩:=hb
   injection hd with hd; subst hd
   have hemp:(nz && xs.isEmpty)=false:=by
     cases xs with
     | nil=>exact absurd rfl hn
     | cons=>simp
   rw [hemp]
   refine ⟨_,_,_,rfl,hlen _ _ _ rfl,h3,by omega,by omega,hc,?_⟩
   by_cases hz:h.toNat - l.toNat=0
   · rw [hz]
     have:cut xs l.toNat 0=[]:=by simp [cut]
     rw [this]; exact .fzE _ _ _
   · rw [if_neg (by omega)]
     have hlen:(cut xs l.toNat (h.toNat - l.toNat)).length=h.toNat - l.toNat:=cut_length (by omega)
     have hne:cut xs l.toNat (h.toNat - l.toNat)≠[]:=fun e=>by rw [e] at hlen; simp at hlen; omega
     have:=Rel.fz (K:=K) (Q:=Q) (nz:=false) (B:=B) (o:=o' + l.toNat * z) (cap:=cap - l.toNat) hne (RelRow.of_get fun i d hd=>by
       have:=hrow.get (cut_get hd).1
       rwa [Nat.add_mul,←Nat.add_assoc] at this) (by rw [hlen]; omega) (cut_closed hx)
     rw [hlen] at this
     simpa [add_at] using this
 | @owNil b1 nz1 esz1 hk=>
   simp only [slcD] at hd
   split at hd<;>try (cases hd; done)
   rename_i hx
   have hrl:=hs.row_len hx hk
   simp at hrl
   split at hd<;>try (cases hd; done)
   rename_i hb
   simp only [Bool.and_eq_true,inc,decide_eq_true_eq,beq_iff_eq] at hb
   injection hd with hd; subst hd
   have h1:h=0:=by have:=hb.1.1; rw [←hrl.2.2] at this; simp at this; omega
   have h2:l=0:=by have:=hb.1.2; rw [h1] at this; simp at this; omega
   subst h1; subst h2
   refine ⟨_,_,_,rfl,hlen _ _ _ rfl,by omega,by omega,by omega,by omega,?_⟩
   simpa using Rel.winNil (K:=K) (Q:=Q) hk
 | @ow b1 B1 base1 tot1 nz1 esz1 len1 cap1 a1 hk hl ht ha=>
   simp only [slcD] at hd
   split at hd<;>try (cases hd; done)
   rename_i hx
   have hrl:=hs.row_len hx hk
   simp at hrl
   split at hd<;>try (cases hd; done)
   rename_i hb
   simp only [Bool.and_eq_true,inc,decide_eq_true_eq,beq_iff_eq] at hb
   obtain ⟨⟨⟨h1,h2⟩,h3,h4⟩,hz⟩:=hb
   injection hd with hd; subst hd
   rw [←hrl.2.2] at h2
   have hee:esz1=esz:=by rw [←hz]; exact hrl.2.1
   subst hee
   refine ⟨_,_,_,rfl,hlen _ _ _ rfl,h3,by omega,by omega,hl,?_⟩
   have hpt:(if cap1=l.toNat then some a1 else (some a1).map (·.add (l.toNat * esz1)))=some (if cap1=l.toNat then a1 else a1.add (l.toNat * esz1)):=by
     split<;>simp
   rw [hpt]
   refine .win hk (by omega) (by omega) ?_ fun hne=>by rw [if_neg (by omega),ha (by omega),add_at]
   rwa [show l.toNat + (cap1 - l.toNat)=cap1 by omega]
 | @winNil b1 nz1 esz1 hk=>
   simp only [slcD] at hd
   split at hd<;>try (cases hd; done)
   split at hd<;>try (cases hd; done)
   rename_i hb
   simp only [Bool.and_eq_true,inc,decide_eq_true_eq,beq_iff_eq] at hb
   injection hd with hd; subst hd
   have h1:h=0:=by have:=hb.1.1; simp at this; omega
   have h2:l=0:=by have:=hb.1.2; rw [h1] at this; simp at this; omega
   subst h1; subst h2
   refine ⟨_,_,_,rfl,hlen _ _ _ rfl,by omega,by omega,by omega,by omega,?_⟩
   simpa using Rel.winNil (K:=K) (Q:=Q) hk
 | @win b1 B1 base1 tot1 nz1 esz1 len1 cap1 off1 l1 a1 hk hl ho ht ha=>
   simp only [slcD] at hd
   split at hd<;>try (cases hd; done)
   rename_i hx
   have hrl:=hs.row_len hx hk
   simp at hrl
   split at hd<;>try (cases hd; done)
   rename_i hb
   simp only [Bool.and_eq_true,inc,decide_eq_true_eq,beq_iff_eq] at hb
   obtain ⟨⟨⟨h1,h2⟩,h3,h4⟩,hz⟩:=hb
   injection hd with hd; subst hd
   have hee:esz1=esz:=by rw [←hz]; exact hrl.2.1
   subst hee
   refine ⟨_,_,_,rfl,hlen _ _ _ rfl,h3,by omega,by omega,hl,?_⟩
   have hpt:(if cap1=l.toNat then some a1 else (some a1).map (·.add (l.toNat * esz1)))=some (if cap1=l.toNat then a1 else a1.add (l.toNat * esz1)):=by
     split<;>simp
   rw [hpt]
   refine .win hk (by omega) (by omega) ?_ fun hne=>?_
   · rwa [show off1 + l.toNat + (cap1 - l.toNat)=off1 + cap1 by omega]
   · rw [if_neg (by omega),ha (by omega),add_at,Nat.add_mul,Nat.add_assoc]
 | _=>simp [slcD] at hd
theorem op_slc {t:TypeId}{str:Bool}{esz:Nat}{x:Operand}{x':Opd}{lo hi:Option Operand}{lo' hi':Option Opd}{k j:IntKind}{l h:Int}{d:D}(ho:o.op = .slice t x lo hi none)
   (ht:if str then P.underlying t=some .string else ∃ el,P.underlying t=some (.slice el)∧sizeT P el=some esz) (h1:okX n x x'=true)
   (hlo:okO n lo lo'=true) (hhi:okO n hi hi'=true)
   (hl:lowOf e lo' = .int k l) (hh:highOf str e H (rho e x') hi'=some (.int j h)) (hd:slcD str esz H (rho e x') l h=some d)
   (hs:Sim w0 K0 K Q H w) (he:RelE K Q n e a.tmps):OpOk P w0 K0 K Q w n o a d e H:=by
 have hx:=okX_rel he h1
 have hbl:=lowOf_is he hlo hl
 cases str with
 | true=>
   have ht:P.underlying t=some .string:=by simpa using ht
   simp only [slcD] at hd
   split at hd<;>try (cases hd; done)
   rename_i s hsx
   split at hd<;>try (cases hd; done)
   rename_i hb
   simp only [Bool.and_eq_true,inc,decide_eq_true_eq] at hb
   injection hd with hd; subst hd
   have hbh:=highOf_is (len:=s.size) he hhi hh (fun r hr=>by simp [lenOf,hsx] at hr; exact hr.symm)
   rw [hsx] at hx
   have ex:=hx.str_inv
   refine .val hs he (v:=.string (s.extract l.toNat h.toNat)) ?_ (.str _)
   simp only [execOp,ho,Instr.sliceAt,Sem.run_bind,Go.run_underlying ht,Result.andThen_ok,Instr.slice,ex,Option.map_none,Option.isSome_none,Bool.false_eq_true,if_false,Sem.run_pure]
   rw [sliceBounds_run hbl hbh (by omega) (by omega) (by omega)]
   rfl
 | false=>
   obtain ⟨el,ht,hsz⟩:=ht
   obtain ⟨p,len,cap,hv,hlen,g0,g1,g2,g3,hr⟩:=slcD_run hs hx hd
   have hbh:=highOf_is (len:=len) he hhi hh hlen
   refine .val hs he ?_ hr
   simp only [execOp,ho,Instr.sliceAt,Sem.run_bind,Go.run_underlying ht,Result.andThen_ok,Instr.slice,hv,Option.map_none]
   rw [sliceBounds_run hbl hbh g0 g1 (by omega)]
   simp only [Result.andThen_ok,run_sizeT hsz,Sem.run_pure]
theorem seg_get {α:Type}(V C:List α)(o z k:Nat)(h:C.length=z)(ho:o + z≤V.length):(V.take o ++ C ++ V.drop (o + z))[k]?=if k < o then V[k]? else if k < o + z then C[k - o]? else V[k]?:=by
 have hl:(V.take o).length=o:=by simp; omega
 by_cases h1:k < o
 · rw [if_pos h1,List.append_assoc,List.getElem?_append_left (by omega),List.getElem?_take_of_lt h1]
 · rw [if_neg h1,List.append_assoc,List.getElem?_append_right (by omega),hl]
   by_cases h2:k < o + z
   · rw [if_pos h2,List.getElem?_append_left (by omega)]
   · rw [if_neg h2,List.getElem?_append_right (by omega),List.getElem?_drop]
     congr 1; omega
theorem closedL_app {l m:List D}(h:closedL l=true)(h':closedL m=true):closedL (l ++ m)=true:=
 closedL_iff.2 fun d hd=>by
   rcases List.mem_append.1 hd with hd | hd
   · exact closedL_mem h hd
   · exact closedL_mem h' hd
theorem closedL_take {l:List D}(n:Nat)(h:closedL l=true):closedL (l.take n)=true:=closedL_iff.2 fun d hd=>closedL_mem h (List.mem_of_mem_take hd)
theorem closedL_drop {l:List D}(n:Nat)(h:closedL l=true):closedL (l.drop n)=true:=closedL_iff.2 fun d hd=>closedL_mem h (List.mem_of_mem_drop hd)
theorem agLike_cells {el v:D}{off z:Nat}(hz:(cellsOf v).length=z)(hs:solidL (cellsOf v)=true)(hle:off + z≤(cellsOf el).length) :
   cellsOf (agLike el ((cellsOf el).take off ++ cellsOf v ++ (cellsOf el).drop (off + z)))=(cellsOf el).take off ++ cellsOf v ++ (cellsOf el).drop (off + z):=by
 cases hel:el with
 | agg l=>simp [agLike,cellsOf]
 | _ =>
   rw [hel] at hle
   simp only [cellsOf,List.length_singleton] at hle
   by_cases h0:z=0
   · subst h0
     have:cellsOf v=[]:=List.eq_nil_of_length_eq_zero hz
     rw [this]
     have:off=0∨off=1:=by omega
     rcases this with rfl | rfl<;>simp [cellsOf,agLike]
   · have h1:z=1:=by omega
     have h2:off=0:=by omega
     subst h1; subst h2
     obtain ⟨c,hc⟩:=List.length_eq_one_iff.1 hz
     rw [hc] at hs ⊢
     have hcs:solid c=true:=by simpa [solidL] using hs
     cases c<;>simp_all [solid,cellsOf,agLike]
theorem agLike_closed {el:D}{l:List D}(h:closedL l=true)(he:closed el=true):closed (agLike el l)=true:=by
 cases el<;>simp only [agLike]<;>first
   | (split
      · simp only [closedL,Bool.cond_false_right,Bool.and_eq_true] at h; exact h.1
      · exact he)
   | simpa [closed] using h
theorem storeVar_run {t:TypeId}{v:Value}{B o':Nat}{vs:Array Value}{ty:TypeId}(hz:sizeT P t=some v.cells.size)(hh:w.heap[B]?=some (.cells vs ty (0,0)))(hl:o' + v.cells.size≤vs.size)(h1:∀ u∈v.cells,u.oneCell'=true) :
   (storeVar t ⟨B,o',none⟩ v).run P w = .ok () (w.setRow B (vs.toList.take o' ++ v.cells.toList ++ vs.toList.drop (o' + v.cells.size)).toArray):=by
 simp only [storeVar,Sem.run_bind,run_sizeT hz,Result.andThen_ok,ne_eq,not_true_eq_false,if_false]
 have:=run_storeCells_at P B o' ty v.cells.toList 0 vs w hh (by simpa using hl) (fun u hu=>h1 u (by simpa using hu))
 simpa using this
theorem Rel.cells {d:D}{v:Value}(h:Rel K Q d v)(hd:solidL (cellsOf d)=true):RelL K Q (cellsOf d) v.cells.toList∧∀ u∈v.cells,u.oneCell'=true:=by
 cases d with
 | agg cs=>
   obtain ⟨vs,rfl,hl⟩:=h.agg_inv
   refine ⟨by simpa [Value.cells,cellsOf] using hl,fun u hu=>?_⟩
   exact hl.one (by simpa [cellsOf] using hd) u (by simpa [Value.cells] using hu)
 | _=>
   have h1:v.oneCell'=true:=h.one (by simpa [cellsOf,solidL] using hd)
   have hc:v.cells = #[v]:=by cases v<;>first | rfl | (simp [Value.oneCell'] at h1)
   rw [hc]
   exact ⟨.cons h .nil,fun u hu=>by simp at hu; subst hu; exact h1⟩
theorem op_st {t:TypeId}{sz:Nat}{x y:Operand}{x' y':Opd}{H':Heap}(ho:o.op = .store t x y)(hsz:sizeT P t=some sz)(h1:okX n x x'=true)(h2:okX n y y'=true)(hd:stD H sz (rho e x') (rho e y')=some H')
   (hs:Sim w0 K0 K Q H w) (he:RelE K Q n e a.tmps):OpOk P w0 K0 K Q w n o a .dead e H':=by
 have rx:=okX_rel he h1
 have ry:=okX_rel he h2
 unfold stD at hd
 split at hd<;>try (cases hd; done)
 rename_i hb
 simp only [Bool.and_eq_true,beq_iff_eq,clen_eq] at hb
 obtain ⟨hlen,hsol⟩:=hb
 obtain ⟨hcl,h1c⟩:=ry.cells hsol
 have hcs:(a.eval y).cells.size=sz:=by rw [←hlen,hcl.length]; simp
 have fin:∀ {B o':Nat} {vs:Array Value} {ty:TypeId} {b base tot:Nat} {k:Option (Bool×Nat×Nat)} {z y':Blk},a.eval x=pt B o'→w.heap[B]?=some (.cells vs ty (0,0))→o' + sz≤vs.size→hget H b=some z→K b=some ⟨some (B,base,tot),k⟩→
     (∀ j v,Q B j=some v→∀ new:Array Value,new=(vs.toList.take o' ++ (a.eval y).cells.toList ++ vs.toList.drop (o' + sz)).toArray→new[j]?=vs[j]?)→
     (∀ w':World,w'.heap[B]?=some (.cells (vs.toList.take o' ++ (a.eval y).cells.toList ++ vs.toList.drop (o' + sz)).toArray ty (0,0))→BlkOk K Q w' b y')→(isClean y'=true→isClean z=true)→OpOk P w0 K0 K Q w n o a .dead e (hset H b y'):=by
   intro B o' vs ty b base tot k z y' hv hh hle hz hk hq hnew hclean
   refine ⟨K,Q,w.setRow B (vs.toList.take o' ++ (a.eval y).cells.toList ++ vs.toList.drop (o' + sz)).toArray,undef,.inr ⟨?_,rfl⟩,?_,he,.dead _,fun _ _ _ h=>h⟩
   · simp only [execOp,ho,Instr.storeAt,hv,Sem.run_bind,Instr.sureAddr,Sem.run_pure,Result.andThen_ok]
     rw [storeVar_run (P:=P) (by rw [hcs]; exact hsz) hh (by rw [hcs]; exact hle) h1c,hcs]
     rfl
   · have hg:=setRow_heap w B vs (vs.toList.take o' ++ (a.eval y).cells.toList ++ vs.toList.drop (o' + sz)).toArray ty (0,0) hh
     refine hs.write hz hk (fun k hk=>setRow_other w B k _ hk) (by simp) rfl rfl rfl (fun j v hj=>?_) (hnew _ hg) hclean
     obtain ⟨g1,g2⟩:=(hs.val B j v hj).cell hh
     refine .inl ⟨?_,g2⟩
     rw [cell_of_heap hg,hq j v hj _ rfl,←cell_of_heap hh]; exact g1
 split at hd<;>try (cases hd; done)
 ·
   rename_i b off hx
   split at hd<;>try (cases hd; done)
   rename_i cs hbx
   split at hd<;>try (cases hd; done)
   rename_i cs' hp
   injection hd with hd; subst hd
   obtain ⟨h3,h4⟩:=putAt_eq _ _ _ _ hp
   rw [hlen] at h3 h4
   rw [hx] at rx
   obtain ⟨B,tot,hv,hk⟩:=rx.ptr_inv
   obtain ⟨B',vs,ty,g1,g2,g3,g4,g5,g6⟩:=hs.blk b _ hbx
   have hk0:=hk
   rw [g1] at hk; injection hk with hk; injection hk with hk; injection hk with hk; injection hk with e1 _; subst e1
   have hvs:vs.size=cs.length:=by rw [g3.length]; simp
   refine fin hv g2 (by omega) hbx hk0 (fun j v hj=>by rw [g5] at hj; simp at hj) (fun w' hw'=>?_) (fun _=>rfl)
   have hsz':(vs.toList.take off ++ (a.eval y).cells.toList ++ vs.toList.drop (off + sz)).toArray.size=vs.size:=by simp; omega
   refine ⟨B',_,ty,by rw [hsz']; exact g1,hw',?_,fun u hu=>?_,fun j=>by rw [g5]; simp,fun h=>by cases h⟩
   · rw [h3]
     simpa using ((g3.take off).app hcl).app (g3.drop (off + sz))
   · simp only [List.append_assoc,List.mem_toArray,List.mem_append] at hu
     rcases hu with hu | hu | hu
     · exact g4 u (by simpa using List.mem_of_mem_take hu)
     · exact h1c u (by simpa using hu)
     · exact g4 u (by simpa using List.mem_of_mem_drop hu)
 ·
   rename_i b i off hx
   split at hd<;>try (cases hd; done)
   rename_i nz esz xs pr dy hbx
   split at hd<;>try (cases hd; done)
   rename_i el hcond hel
   split at hd<;>try (cases hd; done)
   rename_i cs' hp
   injection hd with hd; subst hd
   simp only [Bool.and_eq_true,decide_eq_true_eq] at hcond
   obtain ⟨h3,h4⟩:=putAt_eq _ _ _ _ hp
   rw [hlen] at h3 h4
   rw [hx] at rx
   obtain ⟨B,base,tot,nz',esz',len',hv,hk,hi⟩:=rx.ep_inv
   obtain ⟨r1,r2,r3,r4⟩:=hs.blk b _ hbx
   rcases r4 with ⟨g1,_⟩ | ⟨B',base',vs,ty,g1,g2,g3,g4,g5,g6,g7⟩
   · rw [hk] at g1; injection g1 with g1; injection g1 with g1; cases g1
   · have hk0:=hk
     rw [g1] at hk; injection hk with hk; injection hk with e1 e2; injection e1 with e1; injection e1 with e1 e3; injection e3 with e3 _; injection e2 with e2; injection e2 with e2 e4; injection e4 with e4 e5
     subst e1; subst e2; subst e3; subst e4; subst e5
     have hmem:=List.mem_of_getElem? hel
     have hell:=r2 el hmem
     have hel_lt:i < xs.length:=hi
     have hmul:(i + 1) * esz≤xs.length * esz:=Nat.mul_le_mul_right _ hel_lt
     rw [Nat.add_mul] at hmul
     have hpm:pr * esz≤i * esz:=Nat.mul_le_mul_right _ hcond.1
     rw [hell] at h4
     refine fin (o':=base' + i * esz + off) hv g3 (by omega) hbx hk0 (fun j v hj new hnw=>?_) (fun w' hw'=>?_) (fun h=>by simpa [isClean] using h)
     · have hj':j < base' + pr * esz:=by
         rcases Nat.lt_or_ge j (base' + pr * esz) with h | h
         · exact h
         · rw [g6 j h] at hj; cases hj
       subst hnw
       have:j < base' + i * esz + off:=by omega
       simp only [List.getElem?_toArray,List.append_assoc]
       rw [List.getElem?_append_left (by simp; omega),List.getElem?_take_of_lt this]
       simp
     · have hsz':(vs.toList.take (base' + i * esz + off) ++ (a.eval y).cells.toList ++ vs.toList.drop (base' + i * esz + off + sz)).toArray.size=vs.size:=by simp; omega
       have hcel:=agLike_cells hlen hsol (by rw [hell]; exact h4)
       rw [←h3] at hcel
       have hclel:closedL (cellsOf el)=true:=cellsOf_closed (closedL_mem r1 hmem)
       have hclv:closedL (cellsOf (rho e y'))=true:=cellsOf_closed hcond.2
       have hcl3:closedL cs'=true:=by rw [h3]; exact closedL_app (closedL_app (closedL_take _ hclel) hclv) (closedL_drop _ hclel)
       have hcd:=agLike_closed hcl3 (closedL_mem r1 hmem)
       have hlen3:cs'.length=esz:=by rw [h3]; simp; omega
       have hnz:nz=true→xs.set i (agLike el cs')≠[]:=fun _ hh=>by
         have:=congrArg List.length hh
         simp at this; rw [this] at hel_lt; simp at hel_lt
       have hvl:(a.eval y).cells.toList.length=sz:=by rw [←hlen,hcl.length]
       refine ⟨closedL_iff.2 fun d hd=>?_,fun d hd=>?_,by simpa using r3,.inr ⟨B',base',_,ty,by rw [hsz']; simpa using g1,hnz,hw',by rw [hsz']; simpa using g4,fun i' d hd j c hc=>?_,g6,fun j hj1 hj2=>?_⟩⟩
       · rcases List.mem_or_eq_of_mem_set hd with hd | rfl
         · exact closedL_mem r1 hd
         · exact hcd
       · rcases List.mem_or_eq_of_mem_set hd with hd | rfl
         · exact r2 d hd
         · rw [hcel]; exact hlen3
       · rw [List.getElem?_set] at hd
         simp only [List.getElem?_toArray]
         rw [seg_get _ _ _ _ _ hvl (by simp; omega)]
         by_cases hii:i=i'
         · subst hii
           simp only [hel_lt,if_true,Option.some.injEq] at hd
           subst hd
           rw [hcel,h3,seg_get _ _ _ _ _ hlen (by rw [hell]; exact h4)] at hc
           by_cases c1:j < off
           · rw [if_pos c1] at hc
             rw [if_pos (by omega)]
             simpa using g5 i el hel j c hc
           · rw [if_neg c1] at hc
             rw [if_neg (by omega)]
             by_cases c2:j < off + sz
             · rw [if_pos c2] at hc
               rw [if_pos (by omega)]
               obtain ⟨u,hu,hru⟩:=hcl.get hc
               refine ⟨u,by rw [←hu]; congr 1; omega,hru,h1c u ?_⟩
               have:=List.mem_of_getElem? hu
               simpa using this
             · rw [if_neg c2] at hc
               rw [if_neg (by omega)]
               simpa using g5 i el hel j c hc
         · rw [if_neg hii] at hd
           have hjl:j < esz:=by
             have:=(List.getElem?_eq_some_iff.1 hc).1
             rwa [r2 d (List.mem_of_getElem? hd)] at this
           have:=g5 i' d hd j c hc
           rcases Nat.lt_or_gt_of_ne hii with hlt | hgt
           · have:(i + 1) * esz≤i' * esz:=Nat.mul_le_mul_right _ hlt
             rw [Nat.add_mul] at this
             rw [if_neg (by omega),if_neg (by omega)]
             simpa using g5 i' d hd j c hc
           · have:(i' + 1) * esz≤i * esz:=Nat.mul_le_mul_right _ hgt
             rw [Nat.add_mul] at this
             rw [if_pos (by omega)]
             simpa using g5 i' d hd j c hc
       · rw [g7 j hj1 hj2]
         simp only [List.getElem?_toArray]
         rw [seg_get _ _ _ _ _ hvl (by simp; omega),if_pos (by omega)]
         simp
end
end Gs
namespace Gs
open Go
variable [GlobTab]
section
variable {P:Program} {w0:World0} {w:World} {K0 K:Km} {Q Q':Pm} {H:Heap} {n:Nat} {e:Env} {a:Act} {o:Oper}
theorem heap_alloc_lt {w:World}{x:Obj}{k:Nat}(h:k < w.heap.size):(w.alloc x).heap[k]?=w.heap[k]?:=by
 show (w.heap.push x)[k]?=_
 rw [Array.getElem?_push,if_neg (by omega)]
theorem heap_alloc_new {w:World}{x:Obj} : (w.alloc x).heap[w.heap.size]?=some x:=by
 show (w.heap.push x)[w.heap.size]?=_
 rw [Array.getElem?_push,if_pos rfl]
theorem Kept.alloc (h:Kept w0 K0 w)(x:Obj):Kept w0 K0 (w.alloc x):=
 ⟨h.os,h.tape,h.output,by have:=h.size; show _≤(w.heap.push x).size; rw [Array.size_push]; omega,fun k hk hn=>by rw [heap_alloc_lt (by have:=h.size; omega)]; exact h.block k hk hn,h.drawn⟩
theorem Core.lt (hs:Core K Q H w){c B o n:Nat}{j:Bi}(hk:K c=some j)(hl:j.loc=some (B,o,n)):B < w.heap.size:=by
 obtain ⟨x,hx⟩:=hs.dom c j hk
 have:=hs.blk c x hx
 cases x with
 | itr s pos=>
   obtain ⟨B',h1,h2,_⟩:=this
   rw [hk] at h1; injection h1 with h1; rw [h1] at hl; injection hl with hl; injection hl with e _; subst e
   exact (Array.getElem?_eq_some_iff.1 h2).1
 | box cs fr=>
   obtain ⟨B',vs,t,h1,h2,_⟩:=this
   rw [hk] at h1; injection h1 with h1; rw [h1] at hl; injection hl with hl; injection hl with e _; subst e
   exact (Array.getElem?_eq_some_iff.1 h2).1
 | mapB cs fr=>
   obtain ⟨B',es,cl,h1,h2,_⟩:=this
   rw [hk] at h1; injection h1 with h1; rw [h1] at hl; injection hl with hl; injection hl with e _; subst e
   exact (Array.getElem?_eq_some_iff.1 h2).1
 | row nz esz xs p d=>
   obtain ⟨_,_,_,h | ⟨B',base,vs,t,h1,_,h2,_⟩⟩:=this
   · rw [h.1] at hk; injection hk with hk; rw [←hk] at hl; cases hl
   · rw [hk] at h1; injection h1 with h1; rw [h1] at hl; injection hl with hl; injection hl with e _; subst e
     exact (Array.getElem?_eq_some_iff.1 h2).1
theorem Core.qlt (hs:Core K Q H w){B o:Nat}{v:Value}(h:Q B o=some v):B < w.heap.size:=(hs.val B o v h).lt
theorem Core.qnew (hs:Core K Q H w)(o:Nat):Q w.heap.size o=none:=by
 cases h:Q w.heap.size o with
 | none=>rfl
 | some v=>exact absurd (hs.qlt h) (Nat.lt_irrefl _)
theorem Sim.fresh (hs:Sim w0 K0 K Q H w)(vs:Array Value)(t:TypeId)(h1:∀ v∈vs,v.oneCell'=true) :
   ∃ Q',Le Q Q'∧Sim w0 K0 K Q' H (w.alloc (.cells vs t))∧∀ o,Q' w.heap.size o=vs[o]?:=by
 let Q':Pm:=fun B o=>if B=w.heap.size then vs[o]? else Q B o
 have hq:Le Q Q':=fun B o v h=>by
   have:=hs.toCore.qlt h
   simp only [Q']
   rw [if_neg (by omega)]; exact h
 have hne:∀ B,B < w.heap.size→∀ o,Q' B o=Q B o:=fun B hB o=>by simp only [Q']; rw [if_neg (by omega)]
 refine ⟨Q',hq,⟨⟨fun B o v h=>?_,fun b x hx=>?_,hs.dom,hs.inj⟩,hs.kept.alloc _,hs.low,hs.clean,fun B hB hn o=>by rw [hne B (by have:=hs.kept.size; omega)]; exact hs.qk B hB hn o,fun B o v h=>hq B o v (hs.grow B o v h)⟩,fun o=>by simp [Q']⟩
 · by_cases e:B=w.heap.size
   · subst e
     simp only [Q',if_true] at h
     exact .inl ⟨by rw [cell_of_heap heap_alloc_new]; exact h,h1 v (Array.mem_of_getElem? h)⟩
   · simp only [Q'] at h
     rw [if_neg e] at h
     exact (hs.val B o v h).congr (heap_alloc_lt (hs.toCore.qlt h))
 · exact (hs.blk b x hx).heap (fun _ h=>h) (fun _ _ h _=>h) (fun B o n k h=>heap_alloc_lt (hs.toCore.lt h rfl)) hq fun B o n k h=>hne B (hs.toCore.lt h rfl)
theorem Sim.newBlk (hs:Sim w0 K0 K Q H w){b:Nat}{y:Blk}{vs:Array Value}{t:TypeId}{k:Option (Bool×Nat×Nat)}(hb:hget H b=none)(pr:Nat)(h1:∀ v∈vs,v.oneCell'=true)
   (hnew:∀ (Q':Pm),Le Q Q'→(∀ o,Q' w.heap.size o=if o < pr then vs[o]? else none)→BlkOk (updK K b ⟨some (w.heap.size,0,vs.size),k⟩) Q' (w.alloc (.cells vs t)) b y) (hcl:b < 500000∨isClean y=false) :
   ∃ Q',Le Q Q'∧Sim w0 K0 (updK K b ⟨some (w.heap.size,0,vs.size),k⟩) Q' (hset H b y) (w.alloc (.cells vs t))∧∀ c i,K c=some i→updK K b ⟨some (w.heap.size,0,vs.size),k⟩ c=some i:=by
 let Q':Pm:=fun B o=>if B=w.heap.size then (if o < pr then vs[o]? else none) else Q B o
 have hq:Le Q Q':=fun B o v h=>by
   have:=hs.toCore.qlt h
   simp only [Q']
   rw [if_neg (by omega)]; exact h
 have hne:∀ B,B < w.heap.size→∀ o,Q' B o=Q B o:=fun B hB o=>by simp only [Q']; rw [if_neg (by omega)]
 have hn:=hs.toCore.absent hb
 refine ⟨Q',hq,?_,fun c i h=>?_⟩
 · refine hs.add hb (hs.kept.alloc _) hq (fun c j B o n hk hl=>hne B (hs.toCore.lt hk hl)) (fun B o v h=>?_) (fun c j B o n hk hl=>heap_alloc_lt (hs.toCore.lt hk hl)) (fun B o n c j o' n' hi hk hl=>?_) (fun B o n hi=>?_) (fun B hB o=>hne B (by have:=hs.kept.size; omega) o) (hnew Q' hq fun o=>by simp [Q']) hcl
   · by_cases e:B=w.heap.size
     · subst e
       simp only [Q',if_true] at h
       split at h
       · exact .inl ⟨by rw [cell_of_heap heap_alloc_new]; exact h,h1 v (Array.mem_of_getElem? h)⟩
       · cases h
     · simp only [Q'] at h
       rw [if_neg e] at h
       exact (hs.val B o v h).congr (heap_alloc_lt (hs.toCore.qlt h))
   · injection hi with hi; injection hi with e _
     have:=hs.toCore.lt hk hl
     omega
   · injection hi with hi; injection hi with e _
     exact .inr (by have:=hs.kept.size; omega)
 · by_cases e:c=b
   · subst e; rw [hn] at h; cases h
   · rw [updK_ne _ _ e]; exact h
theorem newVar_run {t:TypeId}{v:Value} : (newVar t v).run P w = .ok ⟨w.heap.size,0,none⟩ (w.alloc (.cells v.cells t)):=by
 simp [newVar,newRow]
theorem boxUp {t:TypeId}{b:Nat}{d:D}{v:Value}(hr:Rel K Q d v)(hsol:solidL (cellsOf d)=true)(hb:hget H b=none)(hlt:b < 500000)(hs:Sim w0 K0 K Q H w)(he:RelE K Q n e a.tmps) :
   ∃ K' Q',Sim w0 K0 K' Q' (hset H b (.box (cellsOf d) false)) (w.alloc (.cells v.cells t))∧RelE K' Q' n e a.tmps∧Rel K' Q' (.ptr b 0) (pt w.heap.size 0)∧Le Q Q':=by
 obtain ⟨hl,h1⟩:=hr.cells hsol
 obtain ⟨Q',hq,hs',hk⟩:=hs.newBlk (y:=.box (cellsOf d) false) (vs:=v.cells) (t:=t) (k:=none) hb 0 h1 (fun Q' hq hn=>⟨w.heap.size,v.cells,t,updK_same _ _ _,heap_alloc_new,hl.mono (fun c i h=>by
   by_cases e:c=b
   · subst e; rw [hs.toCore.absent hb] at h; cases h
   · rw [updK_ne _ _ e]; exact h) hq,h1,fun o=>by rw [hn]; simp,fun h=>by cases h⟩) (.inl hlt)
 exact ⟨_,Q',hs',he.mono hk hq,.ptr _ (updK_same _ _ _),hq⟩
theorem smallL_one {b:Nat}(h:smallL [b]=true):b < 500000:=by simpa [smallL] using h
theorem op_box {t:TypeId}{x:Operand}{x':Opd}{b:Nat}(ho:o.op = .box t x)(h1:okX n x x'=true)(hb:noMem (idsOf H) [b]=true)(hlt:smallL [b]=true)(hsol:solidL (cellsOf (rho e x'))=true)
   (hs:Sim w0 K0 K Q H w) (he:RelE K Q n e a.tmps):OpOk P w0 K0 K Q w n o a (.ptr b 0) e (hset H b (.box (cellsOf (rho e x')) false)):=by
 obtain ⟨K',Q',g1,g2,g3,g4⟩:=boxUp (t:=t) (okX_rel he h1) hsol (noMem_one hb) (smallL_one hlt) hs he
 refine ⟨K',Q',_,_,.inl ?_,g1,g2,g3,g4⟩
 simp only [execOp,ho,Instr.box,Sem.run_bind,newVar_run,Result.andThen_ok,Sem.run_pure]
theorem op_alloc {t:TypeId}{d:D}{z:Value}{b:Nat}(ho:o.op = .alloc t)(hz:zeroT P t=some z)(h1:okC d z=true)(hb:noMem (idsOf H) [b]=true)(hlt:smallL [b]=true)(hsol:solidL (cellsOf d)=true)
   (hs:Sim w0 K0 K Q H w) (he:RelE K Q n e a.tmps):OpOk P w0 K0 K Q w n o a (.ptr b 0) e (hset H b (.box (cellsOf d) false)):=by
 obtain ⟨K',Q',g1,g2,g3,g4⟩:=boxUp (t:=t) (okC_rel d z h1) hsol (noMem_one hb) (smallL_one hlt) hs he
 refine ⟨K',Q',_,_,.inl ?_,g1,g2,g3,g4⟩
 simp only [execOp,ho,Instr.alloc,Sem.run_bind,run_zeroT hz,Result.andThen_ok,newVar_run,Sem.run_pure]
theorem elems_run (hs:Sim w0 K0 K Q H w){esz:Nat}{d:D}{v:Value}{xs:List D}(hr:Rel K Q d v)(hd:elems H esz d=some xs) :
   ∃ p len cap cells,v = .slice p len cap∧len=xs.length∧len≤cap∧(Builtin.firstCells esz len v).run P w = .ok cells w∧cells.size=len * esz∧closedL xs=true∧Shaped esz xs∧Elems K Q cells 0 esz xs∧(∀ u∈cells,u.oneCell'=true):=by
 have key:∀ (B b0 len cap:Nat) (xs:List D),len=xs.length→len≤cap→closedL xs=true→Shaped esz xs→
     (∀ (i:Nat) (d:D),xs[i]?=some d→∀ (j:Nat) (c:D),(cellsOf d)[j]?=some c→∃ u,w.cell? ⟨B,b0 + i * esz + j,none⟩=some u∧Rel K Q c u∧u.oneCell'=true)→
     ∃ cells,(Builtin.firstCells esz len (.slice (some ⟨B,b0,none⟩) len cap)).run P w = .ok cells w∧cells.size=len * esz∧Elems K Q cells 0 esz xs∧(∀ u∈cells,u.oneCell'=true):=by
   intro B b0 len cap xs hlen hc hcl hsh hcell
   have hall:∀ j,j < len * esz→∃ u,w.cell? ⟨B,b0 + j,none⟩=some u∧u.oneCell'=true∧∀ (i j':Nat) (d c:D),j=i * esz + j'→xs[i]?=some d→(cellsOf d)[j']?=some c→Rel K Q c u:=by
     intro j hj
     have hez:0 < esz:=Nat.pos_of_ne_zero fun h=>by rw [h] at hj; omega
     have hi:j / esz < xs.length:=by rw [Nat.div_lt_iff_lt_mul hez,←hlen]; exact hj
     have hjj:j % esz < (cellsOf xs[j / esz]).length:=by rw [hsh _ (List.getElem_mem hi)]; exact Nat.mod_lt _ hez
     obtain ⟨u,hu,hru,h1⟩:=hcell (j / esz) _ (List.getElem?_eq_getElem hi) (j % esz) _ (List.getElem?_eq_getElem hjj)
     have hdm:j / esz * esz + j % esz=j:=by have:=Nat.div_add_mod j esz; rw [Nat.mul_comm] at this; exact this
     refine ⟨u,by rw [←hu]; congr 2; omega,h1,fun i j' d c hij hd hc=>?_⟩
     have hj':j' < esz:=by rw [←hsh d (List.mem_of_getElem? hd)]; exact (List.getElem?_eq_some_iff.1 hc).1
     have e1:j / esz=i:=by rw [hij,Nat.mul_comm,Nat.mul_add_div hez,Nat.div_eq_of_lt hj']; omega
     have e2:j % esz=j':=by rw [hij,Nat.mul_comm,Nat.mul_add_mod,Nat.mod_eq_of_lt hj']
     subst e1; subst e2
     rw [List.getElem?_eq_getElem hi] at hd; injection hd with hd; subst hd
     rw [List.getElem?_eq_getElem hjj] at hc; injection hc with hc; subst hc
     exact hru
   have hf:∃ f:Nat→Value,∀ j,j < len * esz→w.cell? ⟨B,b0 + j,none⟩=some (f j)∧(f j).oneCell'=true∧∀ (i j':Nat) (d c:D),j=i * esz + j'→xs[i]?=some d→(cellsOf d)[j']?=some c→Rel K Q c (f j):=
     ⟨fun j=>if h:j < len * esz then (hall j h).choose else default,fun j hj=>by simp only [hj,dif_pos]; exact (hall j hj).choose_spec⟩
   obtain ⟨f,hf⟩:=hf
   refine ⟨((List.range (len * esz)).map f).toArray,?_,by simp,fun i d hd j c hc=>?_,fun u hu=>?_⟩
   · simp only [Builtin.firstCells]
     rw [run_loadCells w _ (len * esz) f fun j hj=>by rw [add_at]; exact (hf j hj).1]
   · have hi:i < xs.length:=(List.getElem?_eq_some_iff.1 hd).1
     have hj:j < esz:=by rw [←hsh d (List.mem_of_getElem? hd)]; exact (List.getElem?_eq_some_iff.1 hc).1
     have hmul:(i + 1) * esz≤len * esz:=Nat.mul_le_mul_right _ (by omega)
     rw [Nat.add_mul] at hmul
     have hlt:i * esz + j < len * esz:=by omega
     refine ⟨f (i * esz + j),by simp [hlt],(hf _ hlt).2.2 i j d c rfl hd hc,(hf _ hlt).2.1⟩
   · simp at hu
     obtain ⟨j,hj,rfl⟩:=hu
     exact (hf j hj).2.1
 have nil:∀ p cap,(∃ cells,(Builtin.firstCells esz 0 (.slice p 0 cap)).run P w = .ok cells w∧cells.size=0 * esz∧Elems K Q cells 0 esz []∧(∀ u∈cells,u.oneCell'=true)):=fun p cap=>by
   refine ⟨#[],?_,by simp,fun i d hd=>by simp at hd,fun u hu=>by simp at hu⟩
   cases p with
   | none=>simp [Builtin.firstCells]
   | some p=>simp [Builtin.firstCells,loadCells,loadCellsFrom]
 cases hr with
 | fzNil nz z=>
   simp only [elems] at hd
   split at hd<;>try (cases hd; done)
   injection hd with hd; subst hd
   obtain ⟨cells,g1,g2,g3,g4⟩:=nil none 0
   exact ⟨_,_,_,cells,rfl,rfl,Nat.le_refl _,g1,g2,rfl,fun d hd=>by simp at hd,g3,g4⟩
 | fzE z p c=>
   simp only [elems] at hd
   split at hd<;>try (cases hd; done)
   injection hd with hd; subst hd
   obtain ⟨cells,g1,g2,g3,g4⟩:=nil p c
   exact ⟨_,_,_,cells,rfl,rfl,Nat.zero_le _,g1,g2,rfl,fun d hd=>by simp at hd,g3,g4⟩
 | fz hn hrow hc hx=>
   simp only [elems] at hd
   split at hd<;>try (cases hd; done)
   rename_i hz
   have hz:=eq_of_beq hz; subst hz
   injection hd with hd; subst hd
   have hsh:Shaped _ _:=fun d hd=>by
     obtain ⟨i,hi⟩:=List.mem_iff_getElem?.1 hd
     exact (hrow.get hi).1
   obtain ⟨cells,g1,g2,g3,g4⟩:=key _ _ _ _ _ rfl hc hx hsh (fun i d hd j c hc'=>by
     obtain ⟨u,hu,k2,hr⟩:=(hrow.get hd).2.get hc'
     exact ⟨u,(hs.val _ _ _ hu).one k2,hr,k2⟩)
   exact ⟨_,_,_,cells,rfl,rfl,hc,g1,g2,hx,hsh,g3,g4⟩
 | owNil h=>
   simp only [elems] at hd
   split at hd<;>try (cases hd; done)
   rename_i hx
   have hrl:=hs.row_len hx h
   simp at hrl
   split at hd<;>try (cases hd; done)
   injection hd with hd; subst hd
   have:=List.eq_nil_of_length_eq_zero hrl.2.2.symm
   subst this
   obtain ⟨cells,g1,g2,g3,g4⟩:=nil none 0
   exact ⟨_,_,_,cells,rfl,rfl,Nat.le_refl _,g1,g2,rfl,fun d hd=>by simp at hd,g3,g4⟩
 | @ow b1 B1 base1 tot1 nz1 esz1 len1 cap1 a1 h hl ht ha=>
   simp only [elems] at hd
   split at hd<;>try (cases hd; done)
   rename_i hx
   have hrl:=hs.row_len hx h
   simp at hrl
   split at hd<;>try (cases hd; done)
   rename_i hz
   have hz:=eq_of_beq hz; subst hz
   injection hd with hd; subst hd
   obtain ⟨r1,r2,r3,r4⟩:=hs.blk _ _ hx
   rcases r4 with ⟨g1,_⟩ | ⟨B',base',vs,ty,g1,g2,g3,g4,g5,g6,g7⟩
   · rw [h] at g1; injection g1 with g1; injection g1 with g1; cases g1
   · rw [h] at g1; injection g1 with g1; injection g1 with e1 e2; injection e1 with e1; injection e1 with e1 e3; injection e3 with e3 _
     subst e1; subst e3
     by_cases hc0:cap1=0
     · have hl0:len1=0:=by omega
       subst hl0; subst hc0
       have:=List.eq_nil_of_length_eq_zero hrl.2.2.symm
       subst this
       obtain ⟨cells,k1,k2,k3,k4⟩:=nil (some a1) 0
       exact ⟨_,_,_,cells,rfl,rfl,Nat.le_refl _,k1,k2,rfl,fun d hd=>by simp at hd,k3,k4⟩
     · rw [ha hc0]
       obtain ⟨cells,k1,k2,k3,k4⟩:=key _ base1 len1 cap1 _ hrl.2.2 hl r1 r2 (fun i d hd j c hc'=>by
         obtain ⟨u,hu,hr,h1⟩:=g5 i d hd j c hc'
         exact ⟨u,by rw [cell_of_heap g3]; exact hu,hr,h1⟩)
       exact ⟨_,_,_,cells,rfl,hrl.2.2,hl,k1,k2,r1,r2,k3,k4⟩
 | winNil h=>
   simp only [elems] at hd
   split at hd<;>try (cases hd; done)
   split at hd<;>try (cases hd; done)
   injection hd with hd; subst hd
   have:∀ xs:List D,cut xs 0 0=[]:=fun xs=>by simp [cut]
   rw [this]
   obtain ⟨cells,g1,g2,g3,g4⟩:=nil none 0
   exact ⟨_,_,_,cells,rfl,rfl,Nat.le_refl _,g1,g2,rfl,fun d hd=>by simp at hd,g3,g4⟩
 | @win b1 B1 base1 tot1 nz1 esz1 len1 cap1 off1 l1 a1 h hl hoff ht ha=>
   simp only [elems] at hd
   split at hd<;>try (cases hd; done)
   rename_i hx
   have hrl:=hs.row_len hx h
   simp at hrl
   split at hd<;>try (cases hd; done)
   rename_i hb
   simp only [Bool.and_eq_true,decide_eq_true_eq,beq_iff_eq] at hb
   obtain ⟨hle,rfl⟩:=hb
   injection hd with hd; subst hd
   obtain ⟨r1,r2,r3,r4⟩:=hs.blk _ _ hx
   have hcl:=cut_closed (o:=off1) (l:=l1) r1
   have hclen:l1=(cut _ off1 l1).length:=(cut_length hle).symm
   rcases r4 with ⟨g1,_⟩ | ⟨B',base',vs,ty,g1,g2,g3,g4,g5,g6,g7⟩
   · rw [h] at g1; injection g1 with g1; injection g1 with g1; cases g1
   · rw [h] at g1; injection g1 with g1; injection g1 with e1 e2; injection e1 with e1; injection e1 with e1 e3; injection e3 with e3 _
     subst e1; subst e3
     have hsh:Shaped _ (cut _ off1 l1):=fun d hd=>r2 d (List.mem_of_mem_drop (List.mem_of_mem_take hd))
     by_cases hc0:cap1=0
     · have hl0:l1=0:=by omega
       subst hl0; subst hc0
       have:∀ xs:List D,cut xs off1 0=[]:=fun xs=>by simp [cut]
       rw [this]
       obtain ⟨cells,k1,k2,k3,k4⟩:=nil (some a1) 0
       exact ⟨_,_,_,cells,rfl,rfl,Nat.le_refl _,k1,k2,rfl,fun d hd=>by simp at hd,k3,k4⟩
     · rw [ha hc0]
       obtain ⟨cells,k1,k2,k3,k4⟩:=key _ (base1 + off1 * esz1) l1 cap1 _ hclen hl hcl hsh (fun i d hd j c hc'=>by
         obtain ⟨u,hu,hr,h1⟩:=g5 (off1 + i) d (cut_get hd).1 j c hc'
         refine ⟨u,?_,hr,h1⟩
         rw [cell_of_heap g3,←hu,hrl.2.1]
         congr 1
         rw [Nat.add_mul]; omega)
       exact ⟨_,_,_,cells,rfl,hclen,hl,k1,k2,hcl,hsh,k3,k4⟩
 | _=>simp [elems] at hd
end
end Gs
namespace Gs
open Go
variable [GlobTab]
theorem foldl_put (l:List Value):∀ (s off:Nat) (cells:Array Value),off + s + l.length≤cells.size→
   ((l.zipIdx s).foldl (fun cs x=>cs.setIfInBounds (off + x.2) x.1) cells).toList=cells.toList.take (off + s) ++ l ++ cells.toList.drop (off + s + l.length):=by
 induction l with
 | nil=>intro s off cells _; simp
 | cons v r ih=>
   intro s off cells h
   simp only [List.zipIdx_cons,List.foldl_cons]
   rw [ih (s + 1) off _ (by simp at h ⊢; omega)]
   have:=list_seg_step cells.toList (off + s) v r (by simp at h ⊢; omega)
   simpa [Array.toList_setIfInBounds,Nat.add_assoc] using this
section
variable {P:Program} {w0:World0} {w:World} {K0 K:Km} {Q Q':Pm} {H:Heap} {n:Nat} {e:Env} {a:Act} {o:Oper}
theorem fill_step {place:Nat→Option (Nat×Nat)}{cells:Array Value}{i off:Nat}{v:Value}{rest:List (Nat×Value)}(hp:place i=some (off,v.cells.size))(hle:off + v.cells.size≤cells.size) :
   Instr.fill place cells ((i,v) :: rest)=Instr.fill place (cells.toList.take off ++ v.cells.toList ++ cells.toList.drop (off + v.cells.size)).toArray rest:=by
 have hne:¬ (v.cells.size≠v.cells.size∨cells.size < off + v.cells.size):=by simp; omega
 simp only [Instr.fill,hp]
 rw [if_neg (by simp; omega)]
 congr 1
 apply Array.ext'
 rw [←Array.foldl_toList,Array.toList_zipIdx]
 have:=foldl_put v.cells.toList 0 off cells (by simpa using hle)
 simpa using this
theorem Rel.knownCells {d:D}{v:Value}(h:Rel K Q d v)(hd:known d=true):RelL K Q (cellsOf d) v.cells.toList:=by
 cases d with
 | agg cs=>
   obtain ⟨vs,rfl,hl⟩:=h.agg_inv
   simpa [Value.cells,cellsOf] using hl
 | tup=>simp [known] at hd
 | dead=>simp [known] at hd
 | _=>
   have hc:v.cells = #[v]:=by cases h<;>rfl
   rw [hc]
   exact .cons h .nil
def okParts (n:Nat)(place:Nat→Option (Nat×Nat)):List (Nat×Operand)→List (Nat×Nat×Opd)→Bool
 | [],[]=>true
 | (i,x) :: r,(off,sz,y) :: r'=>(place i == some (off,sz)) && okX n x y && okParts n place r r'
 | _,_=>false
theorem fill_parts {place:Nat→Option (Nat×Nat)}(he:RelE K Q n e a.tmps):∀ {ps:List (Nat×Operand)} {ps':List (Nat×Nat×Opd)} {cs cs':List D} {cells:Array Value},okParts n place ps ps'=true→parts e ps' cs=some cs'→RelL K Q cs cells.toList→
   ∃ cells',Instr.fill place cells (ps.map fun (i,x)=>(i,a.eval x))=some cells'∧RelL K Q cs' cells'.toList
 | [],[],cs,cs',cells,_,h,hl=>by simp [parts] at h; subst h; exact ⟨cells,rfl,hl⟩
 | [],_ :: _,_,_,_,h,_,_=>by simp [okParts] at h
 | _ :: _,[],_,_,_,h,_,_=>by simp [okParts] at h
 | (i,x) :: r,(off,sz,y) :: r',cs,cs',cells,hok,h,hl=>by
   simp only [okParts,Bool.and_eq_true,beq_iff_eq] at hok
   obtain ⟨⟨hp,hx⟩,hr⟩:=hok
   simp only [parts] at h
   split at h<;>try (cases h; done)
   rename_i cs1 hb hput
   simp only [Bool.and_eq_true,beq_iff_eq,clen_eq] at hb
   have hrel:=okX_rel he hx
   have hcl:=hrel.knownCells hb.2
   have hsz:(a.eval x).cells.size=sz:=by rw [←hb.1,hcl.length]; simp
   obtain ⟨h3,h4⟩:=putAt_eq _ _ _ _ hput
   rw [hb.1] at h3 h4
   have hlen:=hl.length
   simp only [Array.length_toList] at hlen
   have hst:=fill_step (rest:=r.map fun (i,x)=>(i,a.eval x)) (cells:=cells) (i:=i) (off:=off) (v:=a.eval x) (place:=place) (by rw [hp,hsz]) (by rw [hsz]; omega)
   obtain ⟨cells',g1,g2⟩:=fill_parts (place:=place) he (cells:=(cells.toList.take off ++ (a.eval x).cells.toList ++ cells.toList.drop (off + (a.eval x).cells.size)).toArray) hr h (by
     rw [h3,hsz]
     simpa using ((hl.take off).app hcl).app (hl.drop (off + sz)))
   exact ⟨cells',by simp only [List.map_cons]; rw [hst]; exact g1,g2⟩
def placesOf (P:Program):List Field→Option (List (Nat×Nat))
 | []=>some []
 | f :: r=>match sizeT P f.type,placesOf P r with
   | some z,some l=>some ((f.offset,z) :: l)
   | _,_=>none
theorem places_run:∀ {fs:List Field} {l:List (Nat×Nat)},placesOf P fs=some l→(fs.mapM fun f=>do pure (f.offset,←Go.sizeOf f.type):Sem (List (Nat×Nat))).run P w = .ok l w
  | [],l,h=>by simp [placesOf] at h; subst h; simp
  | f :: r,l,h=>by
    simp only [placesOf] at h
    split at h<;>try (cases h; done)
    rename_i z l' hz hl
    injection h with h; subst h
    simp only [List.mapM_cons,Sem.run_bind,run_sizeT hz,Result.andThen_ok,Sem.run_pure,places_run hl]
def placeT (P:Program)(t:TypeId):Option (Nat→Option (Nat×Nat)):=
 match P.underlying t with
 | some (.struct fs)=>(placesOf P fs.toList).map fun (l:List (Nat×Nat)) (i:Nat)=>l[i]?
 | some (.array _ el)=>(sizeT P el).map fun z i=>some (i * z,z)
 | _=>none
theorem op_build {t:TypeId}{ps:Array (Nat×Operand)}{z:Value}{zs:List D}{place:Nat→Option (Nat×Nat)}{ps':List (Nat×Nat×Opd)}{cs:List D}(ho:o.op = .build t ps)(hz:zeroT P t=some z)(hzs:okCs zs z.cells.toList=true)
   (hpl:placeT P t=some place) (hok:okParts n place ps.toList ps'=true) (hd:parts e ps' zs=some cs) (hs:Sim w0 K0 K Q H w) (he:RelE K Q n e a.tmps):OpOk P w0 K0 K Q w n o a (.agg cs) e H:=by
 obtain ⟨cells',g1,g2⟩:=fill_parts (place:=place) he (cells:=z.cells) hok hd (okCs_rel _ _ hzs)
 have hpm:(ps.map fun (i,x)=>(i,a.eval x)).toList=ps.toList.map fun (i,x)=>(i,a.eval x):=by simp
 have hrel:=Rel.agg g2
 simp only [Array.toArray_toList] at hrel
 refine .val hs he (v:=.agg cells') ?_ hrel
 simp only [execOp,ho,Instr.build,Sem.run_bind,run_zeroT hz,Result.andThen_ok]
 unfold placeT at hpl
 split at hpl<;>try (cases hpl; done)
 · rename_i fs hu
   cases hl:placesOf P fs.toList with
   | none=>simp [hl] at hpl
   | some l=>
     simp only [hl,Option.map_some,Option.some.injEq] at hpl
     subst hpl
     have hrun:(fs.mapM fun f=>do pure (f.offset,←Go.sizeOf f.type):Sem (Array (Nat×Nat))).run P w = .ok l.toArray w:=by
       rw [Array.mapM_eq_mapM_toList]
       simp only [Sem.run_map,places_run hl,Result.andThen_ok]
     simp only [Go.run_underlying hu,Result.andThen_ok,Sem.run_bind,hrun,hpm]
     have:(fun (x:Nat)=>l.toArray[x]?)=fun (i:Nat)=>l[i]?:=by funext i; simp
     rw [this,g1]
     simp
 · rename_i m el hu
   cases hl:sizeT P el with
   | none=>simp [hl] at hpl
   | some z'=>
     simp only [hl,Option.map_some,Option.some.injEq] at hpl
     subst hpl
     simp only [Go.run_underlying hu,Result.andThen_ok,Sem.run_bind,run_sizeT hl,hpm,g1]
     simp
def okSeq (n:Nat):Nat→List (Nat×Operand)→List Opd→Bool
 | _,[],[]=>true
 | k,(i,x) :: r,y :: r'=>(i == k) && okX n x y && okSeq n (k + 1) r r'
 | _,_,_=>false
theorem fill_seq {esz tot:Nat}(he:RelE K Q n e a.tmps):∀ {k:Nat} {ps:List (Nat×Operand)} {ps':List Opd} {cells:Array Value},okSeq n k ps ps'=true→allEsz esz (rhos e ps')=true→solidAll (rhos e ps')=true→cells.size=tot→(k + ps.length) * esz≤tot→(∀ u∈cells,u.oneCell'=true)→
   ∃ cells',Instr.fill (fun i=>some (i * esz,esz)) cells (ps.map fun (i,x)=>(i,a.eval x))=some cells'∧cells'.size=tot∧(∀ u∈cells',u.oneCell'=true)∧(∀ j,j < k * esz→cells'[j]?=cells[j]?)∧
     ∀ (i:Nat) (d:D),(rhos e ps')[i]?=some d→∀ (j:Nat) (c:D),(cellsOf d)[j]?=some c→∃ v,cells'[(k + i) * esz + j]?=some v∧Rel K Q c v
 | k,[],[],cells,_,_,_,hsz,_,h1=>⟨cells,rfl,hsz,h1,fun _ _=>rfl,fun i d hd=>by simp [rhos] at hd⟩
 | _,[],_ :: _,_,h,_,_,_,_,_=>by simp [okSeq] at h
 | _,_ :: _,[],_,h,_,_,_,_,_=>by simp [okSeq] at h
 | k,(i,x) :: r,y :: r',cells,hok,hez,hso,hsz,hle,h1=>by
   simp only [okSeq,Bool.and_eq_true,beq_iff_eq] at hok
   obtain ⟨⟨rfl,hx⟩,hr⟩:=hok
   simp only [rhos,allEsz,solidAll,Bool.cond_false_right,Bool.and_eq_true,beq_iff_eq,clen_eq] at hez hso
   have hrel:=okX_rel he hx
   obtain ⟨hcl,hone⟩:=hrel.cells hso.1
   have hvs:(a.eval x).cells.size=esz:=by rw [←hez.1,hcl.length]; simp
   have hle1:(i + 1) * esz≤(i + (r.length + 1)) * esz:=Nat.mul_le_mul_right _ (by omega)
   simp only [List.length_cons] at hle
   have hie:i * esz + esz≤cells.size:=by rw [Nat.add_mul] at hle1; omega
   have hst:=fill_step (rest:=r.map fun (i,x)=>(i,a.eval x)) (cells:=cells) (i:=i) (off:=i * esz) (v:=a.eval x) (place:=fun i=>some (i * esz,esz)) (by rw [hvs]) (by rw [hvs]; exact hie)
   rw [hvs] at hst
   have hsz':(cells.toList.take (i * esz) ++ (a.eval x).cells.toList ++ cells.toList.drop (i * esz + esz)).toArray.size=tot:=by simp; omega
   obtain ⟨cells',g1,g2,g3,g4,g5⟩:=fill_seq (tot:=tot) he (cells:=(cells.toList.take (i * esz) ++ (a.eval x).cells.toList ++ cells.toList.drop (i * esz + esz)).toArray) hr hez.2 hso.2 hsz' (by rw [show i + 1 + r.length=i + (r.length + 1) by omega]; exact hle) (fun u hu=>by
     simp only [List.append_assoc,List.mem_toArray,List.mem_append] at hu
     rcases hu with hu | hu | hu
     · exact h1 u (by simpa using List.mem_of_mem_take hu)
     · exact hone u (by simpa using hu)
     · exact h1 u (by simpa using List.mem_of_mem_drop hu))
   have hvl:(a.eval x).cells.toList.length=esz:=by simpa using hvs
   refine ⟨cells',by simp only [List.map_cons]; rw [hst]; exact g1,g2,g3,fun j hj=>?_,fun m d hd j c hc=>?_⟩
   · rw [g4 j (by rw [Nat.add_mul]; omega)]
     simp only [List.getElem?_toArray]
     rw [seg_get _ _ _ _ _ hvl (by simpa using hie),if_pos hj]
     simp
   · cases m with
     | zero=>
       simp [rhos] at hd; subst hd
       have hj:j < esz:=by rw [←hez.1]; exact (List.getElem?_eq_some_iff.1 hc).1
       obtain ⟨u,hu,hru⟩:=hcl.get hc
       refine ⟨u,?_,hru⟩
       rw [Nat.add_zero,g4 _ (by rw [Nat.add_mul]; omega)]
       simp only [List.getElem?_toArray]
       rw [seg_get _ _ _ _ _ hvl (by simpa using hie),if_neg (by omega),if_pos (by omega),←hu]
       congr 1; omega
     | succ m=>
       simp [rhos] at hd
       have:=g5 m d hd j c hc
       rwa [show i + 1 + m=i + (m + 1) by omega] at this
theorem rhos_length (e:Env):∀ l,(rhos e l).length=l.length
 | []=>rfl
 | _ :: r=>by simp [rhos,rhos_length e r]
theorem okSeq_length:∀ {k:Nat} {ps:List (Nat×Operand)} {ps':List Opd},okSeq n k ps ps'=true→ps.length=ps'.length
 | _,[],[],_=>rfl
 | _,[],_ :: _,h=>by simp [okSeq] at h
 | _,_ :: _,[],h=>by simp [okSeq] at h
 | _,(_,_) :: _,_ :: _,h=>by
   simp only [okSeq,Bool.and_eq_true] at h
   simp [okSeq_length h.2]
theorem allEsz_mem {esz:Nat} : ∀ {l:List D},allEsz esz l=true→∀ d∈l,(cellsOf d).length=esz
 | [],_,d,hd=>by simp at hd
 | x :: r,h,d,hd=>by
   simp only [allEsz,Bool.cond_false_right,Bool.and_eq_true,beq_iff_eq,clen_eq] at h
   cases hd with
   | head=>exact h.1
   | tail _ hd=>exact allEsz_mem h.2 d hd
def oneCs:List Value→Bool
 | []=>true
 | v :: r=>v.oneCell' && oneCs r
theorem oneCs_mem:∀ {l:List Value},oneCs l=true→∀ v∈l,v.oneCell'=true
 | [],_,v,hv=>by simp at hv
 | x :: r,h,v,hv=>by
   simp only [oneCs,Bool.and_eq_true] at h
   cases hv with
   | head=>exact h.1
   | tail _ hv=>exact oneCs_mem h.2 v hv
theorem op_bsl {t el:TypeId}{m esz:Nat}{ps:Array (Nat×Operand)}{ps':List Opd}{z:Value}(ho:o.op = .buildSlice t m ps)(ht:P.underlying t=some (.slice el))(hsz:sizeT P el=some esz)(hz:zeroT P el=some z)(hzc:z.cells.size=esz)(hz1:oneCs z.cells.toList=true)
   (hm:ps'.length=m) (hbig:m * esz≤2 ^ 24) (hok:okSeq n 0 ps.toList ps'=true) (hcl:closedL (rhos e ps')=true) (hez:allEsz esz (rhos e ps')=true) (hso:solidAll (rhos e ps')=true)
   (hs:Sim w0 K0 K Q H w) (he:RelE K Q n e a.tmps):OpOk P w0 K0 K Q w n o a (.fz false esz (rhos e ps')) e H:=by
 let cells0:Array Value:=(Array.range (m * esz)).map fun i=>(if m * esz=0 then (#[]:Array Value) else z.cells)[i % (if m * esz=0 then (#[]:Array Value) else z.cells).size]!
 have hc0:cells0.size=m * esz:=by simp [cells0]
 have hone0:∀ u∈cells0,u.oneCell'=true:=fun u hu=>by
   simp only [cells0,Array.mem_map,Array.mem_range] at hu
   obtain ⟨i,hi,rfl⟩:=hu
   have hne:m * esz≠0:=by omega
   simp only [hne,if_false]
   have hpos:0 < z.cells.size:=by rw [hzc]; exact Nat.pos_of_ne_zero fun h=>hne (by rw [h]; rfl)
   have hlt:i % z.cells.size < z.cells.size:=Nat.mod_lt _ hpos
   rw [getElem!_pos z.cells _ hlt]
   exact oneCs_mem hz1 _ (by simp)
 have hpl:=okSeq_length hok
 obtain ⟨cells',g1,g2,g3,g4,g5⟩:=fill_seq (tot:=m * esz) he (cells:=cells0) hok hez hso hc0 (by rw [hpl,hm]; simp) hone0
 obtain ⟨Q',hq,hs',hn⟩:=hs.fresh cells' el g3
 have hlen:(rhos e ps').length=m:=by rw [rhos_length,hm]
 have hrel:Rel K Q' (.fz false esz (rhos e ps')) (.slice (some ⟨w.heap.size,0,none⟩) m m):=by
   by_cases h0:rhos e ps'=[]
   · rw [h0]
     have:m=0:=by rw [←hlen,h0]; rfl
     rw [this]; exact .fzE _ _ _
   · have:=Rel.fz (K:=K) (Q:=Q') (nz:=false) (esz:=esz) (B:=w.heap.size) (o:=0) (cap:=m) h0 (.of_get fun i d hd=>⟨allEsz_mem hez d (List.mem_of_getElem? hd),.of_get fun j c hc=>by
       obtain ⟨v,hv,hr⟩:=g5 i d hd j c hc
       have hv':cells'[i * esz + j]?=some v:=by rw [←hv,Nat.zero_add]
       refine ⟨v,?_,g3 v (Array.mem_of_getElem? hv'),hr.mono (fun _ _ h=>h) hq⟩
       rw [hn,Nat.zero_add,←hv,Nat.zero_add]⟩) (by omega) hcl
     rwa [hlen] at this
 refine ⟨K,Q',_,_,.inl ?_,hs',he.mono (fun _ _ h=>h) hq,hrel,hq⟩
 have hpm:(ps.map fun (i,x)=>(i,a.eval x)).toList=ps.toList.map fun (i,x)=>(i,a.eval x):=by simp
 have hng:¬ m * esz > 2 ^ 24:=by omega
 simp only [execOp,ho,Instr.buildSlice,Sem.run_bind,Go.run_underlying ht,Result.andThen_ok,run_sizeT hsz,hng,if_false,Sem.run_pure]
 have g1':=g1
 simp only [cells0] at g1'
 by_cases h0:m * esz=0
 · simp only [h0,if_true] at g1' ⊢
   simp only [Sem.run_bind,Sem.run_pure,Result.andThen_ok,hpm]
   rw [g1']
   simp [newRow]
 · simp only [h0,if_false] at g1' ⊢
   simp only [Sem.run_bind,Sem.run_pure,run_zeroT hz,Result.andThen_ok,hpm]
   rw [g1']
   simp [newRow]
end
end Gs
