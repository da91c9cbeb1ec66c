/- bench.Check; support.start; Open cells and free sides; Sides, and the first block that; Why a block cannot be freed; Faces, Why, Frontier, Hanging; no conditions. -/
import Derived.Test.YtboigolndjinhaaGreatS70toS71
set_option linter.all false
set_option maxRecDepth 100000
open Gs Go
namespace Tz.C18
def entT:List ByteArray→List D
 | []=>[]
 | n :: r=>.str n :: .bool true :: entT r
theorem mfind_entT (n:ByteArray):∀ l,mfind (.str n) (entT l)=some (bif l.any (seq n) then some (.bool true) else none)
 | []=>rfl
 | b :: r=>by
   simp only [entT,mfind,keyEq,List.any_cons]
   cases h:seq n b with
   | true=>rfl
   | false=>simp only [Bool.false_or]; exact mfind_entT n r
theorem mput_entT (n:ByteArray):∀ l,l.any (seq n)=false→mput (.str n) (.bool true) (entT l)=some (entT (l ++ [n]))
 | [],_=>rfl
 | c :: r,h=>by
   simp only [List.any_cons,Bool.or_eq_false_iff] at h
   simp only [entT,mput,keyEq,h.1,mput_entT n r h.2,List.cons_append]
def dupS:List ByteArray→List ByteArray→Bool
 | _,[]=>false
 | s,n :: r=>s.any (seq n) || dupS (s ++ [n]) r
theorem thru_dupS {α:Type}(nm:α→ByteArray):∀ (r:List α) (s:List ByteArray),thru (R:=Unit) (fun (s:List ByteArray) b=>bif s.any (seq (nm b)) then .inl () else .inr (s ++ [nm b])) r s=bif dupS s (r.map nm) then .inl () else .inr (s ++ r.map nm)
 | [],s=>by simp [thru,dupS]
 | b :: r,s=>by
   simp only [thru,dupS,List.map_cons]
   cases h:s.any (seq (nm b)) with
   | true=>rfl
   | false=>simp only [cond_false,Bool.false_or]; rw [thru_dupS nm r (s ++ [nm b])]; simp
theorem lp_twice (bs:List Bench)(hl:bs.length < 1000000)(e:Env)(H:Heap)(h3:Gs.get e 3 = .mp 6)(h8:Gs.get e 8=benchs bs)(h9:Gs.get e 9=int bs.length)(h10:Gs.get e 10=int 0)(hM:hget H 6=some (.mapB [] false)) :
   Ends T 144003 e H (fun X e' H'=>match dupS [] (bs.map (·.name)) with
     | true=>X = .ret∧Gs.get e' 2 = .bool true
     | false=>X = .ex 0):=by
 refine (loop_thru (T:=T) (key:=144003) (li:=l144003.1) rfl (fun (s:List ByteArray) (b:Bench)=>bif s.any (seq b.name) then .inl () else .inr (s ++ [b.name])) bs
   (fun i s e H=>Gs.get e 3 = .mp 6∧Gs.get e 8=benchs bs∧Gs.get e 9=int bs.length∧Gs.get e 10=int i∧hget H 6=some (.mapB (entT s) false))
   (fun _ X e' H'=>X = .ret∧Gs.get e' 2 = .bool true) (fun s X e' H'=>X = .ex 0) ?_ ?_ ?_ bs [] [] e H rfl ⟨h3,h8,h9,h10,hM⟩).mono fun X e' H' h=>?_
 · rintro i b s s' e H hx ⟨h3,h8,h9,h10,hM⟩ hf
   have hi:=(List.getElem?_eq_some_iff.1 hx).1
   have hx':(bs.map Bench.enc)[i]?=some b.enc:=by simp [hx]
   have hn:s.any (seq b.name)=false:=by cases hb:s.any (seq b.name)<;>simp_all
   rw [hn] at hf
   injection hf with hf; subst hf
   have hm:mfind (.str b.name) (entT s)=some none:=by rw [mfind_entT,hn]; rfl
   have hp:=mput_entT b.name s hn
   simp only [↓eA,eB,seval,l144003,h3,h8,h9,h10,hM,hi,hx',hm,hp,wrap_succ (show i < 4611686018427387904 by omega)]
   and_intros<;>first | trivial | rfl
 · rintro i b s r e H hx ⟨h3,h8,h9,h10,hM⟩ hf
   have hi:=(List.getElem?_eq_some_iff.1 hx).1
   have hx':(bs.map Bench.enc)[i]?=some b.enc:=by simp [hx]
   have hn:s.any (seq b.name)=true:=by cases hb:s.any (seq b.name)<;>simp_all
   have hm:mfind (.str b.name) (entT s)=some (some (.bool true)):=by rw [mfind_entT,hn]; rfl
   simp only [↓eA,eB,seval,l144003,h3,h8,h9,h10,hM,hi,hx',hm]
   and_intros<;>first | trivial | rfl
 · rintro s e H ⟨h3,h8,h9,h10,hM⟩
   simp only [↓eA,eB,seval,l144003,h3,h8,h9,h10,hM,Nat.lt_irrefl]
   and_intros<;>first | trivial | rfl
 · rw [thru_dupS (fun b:Bench=>b.name)] at h
   cases hd:dupS [] (bs.map (·.name))<;>rw [hd] at h<;>exact h
theorem e_twice (s:Site)(hF:s.Fit):L.call 144 [s.enc] []=some (.bool (dupS [] (s.benches.map (·.name))),[]):=
 call_eq rfl rfl (by
   simp only [↓eA,eB,seval,c144,List.length_map]
   generalize hE:(lim T).loop 144003 _ _=R
   obtain ⟨X,e',H',rfl,hp⟩:=Ends.at hE (lp_twice s.benches hF.be _ _ rfl rfl rfl rfl rfl)
   cases hd:dupS [] (s.benches.map (·.name)) with
   | true=>rw [hd] at hp; obtain ⟨rfl,g2⟩:=hp; simp only [↓eA,eB,seval,g2]
   | false=>rw [hd] at hp; subst hp; simp only [↓eA,eB,seval])
def onBench (b:Block)(x:Bench):Bool:=decide (x.lo=b.box.z0)
theorem e_level1 (b:Block)(x:Bench):L.call 174 [x.enc,.fp b.cells 0] []=some (.bool (onBench b x),[]):=
 call_eq rfl rfl (by simp only [↓eA,eB,seval,c174]; rfl)
theorem e_level (s:Site)(hF:s.Fit)(b:Block):L.call 112 [s.enc,b.enc] []=some (int (idxOf (onBench b) s.benches),[]):=
 call_eq rfl rfl (by
   have h:=e_idx_bench (onBench b) 174 [.fp b.cells 0] false s.benches (by have:=hF.be; omega) rfl (fun x _=>e_level1 b x)
   simp only [↓eA,eB,seval,c112,h])
theorem find_idx' {α:Type}(p:α→Bool):∀ (bs:List α),(bs.find? p=none∧bs.findIdx? p=none)∨∃ a j,bs.find? p=some a∧bs.findIdx? p=some j∧bs[j]?=some a
 | []=>.inl ⟨rfl,rfl⟩
 | b :: r=>by
   rw [List.find?_cons,List.findIdx?_cons]
   cases hb:p b with
   | true=>exact .inr ⟨b,0,rfl,rfl,rfl⟩
   | false=>
     rcases find_idx' p r with ⟨h1,h2⟩ | ⟨a,j,h1,h2,h3⟩
     · exact .inl ⟨h1,by simp [h2]⟩
     · exact .inr ⟨a,j + 1,h1,by simp [h2],by simpa using h3⟩
def conflict (s:Site)(b:Block):Bool:=match s.benches.find? (onBench b) with
  | none=>true
  | some x=>decide (x.hi < b.box.z1)
theorem inb_neg (n:Nat):inb (-1) n=false:=by simp [inb]
theorem e_c11 (s:Site)(hF:s.Fit)(b:Block):L.call 146 [s.enc,b.enc] []=some (.bool (conflict s b),[]):=
 call_eq rfl rfl (by
   have hl:=e_level s hF b
   unfold conflict
   rcases find_idx' (onBench b) s.benches with ⟨h1,h2⟩ | ⟨a,j,h1,h2,h3⟩
   · have hx:idxOf (onBench b) s.benches = -1:=by unfold idxOf; rw [h2]
     rw [h1]
     rw [hx] at hl
     simp only [↓eA,eB,seval,c146,hl,inb_neg,List.length_map]
   · have hx:idxOf (onBench b) s.benches=(j:Int):=by unfold idxOf; rw [h2]
     have hj:=(List.getElem?_eq_some_iff.1 h3).1
     have h3':(s.benches.map Bench.enc)[j]?=some a.enc:=by simp [h3]
     have hneg:decide ((j:Int) < 0)=false:=decide_eq_false (by omega)
     rw [h1]
     rw [hx] at hl
     simp only [↓eA,eB,seval,c146,hl,hneg,hj,h3',List.length_map])
def lapF:List Block→List Block→Bool
 | _,[]=>false
 | s,b :: r=>s.any (fun c=>!Tz.C18.apart b.box c.box) || lapF (s ++ [b]) r
theorem thru_lap:∀ (r s:List Block),thru (R:=Unit) (fun (s:List Block) b=>bif s.any (fun c=>!apart b.box c.box) then .inl () else .inr (s ++ [b])) r s=bif lapF s r then .inl () else .inr (s ++ r)
 | [],s=>by simp [thru,lapF]
 | b :: r,s=>by
   simp only [thru,lapF]
   cases h:s.any (fun c=>!apart b.box c.box) with
   | true=>rfl
   | false=>simp only [cond_false,Bool.false_or]; rw [thru_lap r (s ++ [b])]; simp
theorem e_c12a (a b:Block):L.call 149 [b.enc,.fp a.cells 0] []=some (.bool (!apart a.box b.box),[]):=
 call_eq rfl rfl (by simp only [↓eA,eB,seval,c149,e_bOverlap a.box b.box])
theorem cut_map {α:Type}(f:α→D)(l:List α)(i:Nat):cut (l.map f) 0 i=(l.take i).map f:=by simp [cut,List.map_take]
theorem lp_c12 (s:Site)(hF:s.Fit)(e:Env)(H:Heap)(h1:Gs.get e 1 = .ptr 1 0)(h6:Gs.get e 6=blks s.blocks)(h7:Gs.get e 7=int s.blocks.length)(h8:Gs.get e 8=int 0)(hH:hget H 1=some (.box s.cells false)) :
   Ends T 147002 e H (fun X e' H'=>match lapF [] s.blocks with
     | true=>X = .ret∧Gs.get e' 2 = .bool true
     | false=>X = .ex 0):=by
 have hb:=hF.bl
 refine (loop_thru (T:=T) (key:=147002) (li:=l147002.1) rfl (fun (s:List Block) b=>bif s.any (fun c=>!apart b.box c.box) then .inl () else .inr (s ++ [b])) s.blocks
   (fun i t e H=>Gs.get e 1 = .ptr 1 0∧Gs.get e 6=blks s.blocks∧Gs.get e 7=int s.blocks.length∧Gs.get e 8=int i∧hget H 1=some (.box s.cells false)∧t=s.blocks.take i)
   (fun _ X e' H'=>X = .ret∧Gs.get e' 2 = .bool true) (fun s X e' H'=>X = .ex 0) ?_ ?_ ?_ s.blocks [] [] e H rfl ⟨h1,h6,h7,h8,hH,rfl⟩).mono fun X e' H' h=>?_
 · rintro i b t t' e H hx ⟨h1,h6,h7,h8,hH,rfl⟩ hf
   have hi:=(List.getElem?_eq_some_iff.1 hx).1
   have hx':(s.blocks.map Block.enc)[i]?=some b.enc:=by simp [hx]
   have hle:decide (i≤s.blocks.length)=true:=decide_eq_true (by omega)
   have hz:decide (0≤i)=true:=decide_eq_true (by omega)
   have hcon:=fun nz=>e_con_block (fun c=>!apart b.box c.box) 149 [.fp b.cells 0] nz (s.blocks.take i) (by simp; omega) rfl (fun x _=>e_c12a b x)
   have hn:(s.blocks.take i).any (fun c=>!apart b.box c.box)=false:=by cases hb:(s.blocks.take i).any (fun c=>!apart b.box c.box)<;>simp_all
   rw [hn] at hf hcon
   injection hf with hf
   have hinc:inc 0 i=true:=by simp [inc]
   simp only [↓eA,eB,seval,l147002,h1,h6,h7,h8,hH,hi,hx',cut_map,hle,hinc,Nat.sub_zero,hcon,wrap_succ (show i < 4611686018427387904 by omega)]
   refine ⟨trivial,trivial,trivial,trivial,trivial,trivial,?_⟩
   rw [←hf,List.take_add_one,hx]; rfl
 · rintro i b t r e H hx ⟨h1,h6,h7,h8,hH,rfl⟩ hf
   have hi:=(List.getElem?_eq_some_iff.1 hx).1
   have hx':(s.blocks.map Block.enc)[i]?=some b.enc:=by simp [hx]
   have hle:decide (i≤s.blocks.length)=true:=decide_eq_true (by omega)
   have hcon:=fun nz=>e_con_block (fun c=>!apart b.box c.box) 149 [.fp b.cells 0] nz (s.blocks.take i) (by simp; omega) rfl (fun x _=>e_c12a b x)
   have hn:(s.blocks.take i).any (fun c=>!apart b.box c.box)=true:=by cases hb:(s.blocks.take i).any (fun c=>!apart b.box c.box)<;>simp_all
   rw [hn] at hcon
   have hinc:inc 0 i=true:=by simp [inc]
   simp only [↓eA,eB,seval,l147002,h1,h6,h7,h8,hH,hi,hx',cut_map,hle,hinc,Nat.sub_zero,hcon]
   and_intros<;>first | trivial | rfl
 · rintro t e H ⟨h1,h6,h7,h8,hH,ht⟩
   simp only [↓eA,eB,seval,l147002,h1,h6,h7,h8,hH,Nat.lt_irrefl]
   and_intros<;>first | trivial | rfl
 · rw [thru_lap] at h
   cases hd:lapF [] s.blocks<;>rw [hd] at h<;>exact h
theorem e_c12 (s:Site)(hF:s.Fit):L.call 147 [s.enc] []=some (.bool (lapF [] s.blocks),[]):=
 call_eq rfl rfl (by
   simp only [↓eA,eB,seval,c147,List.length_map]
   generalize hE:(lim T).loop 147002 _ _=R
   obtain ⟨X,e',H',rfl,hp⟩:=Ends.at hE (lp_c12 s hF _ _ rfl rfl rfl rfl rfl)
   cases hd:lapF [] s.blocks with
   | true=>rw [hd] at hp; obtain ⟨rfl,g2⟩:=hp; simp only [↓eA,eB,seval,g2]
   | false=>rw [hd] at hp; subst hp; simp only [↓eA,eB,seval])
theorem e_any196 (s:Site)(b:Bench)(g:Nat)(p:Bool)(h:L.call g [s.enc,b.enc] []=some (.bool p,[])):L.call 194 [b.enc,.fp [.fn g []] 0,.fp s.cells 0] []=some (.bool p,[]):=
 call_eq rfl rfl (by simp only [↓eA,eB,seval,c194,h])
theorem e_any198 (s:Site)(b:Block)(g:Nat)(p:Bool)(h:L.call g [s.enc,b.enc] []=some (.bool p,[])):L.call 196 [b.enc,.fp [.fn g []] 0,.fp s.cells 0] []=some (.bool p,[]):=
 call_eq rfl rfl (by simp only [↓eA,eB,seval,c196,h])
theorem e_anyBench (s:Site)(hF:s.Fit)(g:Nat)(p:Bench→Bool)(h:∀ b∈s.benches,L.call g [s.enc,b.enc] []=some (.bool (p b),[])):L.call 192 [s.enc,.fp [.fn g []] 0] []=some (.bool (s.benches.any p),[]):=
 call_eq rfl rfl (by
   have hc:=e_con_bench p 194 [.fp [.fn g []] 0,.fp s.cells 0] false s.benches (by have:=hF.be; omega) rfl (fun x hx=>e_any196 s x g _ (h x hx))
   simp only [↓eA,eB,seval,c192,hc])
theorem e_anyBlock (s:Site)(hF:s.Fit)(g:Nat)(p:Block→Bool)(h:∀ b∈s.blocks,L.call g [s.enc,b.enc] []=some (.bool (p b),[])):L.call 195 [s.enc,.fp [.fn g []] 0] []=some (.bool (s.blocks.any p),[]):=
 call_eq rfl rfl (by
   have hc:=e_con_block p 196 [.fp [.fn g []] 0,.fp s.cells 0] false s.blocks (by have:=hF.bl; omega) rfl (fun x hx=>e_any198 s x g _ (h x hx))
   simp only [↓eA,eB,seval,c195,hc])
theorem e_either (s:Site)(g1 g2:Nat)(c1 c2:List D)(h1:closedL c1=true)(h2:closedL c2=true)(p q:Bool)(hp:L.call g1 (s.enc :: c1) []=some (.bool p,[]))(hq:L.call g2 (s.enc :: c2) []=some (.bool q,[])) :
   L.call 191 [s.enc,.fp [.fn g1 c1] 0,.fp [.fn g2 c2] 0] []=some (.bool (p || q),[]):=
 call_eq rfl rfl (by simp only [↓eA,eB,seval,c191,renL_closed h1,renL_closed h2,hp,hq])
abbrev anyB (g:Nat):D:=.fn 192 [.fp [.fn g []] 0]
abbrev anyK (g:Nat):D:=.fn 195 [.fp [.fn g []] 0]
abbrev eith (f g:D):D:=.fn 191 [.fp [f] 0,.fp [g] 0]
theorem e_mkBench (g:Nat):L.call 133 [.fn g []] []=some (anyB g,[]):=call_eq rfl rfl (by simp only [↓eA,eB,seval,c133])
theorem e_mkBlock (g:Nat):L.call 135 [.fn g []] []=some (anyK g,[]):=call_eq rfl rfl (by simp only [↓eA,eB,seval,c135])
theorem e_mkEither (g1 g2:Nat):L.call 132 [anyB g1,anyK g2] []=some (eith (anyB g1) (anyK g2),[]):=call_eq rfl rfl (by simp only [↓eA,eB,seval,c132])
theorem e_mkEither0 (g1 g2:Nat):L.call 132 [.fn g1 [],.fn g2 []] []=some (eith (.fn g1 []) (.fn g2 []),[]):=call_eq rfl rfl (by simp only [↓eA,eB,seval,c132])
structure Cond where
 err:Int
 g:Nat
 caps:List D
 val:Bool
abbrev Cond.enc (c:Cond):D:=.agg [int c.err,.fn c.g c.caps]
def condL (s:Site):List Cond:=[
 ⟨7,129,[],cMany s⟩,⟨6,130,[],cRange s⟩,
 ⟨4,191,[.fp [anyB 134] 0,.fp [anyK 136] 0],s.benches.any (fun b=>!pName b.name) || s.blocks.any (fun b=>!pName b.name)⟩,
 ⟨1,191,[.fp [anyB 137] 0,.fp [anyK 138] 0],s.benches.any (fun b=>decide (b.hi≤b.lo)) || s.blocks.any (fun b=>emptyB b.box)⟩,
 ⟨12,191,[.fp [anyB 140] 0,.fp [anyK 141] 0],s.benches.any (benchOut s) || s.blocks.any (blockOut s)⟩,
 ⟨11,143,[],steps s.benches geBench⟩,
 ⟨5,191,[.fp [.fn 144 []] 0,.fp [.fn 145 []] 0],dupS [] (s.benches.map (·.name)) || steps s.blocks geBlock⟩,
 ⟨10,195,[.fp [.fn 146 []] 0],s.blocks.any (conflict s)⟩,
 ⟨11,147,[],lapF [] s.blocks⟩]
theorem e_conds (s:Site):L.call 79 [] []=some (.fz false 2 ((condL s).map Cond.enc),[]):=
 call_eq rfl rfl (by
   simp only [↓eA,eB,seval,c79,e_mkBench,e_mkBlock,e_mkEither,e_mkEither0]
   rfl)
theorem cond_call (s:Site)(hF:s.Fit):∀ c∈condL s,closedL c.caps=true∧L.call c.g (s.enc :: c.caps) []=some (.bool c.val,[]):=by
 intro c hc
 simp only [condL,List.mem_cons,List.not_mem_nil,or_false] at hc
 rcases hc with rfl | rfl | rfl | rfl | rfl | rfl | rfl | rfl | rfl
 · exact ⟨rfl,e_c1 s⟩
 · exact ⟨rfl,e_c2 s⟩
 · exact ⟨rfl,e_either s _ _ _ _ rfl rfl _ _ (e_anyBench s hF _ _ fun b hb=>e_c3 s b (hF.en b hb)) (e_anyBlock s hF _ _ fun b hb=>e_c4 s b (hF.bn b hb))⟩
 · exact ⟨rfl,e_either s _ _ _ _ rfl rfl _ _ (e_anyBench s hF _ _ fun b hb=>e_c5 s b) (e_anyBlock s hF _ _ fun b hb=>e_c6 s b)⟩
 · exact ⟨rfl,e_either s _ _ _ _ rfl rfl _ _ (e_anyBench s hF _ _ fun b hb=>e_c7 s b) (e_anyBlock s hF _ _ fun b hb=>e_c8 s b)⟩
 · exact ⟨rfl,e_c9 s hF⟩
 · exact ⟨rfl,e_either s _ _ _ _ rfl rfl _ _ (e_twice s hF) (e_c10 s hF)⟩
 · exact ⟨rfl,e_anyBlock s hF _ _ fun b hb=>e_c11 s hF b⟩
 · exact ⟨rfl,e_c12 s hF⟩
theorem lp_bCheck (s:Site)(cs:List Cond)(hl:cs.length < 1000)(hc:∀ c∈cs,closedL c.caps=true∧L.call c.g (s.enc :: c.caps) []=some (.bool c.val,[]))(e:Env)(H:Heap)(h1:Gs.get e 1 = .ptr 1 0)(h12:Gs.get e 12 = .fz false 2 (cs.map Cond.enc))(h13:Gs.get e 13=int cs.length)(h14:Gs.get e 14=int 0)(hH:hget H 1=some (.box s.cells false)) :
   Ends T 42005 e H (fun X e' H'=>match cs.find? (·.val) with
     | some c=>X = .ret∧Gs.get e' 2=int c.err
     | none=>X = .ex 0):=by
 refine (loop_findH (T:=T) (key:=42005) (li:=l42005.1) rfl cs (·.val) (fun i e H=>Gs.get e 1 = .ptr 1 0∧Gs.get e 12 = .fz false 2 (cs.map Cond.enc)∧Gs.get e 13=int cs.length∧Gs.get e 14=int i∧hget H 1=some (.box s.cells false))
   (fun c X e' H'=>X = .ret∧Gs.get e' 2=int c.err) (fun X e' H'=>X = .ex 0) ?_ ?_ e H ⟨h1,h12,h13,h14,hH⟩).mono fun X e' H' h=>by cases hf:cs.find? (·.val)<;>rw [hf] at h<;>exact h
 · rintro i c e H hx hi ⟨h1,h12,h13,h14,hH⟩
   have hx':(cs.map Cond.enc)[i]?=some c.enc:=by simp [hx]
   obtain ⟨hcl,hcall⟩:=hc c (List.mem_of_getElem? hx)
   cases hv:c.val with
   | true=>
     rw [hv] at hcall
     simp only [↓eA,eB,seval,l42005,h1,h12,h13,h14,hH,hi,hx',renL_closed hcl,hcall]
     and_intros<;>first | trivial | rfl
   | false=>
     rw [hv] at hcall
     simp only [↓eA,eB,seval,l42005,h1,h12,h13,h14,hH,hi,hx',renL_closed hcl,hcall,wrap_succ (show i < 4611686018427387904 by omega)]
     and_intros<;>first | trivial | rfl
 · rintro e H ⟨h1,h12,h13,h14,hH⟩
   simp only [↓eA,eB,seval,l42005,h1,h12,h13,h14,hH,Nat.lt_irrefl]
   and_intros<;>first | trivial | rfl
def siteErr (s:Site):Int:=bif !decide (surveyErr s.survey=0) then surveyErr s.survey else match (condL s).find? (·.val) with
 | some c=>c.err
 | none=>0
theorem e_siteCheck (s:Site)(hF:s.Fit):L.call 42 [s.enc] []=some (int (siteErr s),[]):=
 call_eq rfl rfl (by
   have h1:=e_pCheck s.survey hF.sv
   have h2:=e_conds s
   have h3:=cond_call s hF
   have hlen:(condL s).length < 1000:=by simp [condL]
   unfold siteErr
   generalize condL s=cs at h2 h3 hlen
   cases hs:decide (surveyErr s.survey=0) with
   | false=>simp only [↓eA,eB,seval,c42,h1,hs]
   | true=>
   simp only [↓eA,eB,seval,c42,h1,h2,hs,List.length_map]
   generalize hE:(lim T).loop 42005 _ _=R
   obtain ⟨X,e',H',rfl,hp⟩:=Ends.at hE (lp_bCheck s cs hlen h3 _ _ (by simp only [↓eA,eB,seval]) (by simp only [↓eA,eB,seval]) (by simp only [↓eA,eB,seval]) (by simp only [↓eA,eB,seval]) rfl)
   cases hf:cs.find? (·.val) with
   | some c=>rw [hf] at hp; obtain ⟨rfl,g2⟩:=hp; simp only [↓eA,eB,seval,g2]
   | none=>rw [hf] at hp; subst hp; simp only [↓eA,eB,seval])
end Tz.C18
set_option maxRecDepth 100000
open Gs Go
namespace Tz.C18
abbrev stc (s:Site)(m:D):List D:=[int s.survey.pit.x0,int s.survey.pit.y0,int s.survey.pit.z0,int s.survey.pit.x1,int s.survey.pit.y1,int s.survey.pit.z1,.bool s.survey.o0,.bool s.survey.o1,.bool s.survey.o2,.bool s.survey.o3,
 .fz false 2 (s.survey.beds.map Bed.enc),.fz false 5 (s.survey.joints.map Joint.enc),.fz false 4 (s.survey.flaws.map Flaw.enc),benchs s.benches,blks s.blocks,int s.safety.batter,int s.safety.width,.fz false 5 (s.stands.map Stand.enc),int s.density,m]
abbrev ste (s:Site)(m:D):D:=.agg (stc s m)
abbrev zst:List D:=[int 0,int 0,int 0,int 0,int 0,int 0,.bool false,.bool false,.bool false,.bool false,.fz true 2 [],.fz true 5 [],.fz true 4 [],.fz true 3 [],.fz true 7 [],int 0,int 0,.fz true 5 [],int 0,.fm []]
abbrev strs (l:List ByteArray):D:=.fz false 1 (l.map .str)
abbrev strz (nz:Bool)(l:List ByteArray):D:=.fz nz 1 (l.map .str)
def called (n:ByteArray)(b:Block):Bool:=seq b.name n
theorem e_ix1 (n:ByteArray)(b:Block):L.call 160 [b.enc,.fp [.str n] 0] []=some (.bool (called n b),[]):=
 call_eq rfl rfl (by simp only [↓eA,eB,seval,c160]; rfl)
theorem e_ix (s:Site)(hF:s.Fit)(tk:List D)(n:ByteArray):L.call 105 [ste s (.fm tk),.str n] []=some (int (idxOf (called n) s.blocks),[]):=
 call_eq rfl rfl (by
   have h:=e_idx_block (called n) 160 [.fp [.str n] 0] false s.blocks (by have:=hF.bl; omega) rfl (fun x _=>e_ix1 n x)
   simp only [↓eA,eB,seval,c105,h])
theorem e_ixo (s:Site)(hF:s.Fit)(tk:List D)(n:ByteArray):L.call 105 [ste s (.mp 500000),.str n] [(500000,.mapB tk false)]=some (int (idxOf (called n) s.blocks),[(500000,.mapB tk false)]):=
 call_eq rfl rfl (by
   have h:=e_idx_block (called n) 160 [.fp [.str n] 0] false s.blocks (by have:=hF.bl; omega) rfl (fun x _=>e_ix1 n x)
   simp only [↓eA,eB,seval,c105,h])
theorem idx_lt0 {α:Type}(p:α→Bool)(bs:List α):decide (idxOf p bs < 0) = !bs.any p:=by
 have h:=idxOf_ge p bs
 rw [←h]
 by_cases hh:idxOf p bs < 0
 · rw [decide_eq_true hh,decide_eq_false (by omega)]; rfl
 · rw [decide_eq_false hh,decide_eq_true (by omega)]; rfl
def unknown (s:Site)(n:ByteArray):Bool:=!s.blocks.any (called n)
abbrev H3 (s:Site)(m:List D):Heap:=[(4,.box zst false),(7,.box (stc s (.mp 19)) false),(19,.mapB m false)]
theorem lp_start1 (s:Site)(hF:s.Fit)(nz:Bool)(tk:List ByteArray)(ht:tk.length < 1000000)(e:Env)(H:Heap)(h1:Gs.get e 1=strz nz tk)(h4:Gs.get e 4 = .ptr 4 0)(h7:Gs.get e 7 = .ptr 7 0)(h21:Gs.get e 21=strz nz tk)(h22:Gs.get e 22=int tk.length)(h23:Gs.get e 23=int 0)(hH4:hget H 4=some (.box zst false))(hH7:hget H 7=some (.box (stc s (.mp 19)) false))(hM:hget H 19=some (.mapB [] false)) :
   Ends T 58006 e H (fun X e' H'=>match tk.any (unknown s) with
     | true=>X = .ret∧Gs.get e' 4 = .fp zst 0∧Gs.get e' 5=int 3
     | false=>X = .ex 0∧Gs.get e' 1=strz nz tk∧Gs.get e' 4 = .ptr 4 0∧Gs.get e' 7 = .ptr 7 0∧H'=H3 s []):=by
 refine (loop_anyH (T:=T) (key:=58006) (li:=l58006.1) rfl tk (unknown s) (fun i e H=>Gs.get e 1=strz nz tk∧Gs.get e 4 = .ptr 4 0∧Gs.get e 7 = .ptr 7 0∧Gs.get e 21=strz nz tk∧Gs.get e 22=int tk.length∧Gs.get e 23=int i∧hget H 4=some (.box zst false)∧hget H 7=some (.box (stc s (.mp 19)) false)∧hget H 19=some (.mapB [] false))
   (fun X e' H'=>X = .ret∧Gs.get e' 4 = .fp zst 0∧Gs.get e' 5=int 3) (fun X e' H'=>X = .ex 0∧Gs.get e' 1=strz nz tk∧Gs.get e' 4 = .ptr 4 0∧Gs.get e' 7 = .ptr 7 0∧H'=H3 s []) ?_ ?_ e H ⟨h1,h4,h7,h21,h22,h23,hH4,hH7,hM⟩).mono fun X e' H' h=>by cases hf:tk.any (unknown s)<;>rw [hf] at h<;>exact h
 · rintro i n e H hx hi ⟨h1,h4,h7,h21,h22,h23,hH4,hH7,hM⟩
   have hx':(tk.map D.str)[i]?=some (.str n):=by simp [hx]
   have hc:=e_ixo s hF [] n
   have hu:=idx_lt0 (called n) s.blocks
   cases hb:unknown s n with
   | true=>
     unfold unknown at hb
     rw [hb] at hu
     simp only [↓eA,eB,seval,l58006,h1,h4,h7,h21,h22,h23,hH4,hH7,hM,hi,hx',hc,hu,killE_nil]
     and_intros<;>first | trivial | rfl
   | false=>
     unfold unknown at hb
     rw [hb] at hu
     simp only [↓eA,eB,seval,l58006,h1,h4,h7,h21,h22,h23,hH4,hH7,hM,hi,hx',hc,hu,killE_nil,wrap_succ (show i < 4611686018427387904 by omega)]
     and_intros<;>first | trivial | rfl
 · rintro e H ⟨h1,h4,h7,h21,h22,h23,hH4,hH7,hM⟩
   simp only [↓eA,eB,seval,l58006,h1,h4,h7,h21,h22,h23,hH4,hH7,hM,Nat.lt_irrefl]
   and_intros<;>first | trivial | rfl
theorem lp_start2 (s:Site)(nz:Bool)(tk:List ByteArray)(ht:tk.length < 1000000)(e:Env)(H:Heap)(h4:Gs.get e 4 = .ptr 4 0)(h7:Gs.get e 7 = .ptr 7 0)(h33:Gs.get e 33=strz nz tk)(h34:Gs.get e 34=int tk.length)(h35:Gs.get e 35=int 0)(hH4:hget H 4=some (.box zst false))(hH7:hget H 7=some (.box (stc s (.mp 19)) false))(hM:hget H 19=some (.mapB [] false)) :
   Ends T 58012 e H (fun X e' H'=>match dupS [] tk with
     | true=>X = .ret∧Gs.get e' 4 = .fp zst 0∧Gs.get e' 5=int 5
     | false=>X = .ex 2∧Gs.get e' 4 = .ptr 4 0∧Gs.get e' 7 = .ptr 7 0∧H'=H3 s (entT tk)):=by
 refine (loop_thru (T:=T) (key:=58012) (li:=l58012.1) rfl (fun (t:List ByteArray) (n:ByteArray)=>bif t.any (seq n) then .inl () else .inr (t ++ [n])) tk
   (fun i t e H=>Gs.get e 4 = .ptr 4 0∧Gs.get e 7 = .ptr 7 0∧Gs.get e 33=strz nz tk∧Gs.get e 34=int tk.length∧Gs.get e 35=int i∧hget H 4=some (.box zst false)∧hget H 7=some (.box (stc s (.mp 19)) false)∧hget H 19=some (.mapB (entT t) false))
   (fun _ X e' H'=>X = .ret∧Gs.get e' 4 = .fp zst 0∧Gs.get e' 5=int 5) (fun t X e' H'=>X = .ex 2∧Gs.get e' 4 = .ptr 4 0∧Gs.get e' 7 = .ptr 7 0∧H'=H3 s (entT t)) ?_ ?_ ?_ tk [] [] e H rfl ⟨h4,h7,h33,h34,h35,hH4,hH7,hM⟩).mono fun X e' H' h=>?_
 · rintro i n t t' e H hx ⟨h4,h7,h33,h34,h35,hH4,hH7,hM⟩ hf
   have hi:=(List.getElem?_eq_some_iff.1 hx).1
   have hx':(tk.map D.str)[i]?=some (.str n):=by simp [hx]
   have hn:t.any (seq n)=false:=by cases hb:t.any (seq n)<;>simp_all
   rw [hn] at hf
   injection hf with hf; subst hf
   have hm:mfind (.str n) (entT t)=some none:=by rw [mfind_entT,hn]; rfl
   have hp:=mput_entT n t hn
   simp only [↓eA,eB,seval,l58012,h4,h7,h33,h34,h35,hH4,hH7,hM,hi,hx',hm,hp,wrap_succ (show i < 4611686018427387904 by omega)]
   and_intros<;>first | trivial | rfl
 · rintro i n t r e H hx ⟨h4,h7,h33,h34,h35,hH4,hH7,hM⟩ hf
   have hi:=(List.getElem?_eq_some_iff.1 hx).1
   have hx':(tk.map D.str)[i]?=some (.str n):=by simp [hx]
   have hn:t.any (seq n)=true:=by cases hb:t.any (seq n)<;>simp_all
   have hm:mfind (.str n) (entT t)=some (some (.bool true)):=by rw [mfind_entT,hn]; rfl
   simp only [↓eA,eB,seval,l58012,h4,h7,h33,h34,h35,hH4,hH7,hM,hi,hx',hm]
   and_intros<;>first | trivial | rfl
 · rintro t e H ⟨h4,h7,h33,h34,h35,hH4,hH7,hM⟩
   simp only [↓eA,eB,seval,l58012,h4,h7,h33,h34,h35,hH4,hH7,hM,Nat.lt_irrefl]
   and_intros<;>first | trivial | rfl
 · have hd:=thru_dupS (fun n:ByteArray=>n) tk []
   rw [hd] at h
   simp only [List.map_id',List.nil_append] at h
   cases hq:dupS [] tk<;>rw [hq] at h<;>exact h
def startErr (s:Site)(tk:List ByteArray):Int:=bif !decide (siteErr s=0) then siteErr s else bif tk.any (unknown s) then 3 else bif dupS [] tk then 5 else 0
theorem e_start (s:Site)(hF:s.Fit)(nz:Bool)(tk:List ByteArray)(ht:tk.length < 1000000):L.call 58 [s.enc,strz nz tk] []=some (.tup [.agg (bif decide (startErr s tk=0) then stc s (.fm (entT tk)) else zst),int (startErr s tk)],[]):=
 call_eq rfl rfl (by
   have h1:=e_siteCheck s hF
   unfold startErr
   cases hs:decide (siteErr s=0) with
   | false=>simp only [Bool.not_false,cond_true,hs,cond_false]; simp only [↓eA,eB,seval,c58,h1,hs]
   | true=>
   simp only [↓eA,eB,seval,c58,h1,hs,List.length_map]
   generalize hE:(lim T).loop 58006 _ _=R
   obtain ⟨X,e',H',rfl,hp⟩:=Ends.at hE (lp_start1 s hF nz tk ht _ _ (by simp only [↓eA,eB,seval]) (by simp only [↓eA,eB,seval]) (by simp only [↓eA,eB,seval]) (by simp only [↓eA,eB,seval]) (by simp only [↓eA,eB,seval]) (by simp only [↓eA,eB,seval]) rfl rfl rfl)
   cases hu:tk.any (unknown s) with
   | true=>
     rw [hu] at hp
     obtain ⟨rfl,g4,g5⟩:=hp
     simp only [↓eA,eB,seval,g4,g5]
   | false=>
   rw [hu] at hp
   obtain ⟨rfl,g1,g4,g7,rfl⟩:=hp
   simp only [↓eA,eB,seval,g1,g4,g7,List.length_map]
   generalize hE:(lim T).loop 58012 _ _=R
   obtain ⟨X,e',H',rfl,hp⟩:=Ends.at hE (lp_start2 s nz tk ht _ _ (by simp only [↓eA,eB,seval,g4]) (by simp only [↓eA,eB,seval,g7]) (by simp only [↓eA,eB,seval]) (by simp only [↓eA,eB,seval]) (by simp only [↓eA,eB,seval]) rfl rfl rfl)
   cases hd:dupS [] tk with
   | true=>
     rw [hd] at hp
     obtain ⟨rfl,g4,g5⟩:=hp
     simp only [↓eA,eB,seval,g4,g5]
   | false=>
   rw [hd] at hp
   obtain ⟨rfl,g4,g7,rfl⟩:=hp
   simp only [↓eA,eB,seval,g4,g7])
end Tz.C18
set_option maxRecDepth 100000
open Gs Go
namespace Tz.C18
def sizeB (b:Box):Int:=bif (decide (wsub b.x1 b.x0≤0) || decide (wsub b.y1 b.y0≤0)) || decide (wsub b.z1 b.z0≤0) then 0 else wmul (wmul (wsub b.x1 b.x0) (wsub b.y1 b.y0)) (wsub b.z1 b.z0)
theorem e_size (b:Box):L.call 114 [b.enc] []=some (int (sizeB b),[]):=
 call_eq rfl rfl (by
   simp only [↓eA,eB,seval,c114]
   unfold sizeB
   cases h:((decide (wsub b.x1 b.x0≤0) || decide (wsub b.y1 b.y0≤0)) || decide (wsub b.z1 b.z0≤0)) with
   | true=>simp only [↓eA,eB,seval]
   | false=>simp only [↓eA,eB,seval])
def inter (b c:Box):Box:=⟨max b.x0 c.x0,max b.y0 c.y0,max b.z0 c.z0,min b.x1 c.x1,min b.y1 c.y1,min b.z1 c.z1⟩
def taken (tk:List ByteArray)(b:Block):Bool:=tk.any (seq b.name)
def openStep (tk:List ByteArray)(b:Box)(left:Int)(x:Block):Int:=bif taken tk x then wsub left (sizeB (inter b x.box)) else left
def openSt (s:Site)(tk:List ByteArray)(b:Box):Bool:=decide (s.blocks.foldl (openStep tk b) (sizeB b)=0)
theorem lp_open (s:Site)(hF:s.Fit)(tk:List ByteArray)(b:Box)(e:Env)(H:Heap)(h2:Gs.get e 2 = .ptr 2 0)(h3:Gs.get e 3 = .ptr 3 0)(h5:Gs.get e 5=int (sizeB b))(h13:Gs.get e 13=blks s.blocks)(h14:Gs.get e 14=int s.blocks.length)(h15:Gs.get e 15=int 0)(hH2:hget H 2=some (.box (stc s (.fm (entT tk))) false))(hH3:hget H 3=some (.box [int b.x0,int b.y0,int b.z0,int b.x1,int b.y1,int b.z1] false)) :
   Ends T 74003 e H (fun X e' H'=>X = .ex 0∧Gs.get e' 5=int (s.blocks.foldl (openStep tk b) (sizeB b))):=by
 have hb:=hF.bl
 refine loop_fold (T:=T) (key:=74003) (li:=l74003.1) rfl s.blocks (openStep tk b)
   (fun i a e H=>Gs.get e 2 = .ptr 2 0∧Gs.get e 3 = .ptr 3 0∧Gs.get e 5=int a∧Gs.get e 13=blks s.blocks∧Gs.get e 14=int s.blocks.length∧Gs.get e 15=int i∧hget H 2=some (.box (stc s (.fm (entT tk))) false)∧hget H 3=some (.box [int b.x0,int b.y0,int b.z0,int b.x1,int b.y1,int b.z1] false))
   (fun a X e' H'=>X = .ex 0∧Gs.get e' 5=int a) ?_ ?_ _ e H ⟨h2,h3,h5,h13,h14,h15,hH2,hH3⟩
 · rintro i x a e H hx hi ⟨h2,h3,h5,h13,h14,h15,hH2,hH3⟩
   have hx':(s.blocks.map Block.enc)[i]?=some x.enc:=by simp [hx]
   have hs:L.call 114 [.agg [int (max b.x0 x.box.x0),int (max b.y0 x.box.y0),int (max b.z0 x.box.z0),int (min b.x1 x.box.x1),int (min b.y1 x.box.y1),int (min b.z1 x.box.z1)]] []=some (int (sizeB (inter b x.box)),[]):=e_size (inter b x.box)
   have hm:=mfind_entT x.name tk
   unfold openStep
   cases ht:taken tk x with
   | true=>
     unfold taken at ht
     rw [ht] at hm
     simp only [↓eA,eB,seval,l74003,h2,h3,h5,h13,h14,h15,hH2,hH3,hi,hx',hs,hm,wrap_succ (show i < 4611686018427387904 by omega)]
     and_intros<;>first | trivial | rfl
   | false=>
     unfold taken at ht
     rw [ht] at hm
     simp only [↓eA,eB,seval,l74003,h2,h3,h5,h13,h14,h15,hH2,hH3,hi,hx',hs,hm,wrap_succ (show i < 4611686018427387904 by omega)]
     and_intros<;>first | trivial | rfl
 · rintro a e H ⟨h2,h3,h5,h13,h14,h15,hH2,hH3⟩
   simp only [↓eA,eB,seval,l74003,h2,h3,h5,h13,h14,h15,hH2,hH3,Nat.lt_irrefl]
   and_intros<;>first | trivial | rfl
theorem e_open57 (s:Site)(hF:s.Fit)(tk:List ByteArray)(b:Box):L.call 74 [ste s (.fm (entT tk)),b.enc] []=some (.bool (openSt s tk b),[]):=
 call_eq rfl rfl (by
   simp only [↓eA,eB,seval,c74,e_size b,List.length_map]
   generalize hE:(lim T).loop 74003 _ _=R
   obtain ⟨X,e',H',rfl,rfl,g5⟩:=Ends.at hE (lp_open s hF tk b _ _ (by simp only [↓eA,eB,seval]) (by simp only [↓eA,eB,seval]) (by simp only [↓eA,eB,seval]) (by simp only [↓eA,eB,seval]) (by simp only [↓eA,eB,seval]) (by simp only [↓eA,eB,seval]) rfl rfl)
   simp only [↓eA,eB,seval,g5]
   rfl)
def outB (b:Box)(d:Int):Box:=if d=0 then ⟨b.x1,b.y0,b.z0,IntKind.i64.wrap (b.x1 + 1),b.y1,b.z1⟩ else if d=1 then ⟨wsub b.x0 1,b.y0,b.z0,b.x0,b.y1,b.z1⟩ else
 if d=2 then ⟨b.x0,b.y1,b.z0,b.x1,IntKind.i64.wrap (b.y1 + 1),b.z1⟩ else if d=3 then ⟨b.x0,wsub b.y0 1,b.z0,b.x1,b.y0,b.z1⟩ else b
theorem e_out (b:Box)(d:Int)(h:d=0∨d=1∨d=2∨d=3):L.call 168 [b.enc,int d] []=some ((outB b d).enc,[]):=by
 rcases h with rfl | rfl | rfl | rfl
 · exact call_eq rfl rfl (by simp only [↓eA,eB,seval,c168]; rfl)
 · exact call_eq rfl rfl (by simp only [↓eA,eB,seval,c168]; rfl)
 · exact call_eq rfl rfl (by simp only [↓eA,eB,seval,c168]; rfl)
 · exact call_eq rfl rfl (by simp only [↓eA,eB,seval,c168]; rfl)
theorem e_bedded1 (z:Int)(b:Bed):L.call 164 [b.enc,.fp [int z] 0] []=some (.bool (decide (b.z=z)),[]):=
 call_eq rfl rfl (by simp only [↓eA,eB,seval,c164])
def beddedB (s:Survey)(z:Int):Bool:=s.beds.any fun b=>decide (b.z=z)
theorem e_bedded (s:Survey)(hF:s.Fit)(z:Int):L.call 108 [s.enc,int z] []=some (.bool (beddedB s z),[]):=
 call_eq rfl rfl (by
   have h:=e_con_bed (fun b=>decide (b.z=z)) 164 [.fp [int z] 0] false s.beds (by have:=hF.bl; omega) rfl (fun x _=>e_bedded1 z x)
   simp only [↓eA,eB,seval,c108,h]
   rfl)
def partB (s:Site)(tk:List ByteArray)(c:Box)(lo hi:Int):Bool:=decide (hi≤lo) || openSt s tk ⟨c.x0,c.y0,lo,c.x1,c.y1,hi⟩
theorem e_part (s:Site)(hF:s.Fit)(tk:List ByteArray)(c:Box)(lo hi:Int) :
   L.call 169 [int hi,.ptr 500000 0,.ptr 500001 0,.fp (stc s (.fm (entT tk))) 0] [(500000,.box [int c.x0,int c.y0,int c.z0,int c.x1,int c.y1,int c.z1] false),(500001,.box [int lo] false)]=some (.bool (partB s tk c lo hi),[(500000,.box [int c.x0,int c.y0,int c.z0,int c.x1,int c.y1,int c.z1] false),(500001,.box [int lo] false)]):=
 call_eq rfl rfl (by
   have h:=e_open57 s hF tk ⟨c.x0,c.y0,lo,c.x1,c.y1,hi⟩
   simp only [↓eA,eB,seval,c169,h]
   rfl)
def scanB (s:Site)(tk:List ByteArray)(c:Box)(top:Int):List (Int×Int)→Int→Bool
 | [],lo=>partB s tk c lo top
 | j :: r,lo=>bif partB s tk c lo j.1 then scanB s tk c top r (IntKind.i64.wrap (j.2 + 1)) else false
def scanF (s:Site)(tk:List ByteArray)(c:Box)(lo:Int)(j:Int×Int):Unit ⊕ Int:=bif partB s tk c lo j.1 then .inr (IntKind.i64.wrap (j.2 + 1)) else .inl ()
theorem thru_scan (s:Site)(tk:List ByteArray)(c:Box)(top:Int):∀ (l:List (Int×Int)) (lo:Int),scanB s tk c top l lo=match thru (scanF s tk c) l lo with | .inl _=>false | .inr x=>partB s tk c x top
 | [],lo=>rfl
 | j :: r,lo=>by
   simp only [scanB,thru,scanF]
   cases partB s tk c lo j.1 with
   | false=>rfl
   | true=>simp only [cond_true]; exact thru_scan s tk c top r _
abbrev bcells (b:Box):List D:=[int b.x0,int b.y0,int b.z0,int b.x1,int b.y1,int b.z1]
abbrev partFn (s:Site)(tk:List ByteArray):D:=.fn 169 [.ptr 9 0,.ptr 10 0,.fp (stc s (.fm (entT tk))) 0]
theorem lp_free (s:Site)(hF:s.Fit)(tk:List ByteArray)(b c:Box)(js:List (Int×Int))(hj:js.length < 4000000000)(lo:Int)(e:Env)(H:Heap)(h2:Gs.get e 2 = .fp (bcells b) 0)(h10:Gs.get e 10 = .ptr 10 0)(h11:Gs.get e 11=partFn s tk)(h40:Gs.get e 40 = .fz true 2 (js.map ivD))(h41:Gs.get e 41=int js.length)(h42:Gs.get e 42=int 0)(hH9:hget H 9=some (.box (bcells c) false))(hH10:hget H 10=some (.box [int lo] false)) :
   Ends T 165009 e H (fun X e' H'=>match thru (scanF s tk c) js lo with
     | .inl _=>X = .ret∧Gs.get e' 4 = .bool false
     | .inr x=>X = .ex 0∧Gs.get e' 2 = .fp (bcells b) 0∧Gs.get e' 11=partFn s tk∧H'=[(9,.box (bcells c) false),(10,.box [int x] false)]):=by
 refine (loop_thru (T:=T) (key:=165009) (li:=l165009.1) rfl (scanF s tk c) js
   (fun i x e H=>Gs.get e 2 = .fp (bcells b) 0∧Gs.get e 10 = .ptr 10 0∧Gs.get e 11=partFn s tk∧Gs.get e 40 = .fz true 2 (js.map ivD)∧Gs.get e 41=int js.length∧Gs.get e 42=int i∧hget H 9=some (.box (bcells c) false)∧hget H 10=some (.box [int x] false))
   (fun _ X e' H'=>X = .ret∧Gs.get e' 4 = .bool false) (fun x X e' H'=>X = .ex 0∧Gs.get e' 2 = .fp (bcells b) 0∧Gs.get e' 11=partFn s tk∧H'=[(9,.box (bcells c) false),(10,.box [int x] false)]) ?_ ?_ ?_ js [] lo e H rfl ⟨h2,h10,h11,h40,h41,h42,hH9,hH10⟩).mono fun X e' H' h=>by cases hf:thru (scanF s tk c) js lo<;>rw [hf] at h<;>exact h
 · rintro i j x x' e H hx ⟨h2,h10,h11,h40,h41,h42,hH9,hH10⟩ hf
   have hi:=(List.getElem?_eq_some_iff.1 hx).1
   have hx':(js.map ivD)[i]?=some (.agg [int j.1,int j.2]):=by simp [hx,ivD]
   have hp:=e_part s hF tk c x j.1
   unfold scanF at hf
   cases hb:partB s tk c x j.1 with
   | false=>rw [hb] at hf; cases hf
   | true=>
   rw [hb] at hf hp
   injection hf with hf; subst hf
   simp only [↓eA,eB,seval,l165009,h2,h10,h11,h40,h41,h42,hH9,hH10,hi,hx',hp,killE_nil,wrap_succ (show i < 4611686018427387904 by omega)]
   and_intros<;>first | trivial | rfl
 · rintro i j x r e H hx ⟨h2,h10,h11,h40,h41,h42,hH9,hH10⟩ hf
   have hi:=(List.getElem?_eq_some_iff.1 hx).1
   have hx':(js.map ivD)[i]?=some (.agg [int j.1,int j.2]):=by simp [hx,ivD]
   have hp:=e_part s hF tk c x j.1
   unfold scanF at hf
   cases hb:partB s tk c x j.1 with
   | true=>rw [hb] at hf; cases hf
   | false=>
   rw [hb] at hp
   simp only [↓eA,eB,seval,l165009,h2,h10,h11,h40,h41,h42,hH9,hH10,hi,hx',hp,killE_nil]
   and_intros<;>first | trivial | rfl
 · rintro x e H ⟨h2,h10,h11,h40,h41,h42,hH9,hH10⟩
   simp only [↓eA,eB,seval,l165009,h2,h10,h11,h40,h41,h42,hH9,hH10,Nat.lt_irrefl]
   and_intros<;>first | trivial | rfl
def freeB (s:Site)(tk:List ByteArray)(b:Box)(d:Int):Bool:=(decide (sidedErr s.survey b d=0) && openB s.survey b d) || scanB s tk (outB b d) b.z1 (jointedR s.survey b d).1 b.z0
theorem e_free (s:Site)(hF:s.Fit)(tk:List ByteArray)(b:Box)(d:Int)(hd:d=0∨d=1∨d=2∨d=3)(hj:(jointedR s.survey b d).1.length < 4000000000) :
   L.call 165 [int d,.fp (stc s (.fm (entT tk))) 0,.fp (bcells b) 0] []=some (.bool (freeB s tk b d),[]):=
 call_eq rfl rfl (by
   have h1:=e_open s.survey hF.sv b d
   have h2:=e_jointed s.survey hF.sv b d
   have h3:=e_out b d hd
   unfold freeB
   cases ho:(decide (sidedErr s.survey b d=0) && openB s.survey b d) with
   | true=>rw [ho] at h1; simp only [↓eA,eB,seval,c165,h1]
   | false=>
   rw [ho] at h1
   rw [thru_scan]
   generalize (jointedR s.survey b d).1=js at h2 hj ⊢
   generalize outB b d=c at h3 ⊢
   simp only [↓eA,eB,seval,c165,h1,h2,h3,List.length_map]
   generalize hE:(lim T).loop 165009 _ _=R
   obtain ⟨X,e',H',rfl,hp⟩:=Ends.at hE (lp_free s hF tk b c js hj b.z0 _ _ (by simp only [↓eA,eB,seval]) (by simp only [↓eA,eB,seval]) (by simp only [↓eA,eB,seval]) (by simp only [↓eA,eB,seval]) (by simp only [↓eA,eB,seval]) (by simp only [↓eA,eB,seval]) rfl rfl)
   cases ht:thru (scanF s tk c) js b.z0 with
   | inl u=>rw [ht] at hp; obtain ⟨rfl,g4⟩:=hp; simp only [↓eA,eB,seval,g4]
   | inr x=>
     rw [ht] at hp
     obtain ⟨rfl,g2,g11,rfl⟩:=hp
     have hpart:=e_part s hF tk c x b.z1
     simp only [↓eA,eB,seval,g2,g11,hpart,killE_nil])
end Tz.C18
set_option maxRecDepth 100000
open Gs Go
namespace Tz.C18
theorem foldl_len {α:Type}(g:List (Int×Int)→α→List (Int×Int))(h:∀ a x,(g a x).length≤a.length + 1):∀ (l:List α) (a:List (Int×Int)),(l.foldl g a).length≤a.length + l.length
 | [],a=>by simp
 | x :: r,a=>by
   have h1:=foldl_len g h r (g a x)
   have h2:=h a x
   simp only [List.foldl_cons,List.length_cons]
   omega
theorem jointed_len (s:Survey)(hF:s.Fit)(b:Box)(d:Int):(jointedR s b d).1.length < 4000000000:=by
 have hjl:=jList_len s b (planeAx d) (planeAt b d)
 have hj:=hF.jl
 have h1:=foldl_len mstep (fun a x=>mstep_len (acc:=a) (x:=x)) (sortIv (pJointed s b d)) []
 have h2:=(sortIv_all (pJointed s b d)).1.length_eq
 have h3:(merged (pJointed s b d)).length < 4000000000:=by
   unfold merged
   unfold pJointed at *
   simp only [List.length_nil] at h1
   omega
 unfold jointedR
 cases decide (sidedErr s b d=0)<;>cases decide (nrmErr (pJointed s b d)=0)<;>simp only [cond_true,cond_false,List.length_nil]<;>omega
theorem e_faces (s:Site)(hF:s.Fit)(tk:List ByteArray)(b:Box):L.call 109 [ste s (.fm (entT tk)),b.enc] []=some (.agg [.bool (freeB s tk b 0),.bool (freeB s tk b 1),.bool (freeB s tk b 2),.bool (freeB s tk b 3)],[]):=
 call_eq rfl rfl (by
   have f0:=e_free s hF tk b 0 (.inl rfl) (jointed_len _ hF.sv _ _)
   have f1:=e_free s hF tk b 1 (.inr (.inl rfl)) (jointed_len _ hF.sv _ _)
   have f2:=e_free s hF tk b 2 (.inr (.inr (.inl rfl))) (jointed_len _ hF.sv _ _)
   have f3:=e_free s hF tk b 3 (.inr (.inr (.inr rfl))) (jointed_len _ hF.sv _ _)
   simp only [↓eA,eB,seval,c109]
   rw [loop_unfold_c (T:=T) (k:=109004) rfl]
   simp only [↓eA,eB,seval,l109004,f0,i40]
   rw [loop_unfold_c (T:=T) (k:=109004) rfl]
   simp only [↓eA,eB,seval,l109004,f1,i41]
   rw [loop_unfold_c (T:=T) (k:=109004) rfl]
   simp only [↓eA,eB,seval,l109004,f2,i42]
   rw [loop_unfold_c (T:=T) (k:=109004) rfl]
   simp only [↓eA,eB,seval,l109004,f3,i43]
   rw [loop_unfold_c (T:=T) (k:=109004) rfl]
   simp only [↓eA,eB,seval,l109004])
def firstP (tk:List ByteArray)(but:ByteArray)(p:Box→Bool)(b:Block):Bool:=(!seq b.name but && !taken tk b) && p b.box
theorem lp_first (s:Site)(hF:s.Fit)(tk:List ByteArray)(but:ByteArray)(g:Nat)(caps:List D)(hc:closedL caps=true)(p:Box→Bool)(hp:∀ b∈s.blocks,L.call g (b.box.enc :: caps) []=some (.bool (p b.box),[]))(e:Env)(H:Heap)(h1:Gs.get e 1 = .str but)(h2:Gs.get e 2 = .fn g caps)(h3:Gs.get e 3 = .ptr 3 0)(h12:Gs.get e 12=blks s.blocks)(h13:Gs.get e 13=int s.blocks.length)(h14:Gs.get e 14=int 0)(hH:hget H 3=some (.box (stc s (.fm (entT tk))) false)) :
   Ends T 75002 e H (fun X e' H'=>match s.blocks.find? (firstP tk but p) with
     | some b=>X = .ret∧Gs.get e' 6 = .str b.name∧Gs.get e' 7 = .bool true
     | none=>X = .ex 0):=by
 have hb:=hF.bl
 refine (loop_findH (T:=T) (key:=75002) (li:=l75002.1) rfl s.blocks (firstP tk but p) (fun i e H=>Gs.get e 1 = .str but∧Gs.get e 2 = .fn g caps∧Gs.get e 3 = .ptr 3 0∧Gs.get e 12=blks s.blocks∧Gs.get e 13=int s.blocks.length∧Gs.get e 14=int i∧hget H 3=some (.box (stc s (.fm (entT tk))) false))
   (fun b X e' H'=>X = .ret∧Gs.get e' 6 = .str b.name∧Gs.get e' 7 = .bool true) (fun X e' H'=>X = .ex 0) ?_ ?_ e H ⟨h1,h2,h3,h12,h13,h14,hH⟩).mono fun X e' H' h=>by cases hf:s.blocks.find? (firstP tk but p)<;>rw [hf] at h<;>exact h
 · rintro i b e H hx hi ⟨h1,h2,h3,h12,h13,h14,hH⟩
   have hx':(s.blocks.map Block.enc)[i]?=some b.enc:=by simp [hx]
   have hcall:=hp b (List.mem_of_getElem? hx)
   have hm:=mfind_entT b.name tk
   have hw:=wrap_succ (show i < 4611686018427387904 by omega)
   unfold firstP
   cases hs:seq b.name but<;>cases ht:taken tk b<;>cases hq:p b.box<;>rw [hq] at hcall<;>unfold taken at ht<;>rw [ht] at hm <;>
     simp only [↓eA,eB,seval,l75002,h1,h2,h3,h12,h13,h14,hH,hi,hx',hs,hm,renL_closed hc,hcall,hw]<;>and_intros<;>first | trivial | rfl
 · rintro e H ⟨h1,h2,h3,h12,h13,h14,hH⟩
   simp only [↓eA,eB,seval,l75002,h1,h2,h3,h12,h13,h14,hH,Nat.lt_irrefl]
   and_intros<;>first | trivial | rfl
def firstR (s:Site)(tk:List ByteArray)(but:ByteArray)(p:Box→Bool):Option Block:=s.blocks.find? (firstP tk but p)
abbrev foundD (o:Option Block):D:=match o with
  | some b=>.tup [.str b.name,.bool true]
  | none=>.tup [.str .empty,.bool false]
theorem e_first (s:Site)(hF:s.Fit)(tk:List ByteArray)(but:ByteArray)(g:Nat)(caps:List D)(hc:closedL caps=true)(p:Box→Bool)(hp:∀ b∈s.blocks,L.call g (b.box.enc :: caps) []=some (.bool (p b.box),[])) :
   L.call 75 [ste s (.fm (entT tk)),.str but,.fn g caps] []=some (foundD (firstR s tk but p),[]):=
 call_eq rfl rfl (by
   simp only [↓eA,eB,seval,c75,renL_closed hc,List.length_map]
   generalize hE:(lim T).loop 75002 _ _=R
   obtain ⟨X,e',H',rfl,h⟩:=Ends.at hE (lp_first s hF tk but g caps hc p hp _ _ (by simp only [↓eA,eB,seval]) (by simp only [↓eA,eB,seval]) (by simp only [↓eA,eB,seval]) (by simp only [↓eA,eB,seval]) (by simp only [↓eA,eB,seval]) (by simp only [↓eA,eB,seval]) rfl)
   unfold firstR
   cases hf:s.blocks.find? (firstP tk but p) with
   | some b=>rw [hf] at h; obtain ⟨rfl,g6,g7⟩:=h; simp only [↓eA,eB,seval,g6,g7]
   | none=>rw [hf] at h; subst h; simp only [↓eA,eB,seval]; rfl)
end Tz.C18
set_option maxRecDepth 100000
open Gs Go
namespace Tz.C18
theorem e_why1 (b:Block)(x:Box):L.call 107 [x.enc,.fp b.cells 0] []=some (.bool (decide (b.box.z1≤x.z0) && over2 x b.box),[]):=
 call_eq rfl rfl (by simp only [↓eA,eB,seval,c107,e_over x b.box])
theorem e_why2 (s:Site)(tk:List ByteArray)(b:Block)(x:Box):L.call 110 [x.enc,.fp (stc s (.fm (entT tk))) 0,.fp b.cells 0] []=some (.bool (!clearB s.safety b.box x),[]):=
 call_eq rfl rfl (by
   have h:=e_Clear s.safety b.box x
   simp only [↓eA,eB,seval,c110,h])
abbrev fb (f0 f1 f2 f3:Bool):Nat→Bool
 | 0=>f0
 | 1=>f1
 | 2=>f2
 | 3=>f3
 | _=>false
def cntS (f0 f1 f2 f3:Bool)(a:Int)(i:Nat):Empty ⊕ Int:=.inr (bif fb f0 f1 f2 f3 i then a + 1 else a)
def cntB (f0 f1 f2 f3:Bool):Int:=(((bif f0 then 1 else 0) + (bif f1 then 1 else 0)) + (bif f2 then 1 else 0)) + (bif f3 then 1 else 0)
abbrev H49 (s:Site)(tk:List ByteArray)(b:Block):Heap:=[(2,.box (stc s (.fm (entT tk))) false),(3,.box b.cells true),(4,.box [int 0,.str .empty] false)]
theorem lp_cnt (s:Site)(tk:List ByteArray)(b:Block)(f0 f1 f2 f3:Bool)(e:Env)(H:Heap)(h2:Gs.get e 2 = .ptr 2 0)(h3:Gs.get e 3 = .ptr 3 0)(h4:Gs.get e 4 = .ptr 4 0)(h7:Gs.get e 7=int 0)(h42:Gs.get e 42 = .agg [.bool f0,.bool f1,.bool f2,.bool f3])(h43:Gs.get e 43=int 0)
   (hH2:hget H 2=some (.box (stc s (.fm (entT tk))) false)) (hH3:hget H 3=some (.box b.cells true)) (hH4:hget H 4=some (.box [int 0,.str .empty] false)) :
   Ends T 61010 e H (fun X e' H'=>X = .ex 0∧Gs.get e' 2 = .ptr 2 0∧Gs.get e' 3 = .ptr 3 0∧Gs.get e' 4 = .ptr 4 0∧Gs.get e' 7=int (cntB f0 f1 f2 f3)∧H'=H49 s tk b):=by
 refine (loop_upto (T:=T) (key:=61010) (li:=l61010.1) rfl (cntS f0 f1 f2 f3) 4
   (fun i a e H=>Gs.get e 2 = .ptr 2 0∧Gs.get e 3 = .ptr 3 0∧Gs.get e 4 = .ptr 4 0∧Gs.get e 7=int a∧Gs.get e 42 = .agg [.bool f0,.bool f1,.bool f2,.bool f3]∧Gs.get e 43=int i∧hget H 2=some (.box (stc s (.fm (entT tk))) false)∧hget H 3=some (.box b.cells true)∧hget H 4=some (.box [int 0,.str .empty] false)∧0≤a∧a≤i∧i≤4)
   (fun r X e' H'=>False) (fun a X e' H'=>X = .ex 0∧Gs.get e' 2 = .ptr 2 0∧Gs.get e' 3 = .ptr 3 0∧Gs.get e' 4 = .ptr 4 0∧Gs.get e' 7=int a∧H'=H49 s tk b) ?_ ?_ ?_ 4 0 0 e H rfl ⟨h2,h3,h4,h7,h42,h43,hH2,hH3,hH4,by omega,by omega,by omega⟩).mono fun X e' H' h=>?_
 · rintro i a a' e H hi ⟨h2,h3,h4,h7,h42,h43,hH2,hH3,hH4,ha,hai,_⟩ hf
   injection hf with hf
   have hw:IntKind.i64.wrap (a + 1)=a + 1:=wrap_in (by omega) (by omega)
   have hcase:i=0∨i=1∨i=2∨i=3:=by omega
   rcases hcase with rfl | rfl | rfl | rfl
   · simp only [fb] at hf
     cases f0<;>simp only [cond_true,cond_false] at hf<;>subst hf<;>simp only [↓eA,eB,seval,l61010,h2,h3,h4,h7,h42,h43,hH2,hH3,hH4,hw,i40]<;>and_intros<;>first | trivial | rfl | omega
   · simp only [fb] at hf
     cases f1<;>simp only [cond_true,cond_false] at hf<;>subst hf<;>simp only [↓eA,eB,seval,l61010,h2,h3,h4,h7,h42,h43,hH2,hH3,hH4,hw,i41]<;>and_intros<;>first | trivial | rfl | omega
   · simp only [fb] at hf
     cases f2<;>simp only [cond_true,cond_false] at hf<;>subst hf<;>simp only [↓eA,eB,seval,l61010,h2,h3,h4,h7,h42,h43,hH2,hH3,hH4,hw,i42]<;>and_intros<;>first | trivial | rfl | omega
   · simp only [fb] at hf
     cases f3<;>simp only [cond_true,cond_false] at hf<;>subst hf<;>simp only [↓eA,eB,seval,l61010,h2,h3,h4,h7,h42,h43,hH2,hH3,hH4,hw,i43]<;>and_intros<;>first | trivial | rfl | omega
 · rintro i a r; exact r.elim
 · rintro i a e H hi ⟨h2,h3,h4,h7,h42,h43,hH2,hH3,hH4,ha,hai,hi4⟩
   have:i=4:=by omega
   subst this
   simp only [↓eA,eB,seval,l61010,h2,h3,h4,h7,h42,h43,hH2,hH3,hH4]
   and_intros<;>first | trivial | rfl
 · have key:upto (cntS f0 f1 f2 f3) 4 0 0 = .inr (cntB f0 f1 f2 f3):=by
     simp only [upto,cntS,fb,cntB]
     cases f0<;>cases f1<;>cases f2<;>cases f3<;>rfl
   rw [key] at h
   exact h
def whyB (s:Site)(tk:List ByteArray)(b:Block):Int×ByteArray:=bif taken tk b then (1,.empty) else match firstR s tk b.name (fun x=>decide (b.box.z1≤x.z0) && over2 x b.box) with
 | some c=>(2,c.name)
 | none=>bif !beddedB s.survey b.box.z0 then (3,.empty) else bif decide (cntB (freeB s tk b.box 0) (freeB s tk b.box 1) (freeB s tk b.box 2) (freeB s tk b.box 3) < 2) then (4,.empty) else
   match firstR s tk b.name (fun x=>!clearB s.safety b.box x) with
   | some c=>(5,c.name)
   | none=>(0,.empty)
theorem e_why (s:Site)(hF:s.Fit)(tk:List ByteArray)(b:Block):L.call 61 [ste s (.fm (entT tk)),b.enc] []=some (.agg [int (whyB s tk b).1,.str (whyB s tk b).2],[]):=
 call_eq rfl rfl (by
   have hm:=mfind_entT b.name tk
   have h1:=e_first s hF tk b.name 107 [.fp b.cells 0] rfl (fun x=>decide (b.box.z1≤x.z0) && over2 x b.box) (fun c _=>e_why1 b c.box)
   have h2:=e_bedded s.survey hF.sv b.box.z0
   have h3:=e_faces s hF tk b.box
   have h4:=e_first s hF tk b.name 110 [.fp (stc s (.fm (entT tk))) 0,.fp b.cells 0] rfl (fun x=>!clearB s.safety b.box x) (fun c _=>e_why2 s tk b c.box)
   unfold whyB
   cases ht:taken tk b with
   | true=>unfold taken at ht; rw [ht] at hm; simp only [↓eA,eB,seval,c61,hm]
   | false=>
   unfold taken at ht
   rw [ht] at hm
   cases hc:firstR s tk b.name (fun x=>decide (b.box.z1≤x.z0) && over2 x b.box) with
   | some c=>rw [hc] at h1; simp only [↓eA,eB,seval,c61,hm,h1]
   | none=>
   rw [hc] at h1
   cases hb:beddedB s.survey b.box.z0 with
   | false=>rw [hb] at h2; simp only [↓eA,eB,seval,c61,hm,h1,h2]
   | true=>
   rw [hb] at h2
   simp only [↓eA,eB,seval,c61,hm,h1,h2,h3]
   generalize hE:(lim T).loop 61010 _ _=R
   obtain ⟨X,e',H',rfl,rfl,g2,g3,g4,g7,rfl⟩:=Ends.at hE (lp_cnt s tk b (freeB s tk b.box 0) (freeB s tk b.box 1) (freeB s tk b.box 2) (freeB s tk b.box 3) _ _ (by simp only [↓eA,eB,seval]) (by simp only [↓eA,eB,seval]) (by simp only [↓eA,eB,seval]) (by simp only [↓eA,eB,seval]) (by simp only [↓eA,eB,seval]) (by simp only [↓eA,eB,seval]) rfl rfl rfl)
   cases hn:decide (cntB (freeB s tk b.box 0) (freeB s tk b.box 1) (freeB s tk b.box 2) (freeB s tk b.box 3) < 2) with
   | true=>simp only [↓eA,eB,seval,g2,g3,g4,g7,hn]
   | false=>
   cases hu:firstR s tk b.name (fun x=>!clearB s.safety b.box x) with
   | some c=>rw [hu] at h4; simp only [↓eA,eB,seval,g2,g3,g4,g7,hn,h4]
   | none=>rw [hu] at h4; simp only [↓eA,eB,seval,g2,g3,g4,g7,hn,h4])
end Tz.C18
set_option maxRecDepth 100000
open Gs Go
namespace Tz.C18
theorem start_ok {s:Site}{tk:List ByteArray}(h:startErr s tk=0):siteErr s=0∧tk.any (unknown s)=false∧dupS [] tk=false:=by
 unfold startErr at h
 cases h1:decide (siteErr s=0) with
 | false=>rw [h1] at h; simp only [Bool.not_false,cond_true] at h; rw [h] at h1; simp at h1
 | true=>
 rw [h1] at h
 simp only [Bool.not_true,cond_false] at h
 cases h2:tk.any (unknown s) with
 | true=>rw [h2] at h; simp at h
 | false=>
 rw [h2] at h
 simp only [cond_false] at h
 cases h3:dupS [] tk with
 | true=>rw [h3] at h; simp at h
 | false=>exact ⟨of_decide_eq_true h1,rfl,rfl⟩
theorem e_start_ok (s:Site)(hF:s.Fit)(nz:Bool)(tk:List ByteArray)(ht:tk.length < 1000000)(h:startErr s tk=0):L.call 58 [s.enc,strz nz tk] []=some (.tup [ste s (.fm (entT tk)),int 0],[]):=by
 have:=e_start s hF nz tk ht
 rw [h] at this
 exact this
theorem e_start_bad (s:Site)(hF:s.Fit)(nz:Bool)(tk:List ByteArray)(ht:tk.length < 1000000)(h:decide (startErr s tk=0)=false):L.call 58 [s.enc,strz nz tk] []=some (.tup [.agg zst,int (startErr s tk)],[]):=by
 have:=e_start s hF nz tk ht
 rw [h] at this
 exact this
theorem e_Why_bad (s:Site)(hF:s.Fit)(nz:Bool)(tk:List ByteArray)(ht:tk.length < 1000000)(nm:ByteArray)(h:decide (startErr s tk=0)=false):L.call 81 [s.enc,strz nz tk,.str nm] []=some (.tup [.agg [int 0,.str .empty],int (startErr s tk)],[]):=
 call_eq rfl rfl (by
   have h1:=e_start_bad s hF nz tk ht h
   generalize startErr s tk=e at h h1
   simp only [↓eA,eB,seval,c81,h1,h])
theorem e_Why_no (s:Site)(hF:s.Fit)(nz:Bool)(tk:List ByteArray)(ht:tk.length < 1000000)(nm:ByteArray)(h:startErr s tk=0)(hn:s.blocks.find? (called nm)=none):L.call 81 [s.enc,strz nz tk,.str nm] []=some (.tup [.agg [int 0,.str .empty],int 3],[]):=
 call_eq rfl rfl (by
   have h1:=e_start_ok s hF nz tk ht h
   have h2:=e_ix s hF (entT tk) nm
   have h3:idxOf (called nm) s.blocks = -1:=by
     rcases find_idx' (called nm) s.blocks with ⟨_,g⟩ | ⟨a,j,g,_,_⟩
     · unfold idxOf; rw [g]
     · rw [hn] at g; cases g
   rw [h3] at h2
   simp only [↓eA,eB,seval,c81,h1,h2])
theorem e_Why_ok (s:Site)(hF:s.Fit)(nz:Bool)(tk:List ByteArray)(ht:tk.length < 1000000)(nm:ByteArray)(h:startErr s tk=0)(b:Block)(hn:s.blocks.find? (called nm)=some b):L.call 81 [s.enc,strz nz tk,.str nm] []=some (.tup [.agg [int (whyB s tk b).1,.str (whyB s tk b).2],int 0],[]):=
 call_eq rfl rfl (by
   have h1:=e_start_ok s hF nz tk ht h
   have h2:=e_ix s hF (entT tk) nm
   rcases find_idx' (called nm) s.blocks with ⟨g,_⟩ | ⟨a,j,g,g1,g2⟩
   · rw [hn] at g; cases g
   · rw [hn] at g; injection g with g; subst g
     have h3:idxOf (called nm) s.blocks=(j:Int):=by unfold idxOf; rw [g1]
     have hj:=(List.getElem?_eq_some_iff.1 g2).1
     have g2':(s.blocks.map Block.enc)[j]?=some b.enc:=by simp [g2]
     have hneg:decide ((j:Int) < 0)=false:=decide_eq_false (by omega)
     rw [h3] at h2
     have h4:=e_why s hF tk b
     simp only [↓eA,eB,seval,c81,h1,h2,hneg,hj,g2',h4,List.length_map])
def possible (s:Site)(tk:List ByteArray)(b:Block):Bool:=decide ((whyB s tk b).1=0)
def under (b:Box):Box:=⟨b.x0,b.y0,wsub b.z0 1,b.x1,b.y1,b.z0⟩
end Tz.C18
