/- support.find; support.LeansOn and Carries; Searches in blocks and benches; boxes; The conditions of a site; no conditions. -/
import Derived.Test.YtboigolndjinhaaGreatS13toS62
import Derived.Test.YtboigolndjinhaaGreatGsF
set_option linter.all false
set_option maxRecDepth 100000
open Gs Go
namespace Tz.C18
def ents:List Block→List D
 | []=>[]
 | b :: r=>.str b.name :: b.enc :: ents r
def named (n:ByteArray)(b:Block):Bool:=seq n b.name
theorem mfind_ents (n:ByteArray):∀ l,mfind (.str n) (ents l)=some ((l.find? (named n)).map Block.enc)
 | []=>rfl
 | b :: r=>by
   simp only [ents,mfind,keyEq,List.find?,named]
   cases h:seq n b.name with
   | true=>rfl
   | false=>exact mfind_ents n r
theorem mput_ents (b:Block):∀ l,l.any (named b.name)=false→mput (.str b.name) b.enc (ents l)=some (ents (l ++ [b]))
 | [],_=>rfl
 | c :: r,h=>by
   simp only [List.any_cons,Bool.or_eq_false_iff] at h
   have h1:seq b.name c.name=false:=h.1
   simp only [ents,mput,keyEq,h1,mput_ents b r h.2,List.cons_append]
def dupF:List Block→List Block→Bool
 | _,[]=>false
 | s,b :: r=>s.any (named b.name) || dupF (s ++ [b]) r
theorem thru_dup:∀ (r s:List Block),thru (R:=Unit) (fun (s:List Block) b=>bif s.any (named b.name) then .inl () else .inr (s ++ [b])) r s=bif dupF s r then .inl () else .inr (s ++ r)
 | [],s=>by simp [thru,dupF]
 | b :: r,s=>by
   simp only [thru,dupF]
   cases h:s.any (named b.name) with
   | true=>rfl
   | false=>simp only [cond_false,Bool.false_or]; rw [thru_dup r (s ++ [b])]; simp
abbrev zblk:List D:=[.str .empty,int 0,int 0,int 0,int 0,int 0,int 0]
def badBox (b:Block):Bool:=!decide (boxErr b.box=0)
theorem lp_find1 (bs:List Block)(hl:bs.length < 1000000)(nm:ByteArray)(e:Env)(H:Heap)(h0:Gs.get e 0=blks bs)(h1:Gs.get e 1 = .str nm)(h4:Gs.get e 4 = .ptr 4 0)(h20:Gs.get e 20=blks bs)(h21:Gs.get e 21=int bs.length)(h22:Gs.get e 22=int 0)(hH:hget H 4=some (.box zblk false)) :
   Ends T 68004 e H (fun X e' H'=>match bs.find? badBox with
     | some b=>X = .ret∧Gs.get e' 4 = .fp zblk 0∧Gs.get e' 5=int (boxErr b.box)
     | none=>X = .ex 0∧Gs.get e' 0=blks bs∧Gs.get e' 1 = .str nm∧Gs.get e' 4 = .ptr 4 0∧H'=[(4,.box zblk false)]):=by
 refine (loop_findH (T:=T) (key:=68004) (li:=l68004.1) rfl bs badBox (fun i e H=>Gs.get e 0=blks bs∧Gs.get e 1 = .str nm∧Gs.get e 4 = .ptr 4 0∧Gs.get e 20=blks bs∧Gs.get e 21=int bs.length∧Gs.get e 22=int i∧hget H 4=some (.box zblk false))
   (fun b X e' H'=>X = .ret∧Gs.get e' 4 = .fp zblk 0∧Gs.get e' 5=int (boxErr b.box)) (fun X e' H'=>X = .ex 0∧Gs.get e' 0=blks bs∧Gs.get e' 1 = .str nm∧Gs.get e' 4 = .ptr 4 0∧H'=[(4,.box zblk false)]) ?_ ?_ e H ⟨h0,h1,h4,h20,h21,h22,hH⟩).mono fun X e' H' h=>by cases hf:bs.find? badBox<;>rw [hf] at h<;>exact h
 · rintro i b e H hx hi ⟨h0,h1,h4,h20,h21,h22,hH⟩
   have hx':(bs.map Block.enc)[i]?=some b.enc:=by simp [hx]
   simp only [↓eA,eB,seval,l68004,h0,h1,h4,h20,h21,h22,hH,hi,hx',e_bCheck b.box,wrap_succ (show i < 4611686018427387904 by omega)]
   cases hb:badBox b<;>simp only [badBox,Bool.not_eq_true',Bool.not_eq_false'] at hb<;>simp only [↓eA,eB,seval,hb]
   · and_intros<;>first | trivial | rfl
   · and_intros<;>first | trivial | rfl
 · rintro e H ⟨h0,h1,h4,h20,h21,h22,hH⟩
   simp only [↓eA,eB,seval,l68004,h0,h1,h4,h20,h21,h22,hH,Nat.lt_irrefl]
   and_intros<;>first | trivial | rfl
theorem lp_find2 (bs:List Block)(hl:bs.length < 1000000)(nm:ByteArray)(e:Env)(H:Heap)(h1:Gs.get e 1 = .str nm)(h4:Gs.get e 4 = .ptr 4 0)(h9:Gs.get e 9 = .mp 34)(h35:Gs.get e 35=blks bs)(h36:Gs.get e 36=int bs.length)(h37:Gs.get e 37=int 0)(hH:hget H 4=some (.box zblk false))(hM:hget H 34=some (.mapB [] false)) :
   Ends T 68012 e H (fun X e' H'=>match dupF [] bs with
     | true=>X = .ret∧Gs.get e' 4 = .fp zblk 0∧Gs.get e' 5=int 5
     | false=>X = .ex 2∧Gs.get e' 1 = .str nm∧Gs.get e' 4 = .ptr 4 0∧Gs.get e' 9 = .mp 34∧H'=[(4,.box zblk false),(34,.mapB (ents bs) false)]):=by
 refine (loop_thru (T:=T) (key:=68012) (li:=l68012.1) rfl (fun (s:List Block) b=>bif s.any (named b.name) then .inl () else .inr (s ++ [b])) bs
   (fun i s e H=>Gs.get e 1 = .str nm∧Gs.get e 4 = .ptr 4 0∧Gs.get e 9 = .mp 34∧Gs.get e 35=blks bs∧Gs.get e 36=int bs.length∧Gs.get e 37=int i∧hget H 4=some (.box zblk false)∧hget H 34=some (.mapB (ents s) false))
   (fun _ X e' H'=>X = .ret∧Gs.get e' 4 = .fp zblk 0∧Gs.get e' 5=int 5) (fun s X e' H'=>X = .ex 2∧Gs.get e' 1 = .str nm∧Gs.get e' 4 = .ptr 4 0∧Gs.get e' 9 = .mp 34∧H'=[(4,.box zblk false),(34,.mapB (ents s) false)]) ?_ ?_ ?_ bs [] [] e H rfl ⟨h1,h4,h9,h35,h36,h37,hH,hM⟩).mono fun X e' H' h=>?_
 · rintro i b s s' e H hx ⟨h1,h4,h9,h35,h36,h37,hH,hM⟩ hf
   have hi:=(List.getElem?_eq_some_iff.1 hx).1
   have hx':(bs.map Block.enc)[i]?=some b.enc:=by simp [hx]
   have hn:s.any (named b.name)=false:=by cases hb:s.any (named b.name)<;>simp_all
   rw [hn] at hf
   injection hf with hf; subst hf
   have hm:mfind (.str b.name) (ents s)=some none:=by
     rw [mfind_ents]
     rw [any_find] at hn
     cases hq:s.find? (named b.name) with
     | none=>rfl
     | some c=>rw [hq] at hn; cases hn
   have hp:=mput_ents b s hn
   simp only [↓eA,eB,seval,l68012,h1,h4,h9,h35,h36,h37,hH,hM,hi,hx',hm,hp,wrap_succ (show i < 4611686018427387904 by omega)]
   and_intros<;>first | trivial | rfl
 · rintro i b s r e H hx ⟨h1,h4,h9,h35,h36,h37,hH,hM⟩ hf
   have hi:=(List.getElem?_eq_some_iff.1 hx).1
   have hx':(bs.map Block.enc)[i]?=some b.enc:=by simp [hx]
   have hn:s.any (named b.name)=true:=by cases hb:s.any (named b.name)<;>simp_all
   have hm:∃ c:Block,mfind (.str b.name) (ents s)=some (some c.enc):=by
     rw [mfind_ents]
     rw [any_find] at hn
     cases hq:s.find? (named b.name) with
     | none=>rw [hq] at hn; cases hn
     | some c=>exact ⟨c,rfl⟩
   obtain ⟨c,hm⟩:=hm
   simp only [↓eA,eB,seval,l68012,h1,h4,h9,h35,h36,h37,hH,hM,hi,hx',hm]
   and_intros<;>first | trivial | rfl
 · rintro s e H ⟨h1,h4,h9,h35,h36,h37,hH,hM⟩
   simp only [↓eA,eB,seval,l68012,h1,h4,h9,h35,h36,h37,hH,hM,Nat.lt_irrefl]
   and_intros<;>first | trivial | rfl
 · rw [thru_dup] at h
   cases hd:dupF [] bs<;>rw [hd] at h<;>exact h
def findR (bs:List Block)(nm:ByteArray):Int×List D:=bif decide (256 < (bs.length:Int)) then (7,zblk) else match bs.find? badBox with
 | some b=>(boxErr b.box,zblk)
 | none=>bif dupF [] bs then (5,zblk) else match bs.find? (named nm) with
   | none=>(3,zblk)
   | some b=>(0,[.str b.name,int b.box.x0,int b.box.y0,int b.box.z0,int b.box.x1,int b.box.y1,int b.box.z1])
theorem e_find (bs:List Block)(hl:bs.length < 1000000)(nm:ByteArray):L.call 68 [blks bs,.str nm] []=some (.tup [.agg (findR bs nm).2,int (findR bs nm).1],[]):=
 call_eq rfl rfl (by
   unfold findR
   simp only [↓eA,eB,seval,c68]
   cases hlen:decide (256 < (bs.length:Int)) with
   | true=>simp only [↓eA,eB,seval]
   | false=>
   simp only [↓eA,eB,seval]
   generalize hE:(lim T).loop 68004 _ _=R
   obtain ⟨X,e',H',rfl,hp⟩:=Ends.at hE (lp_find1 bs hl nm _ _ rfl rfl rfl rfl rfl rfl rfl)
   cases hf:bs.find? badBox with
   | some b=>
     rw [hf] at hp
     obtain ⟨rfl,g4,g5⟩:=hp
     simp only [↓eA,eB,seval,g4,g5]
   | none=>
   rw [hf] at hp
   obtain ⟨rfl,g0,g1,g4,rfl⟩:=hp
   simp only [↓eA,eB,seval,g0,g1,g4]
   generalize hE:(lim T).loop 68012 _ _=R
   obtain ⟨X,e',H',rfl,hp⟩:=Ends.at hE (lp_find2 bs hl nm _ _ (by simp only [↓eA,eB,seval,g1]) (by simp only [↓eA,eB,seval,g4]) (by simp only [↓eA,eB,seval]) (by simp only [↓eA,eB,seval]) (by simp only [↓eA,eB,seval]) (by simp only [↓eA,eB,seval]) rfl rfl)
   cases hd:dupF [] bs with
   | true=>
     rw [hd] at hp
     obtain ⟨rfl,g4,g5⟩:=hp
     simp only [↓eA,eB,seval,g4,g5]
   | false=>
   rw [hd] at hp
   obtain ⟨rfl,g1,g4,g9,rfl⟩:=hp
   have hm:=mfind_ents nm bs
   cases hn:bs.find? (named nm) with
   | none=>
     rw [hn] at hm
     simp only [Option.map_none] at hm
     simp only [↓eA,eB,seval,g1,g4,g9,hm]
   | some b=>
     rw [hn] at hm
     simp only [Option.map_some] at hm
     simp only [↓eA,eB,seval,g1,g4,g9,hm])
end Tz.C18
set_option maxRecDepth 100000
open Gs Go
namespace Tz.C18
def over2 (a b:Box):Bool:=decide (max a.x0 b.x0 < min a.x1 b.x1) && decide (max a.y0 b.y0 < min a.y1 b.y1)
theorem e_over (a b:Box):L.call 70 [a.enc,b.enc] []=some (.bool (over2 a b),[]):=
 call_eq rfl rfl (by simp only [↓eA,eB,seval,c70]; rfl)
abbrev Block.cells (b:Block):List D:=[.str b.name,int b.box.x0,int b.box.y0,int b.box.z0,int b.box.x1,int b.box.y1,int b.box.z1]
def leansB (a b:Box):Bool:=decide (a.z0=b.z1) && over2 a b
theorem over_comm (a b:Box):over2 a b=over2 b a:=by
 unfold over2
 rw [Int.max_comm a.x0,Int.max_comm a.y0,Int.min_comm a.x1,Int.min_comm a.y1]
theorem e_carries1 (a b:Block):L.call 69 [b.enc,.fp a.cells 0] []=some (.bool (leansB b.box a.box),[]):=
 call_eq rfl rfl (by simp only [↓eA,eB,seval,c69,e_over a.box b.box,over_comm a.box b.box]; rfl)
theorem e_sort (nz:Bool)(l:List ByteArray)(hb:l.length < 4611686018427387904):L.call 106 [.ow 500000] [(500000,.row nz 1 (l.map .str) 0 false)]=some (.tup [],[(500000,.row nz 1 ((sortB l).map .str) 0 false)]):=
 ext_eq (s:=sortStrX) rfl (by simp [sortStrX,hget,strs_map,hset,hb])
def namesOf (p:Block→Bool)(bs:List Block):List ByteArray:=(bs.filter p).map (·.name)
theorem namesOf_len (p:Block→Bool)(bs:List Block):(namesOf p bs).length≤bs.length:=by
 unfold namesOf; rw [List.length_map]; exact List.length_filter_le _ _
theorem lp_names (bs:List Block)(hl:bs.length < 1000000)(g:Nat)(cs:List D)(p:Block→Bool)(hg:∀ b∈bs,L.call g [b.enc,.fp cs 0] []=some (.bool (p b),[]))(e:Env)(H:Heap)(h1:Gs.get e 1 = .fn g [.fp cs 0])(h5:Gs.get e 5 = .ow 1005)(h8:Gs.get e 8=blks bs)(h9:Gs.get e 9=int bs.length)(h10:Gs.get e 10=int 0)(hH:hget H 1005=some (.row true 1 [] 0 true)) :
   Ends T 59003 e H (fun X e' H'=>X = .ex 0∧Gs.get e' 5 = .ow 1005∧H'=[(1005,.row true 1 ((namesOf p bs).map .str) 0 true)]):=by
 refine (loop_fold (T:=T) (key:=59003) (li:=l59003.1) rfl bs (fun (a:List ByteArray) (b:Block)=>bif p b then a ++ [b.name] else a)
   (fun i a e H=>Gs.get e 1 = .fn g [.fp cs 0]∧Gs.get e 5 = .ow 1005∧Gs.get e 8=blks bs∧Gs.get e 9=int bs.length∧Gs.get e 10=int i∧hget H 1005=some (.row true 1 (a.map .str) 0 true)∧a.length≤i)
   (fun a X e' H'=>X = .ex 0∧Gs.get e' 5 = .ow 1005∧H'=[(1005,.row true 1 (a.map .str) 0 true)]) ?_ ?_ [] e H ⟨h1,h5,h8,h9,h10,hH,Nat.le_refl _⟩).mono ?_
 · rintro i b a e H hx hi ⟨h1,h5,h8,h9,h10,hH,ha⟩
   have hx':(bs.map Block.enc)[i]?=some b.enc:=by simp [hx]
   have hfit:fits (a.length + (0 + 1)) 16=true:=fits_of (by omega)
   have hc:=hg b (List.mem_of_getElem? hx)
   cases hp:p b with
   | true=>
     rw [hp] at hc
     simp only [↓eA,eB,seval,l59003,h1,h5,h8,h9,h10,hH,hi,hx',hc,hfit,List.length_map,wrap_succ (show i < 4611686018427387904 by omega)]
     refine ⟨trivial,trivial,trivial,trivial,trivial,trivial,?_,?_⟩
     · simp
     · simp; omega
   | false=>
     rw [hp] at hc
     simp only [↓eA,eB,seval,l59003,h1,h5,h8,h9,h10,hH,hi,hx',hc,wrap_succ (show i < 4611686018427387904 by omega)]
     refine ⟨trivial,trivial,trivial,trivial,trivial,trivial,trivial,by omega⟩
 · rintro a e H ⟨h1,h5,h8,h9,h10,hH,ha⟩
   simp only [↓eA,eB,seval,l59003,h1,h5,h8,h9,h10,hH,Nat.lt_irrefl]
   and_intros<;>first | trivial | rfl
 · rintro X e' H' ⟨rfl,g5,rfl⟩
   refine ⟨rfl,g5,?_⟩
   have key:∀ (l:List Block) (a:List ByteArray),l.foldl (fun a b=>bif p b then a ++ [b.name] else a) a=a ++ namesOf p l:=by
     intro l
     induction l with
     | nil=>intro a; simp [namesOf]
     | cons b r ih=>
       intro a
       rw [List.foldl_cons,ih]
       cases hp:p b<;>simp [namesOf,hp]
   rw [key]; rfl
theorem e_names (bs:List Block)(hl:bs.length < 1000000)(g:Nat)(cs:List D)(p:Block→Bool)(hg:∀ b∈bs,L.call g [b.enc,.fp cs 0] []=some (.bool (p b),[])) :
   L.call 59 [blks bs,.fn g [.fp cs 0]] []=some (.fz true 1 ((sortB (namesOf p bs)).map .str),[]):=
 call_eq rfl rfl (by
   simp only [↓eA,eB,seval,c59]
   generalize hE:(lim T).loop 59003 _ _=R
   obtain ⟨X,e',H',rfl,rfl,g5,rfl⟩:=Ends.at hE (lp_names bs hl g cs p hg _ _ rfl rfl rfl rfl rfl rfl)
   have hs:=e_sort true (namesOf p bs) (by have:=namesOf_len p bs; omega)
   simp only [↓eA,eB,seval,g5,hs,killE_nil])
theorem e_Carries_ok (bs:List Block)(hl:bs.length < 1000000)(nm:ByteArray)(a:Block)(hz:findR bs nm=(0,a.cells)):L.call 37 [blks bs,.str nm] []=some (.tup [.fz true 1 ((sortB (namesOf (fun (b:Block)=>leansB b.box a.box) bs)).map .str),int 0],[]):=
 call_eq rfl rfl (by
   have hf:=e_find bs hl nm
   rw [hz] at hf
   have hn:=e_names bs hl 69 a.cells (fun (b:Block)=>leansB b.box a.box) (fun b _=>e_carries1 a b)
   simp only [↓eA,eB,seval,c37,hf,hn,killE_nil])
end Tz.C18
set_option maxRecDepth 100000
open Gs Go
namespace Tz.C18
structure Bench where
 name:ByteArray
 lo:Int
 hi:Int
abbrev Bench.enc (b:Bench):D:=.agg [.str b.name,int b.lo,int b.hi]
set_option maxHeartbeats 400000 in
theorem lp_idx_block (p:Block→Bool)(g:Nat)(caps:List D)(nz:Bool)(xs:List Block)(hb:xs.length < 1000000000)(hc:closedL caps=true)
   (hp:∀ x∈xs,L.call g (Block.enc x :: caps) []=some (.bool (p x),[])) (e:Env) (h0:Gs.get e 0 = .fz nz 7 (xs.map Block.enc)) (h1:Gs.get e 1 = .fn g caps) (h7:Gs.get e 7=int xs.length) (h8:Gs.get e 8=int 0) :
   Ends T 82002 e [] (fun X e' H'=>H'=[]∧match xs.findIdx? p with | some i=>X = .ret∧Gs.get e' 4=int i | none=>X = .ex 0):=by
 refine (loop_thru (T:=T) (key:=82002) (li:=l82002.1) rfl (R:=Nat) (fun (i:Nat) x=>bif p x then .inl i else .inr (i + 1)) xs (fun i j e H=>H=[]∧j=i∧Gs.get e 0 = .fz nz 7 (xs.map Block.enc)∧Gs.get e 1 = .fn g caps∧Gs.get e 7=int xs.length∧Gs.get e 8=int i) (fun i X e' H'=>H'=[]∧X = .ret∧Gs.get e' 4=int i) (fun _ X e' H'=>H'=[]∧X = .ex 0) ?_ ?_ ?_ xs [] 0 e [] rfl ⟨rfl,rfl,h0,h1,h7,h8⟩).mono ?_
 · rintro i x j j' e H hi ⟨rfl,hji,h0,h1,h7,h8⟩ hf
   have hij:=hji.symm; subst hij
   have hlt:i < xs.length:=(List.getElem?_eq_some_iff.1 hi).1
   have hp':=hp x (List.mem_of_getElem? hi)
   have hpf:p x=false:=by cases h:p x<;>simp_all
   have hj:j'=i + 1:=by simp [hpf] at hf; exact hf.symm
   subst hj
   have hxi:(xs.map Block.enc)[i]?=some (Block.enc x):=by simp [hi]
   rw [hpf] at hp'
   simp only [↓eA,eB,seval,l82002,h0,h1,h7,h8,hlt,hxi,hp',renL_closed hc,wrap_succ (show i < 4611686018427387904 by omega)]
   exact ⟨trivial,trivial,trivial,trivial,trivial,trivial,trivial⟩
 · rintro i x j r e H hi ⟨rfl,hji,h0,h1,h7,h8⟩ hf
   have hij:=hji.symm; subst hij
   have hlt:i < xs.length:=(List.getElem?_eq_some_iff.1 hi).1
   have hp':=hp x (List.mem_of_getElem? hi)
   have hpf:p x=true:=by cases h:p x<;>simp_all
   have hj:r=i:=by simp [hpf] at hf; exact hf.symm
   subst hj
   have hxi:(xs.map Block.enc)[r]?=some (Block.enc x):=by simp [hi]
   rw [hpf] at hp'
   simp only [↓eA,eB,seval,l82002,h0,h1,h7,h8,hlt,hxi,hp',renL_closed hc]
   exact ⟨trivial,trivial,trivial,trivial⟩
 · rintro j e H ⟨rfl,rfl,h0,h1,h7,h8⟩
   simp only [↓eA,eB,seval,l82002,h0,h1,h7,h8,Nat.lt_irrefl]
   exact ⟨trivial,trivial,trivial⟩
 · intro X e' H' h
   rw [thru_idx] at h
   cases hf:xs.findIdx? p with
   | none=>rw [hf] at h; exact h
   | some i=>rw [hf] at h; simpa using h
theorem e_idx_block (p:Block→Bool)(g:Nat)(caps:List D)(nz:Bool)(xs:List Block)(hb:xs.length < 1000000000)(hc:closedL caps=true)
   (hp:∀ x∈xs,L.call g (Block.enc x :: caps) []=some (.bool (p x),[])):L.call 82 [.fz nz 7 (xs.map Block.enc),.fn g caps] []=some (int (idxOf p xs),[]):=
 call_eq rfl rfl (by
   simp only [↓eA,eB,seval,c82]
   obtain ⟨X,e',H',h,rfl,h2⟩:=lp_idx_block p g caps nz xs hb hc hp [(0,.fz nz 7 (xs.map Block.enc)),(1,.fn g caps),(4,int 0),(6,.fz nz 7 (xs.map Block.enc)),(7,int xs.length),(8,int 0)] rfl rfl rfl rfl
   rw [h]
   unfold idxOf
   cases hf:xs.findIdx? p with
   | none=>rw [hf] at h2; subst h2; simp only [↓eA,eB,seval]
   | some i=>rw [hf] at h2; obtain ⟨rfl,h4⟩:=h2; simp only [↓eA,eB,seval,h4])
theorem e_con_block (p:Block→Bool)(g:Nat)(caps:List D)(nz:Bool)(xs:List Block)(hb:xs.length < 1000000000)(hc:closedL caps=true)
   (hp:∀ x∈xs,L.call g (Block.enc x :: caps) []=some (.bool (p x),[])):L.call 148 [.fz nz 7 (xs.map Block.enc),.fn g caps] []=some (.bool (xs.any p),[]):=
 call_eq rfl rfl (by
   simp only [↓eA,eB,seval,c148,renL_closed hc,e_idx_block p g caps nz xs hb hc hp,idxOf_ge])
set_option maxHeartbeats 400000 in
theorem lp_idx_bench (p:Bench→Bool)(g:Nat)(caps:List D)(nz:Bool)(xs:List Bench)(hb:xs.length < 1000000000)(hc:closedL caps=true)
   (hp:∀ x∈xs,L.call g (Bench.enc x :: caps) []=some (.bool (p x),[])) (e:Env) (h0:Gs.get e 0 = .fz nz 3 (xs.map Bench.enc)) (h1:Gs.get e 1 = .fn g caps) (h7:Gs.get e 7=int xs.length) (h8:Gs.get e 8=int 0) :
   Ends T 173002 e [] (fun X e' H'=>H'=[]∧match xs.findIdx? p with | some i=>X = .ret∧Gs.get e' 4=int i | none=>X = .ex 0):=by
 refine (loop_thru (T:=T) (key:=173002) (li:=l173002.1) rfl (R:=Nat) (fun (i:Nat) x=>bif p x then .inl i else .inr (i + 1)) xs (fun i j e H=>H=[]∧j=i∧Gs.get e 0 = .fz nz 3 (xs.map Bench.enc)∧Gs.get e 1 = .fn g caps∧Gs.get e 7=int xs.length∧Gs.get e 8=int i) (fun i X e' H'=>H'=[]∧X = .ret∧Gs.get e' 4=int i) (fun _ X e' H'=>H'=[]∧X = .ex 0) ?_ ?_ ?_ xs [] 0 e [] rfl ⟨rfl,rfl,h0,h1,h7,h8⟩).mono ?_
 · rintro i x j j' e H hi ⟨rfl,hji,h0,h1,h7,h8⟩ hf
   have hij:=hji.symm; subst hij
   have hlt:i < xs.length:=(List.getElem?_eq_some_iff.1 hi).1
   have hp':=hp x (List.mem_of_getElem? hi)
   have hpf:p x=false:=by cases h:p x<;>simp_all
   have hj:j'=i + 1:=by simp [hpf] at hf; exact hf.symm
   subst hj
   have hxi:(xs.map Bench.enc)[i]?=some (Bench.enc x):=by simp [hi]
   rw [hpf] at hp'
   simp only [↓eA,eB,seval,l173002,h0,h1,h7,h8,hlt,hxi,hp',renL_closed hc,wrap_succ (show i < 4611686018427387904 by omega)]
   exact ⟨trivial,trivial,trivial,trivial,trivial,trivial,trivial⟩
 · rintro i x j r e H hi ⟨rfl,hji,h0,h1,h7,h8⟩ hf
   have hij:=hji.symm; subst hij
   have hlt:i < xs.length:=(List.getElem?_eq_some_iff.1 hi).1
   have hp':=hp x (List.mem_of_getElem? hi)
   have hpf:p x=true:=by cases h:p x<;>simp_all
   have hj:r=i:=by simp [hpf] at hf; exact hf.symm
   subst hj
   have hxi:(xs.map Bench.enc)[r]?=some (Bench.enc x):=by simp [hi]
   rw [hpf] at hp'
   simp only [↓eA,eB,seval,l173002,h0,h1,h7,h8,hlt,hxi,hp',renL_closed hc]
   exact ⟨trivial,trivial,trivial,trivial⟩
 · rintro j e H ⟨rfl,rfl,h0,h1,h7,h8⟩
   simp only [↓eA,eB,seval,l173002,h0,h1,h7,h8,Nat.lt_irrefl]
   exact ⟨trivial,trivial,trivial⟩
 · intro X e' H' h
   rw [thru_idx] at h
   cases hf:xs.findIdx? p with
   | none=>rw [hf] at h; exact h
   | some i=>rw [hf] at h; simpa using h
theorem e_idx_bench (p:Bench→Bool)(g:Nat)(caps:List D)(nz:Bool)(xs:List Bench)(hb:xs.length < 1000000000)(hc:closedL caps=true)
   (hp:∀ x∈xs,L.call g (Bench.enc x :: caps) []=some (.bool (p x),[])):L.call 173 [.fz nz 3 (xs.map Bench.enc),.fn g caps] []=some (int (idxOf p xs),[]):=
 call_eq rfl rfl (by
   simp only [↓eA,eB,seval,c173]
   obtain ⟨X,e',H',h,rfl,h2⟩:=lp_idx_bench p g caps nz xs hb hc hp [(0,.fz nz 3 (xs.map Bench.enc)),(1,.fn g caps),(4,int 0),(6,.fz nz 3 (xs.map Bench.enc)),(7,int xs.length),(8,int 0)] rfl rfl rfl rfl
   rw [h]
   unfold idxOf
   cases hf:xs.findIdx? p with
   | none=>rw [hf] at h2; subst h2; simp only [↓eA,eB,seval]
   | some i=>rw [hf] at h2; obtain ⟨rfl,h4⟩:=h2; simp only [↓eA,eB,seval,h4])
theorem e_con_bench (p:Bench→Bool)(g:Nat)(caps:List D)(nz:Bool)(xs:List Bench)(hb:xs.length < 1000000000)(hc:closedL caps=true)
   (hp:∀ x∈xs,L.call g (Bench.enc x :: caps) []=some (.bool (p x),[])):L.call 193 [.fz nz 3 (xs.map Bench.enc),.fn g caps] []=some (.bool (xs.any p),[]):=
 call_eq rfl rfl (by
   simp only [↓eA,eB,seval,c193,renL_closed hc,e_idx_bench p g caps nz xs hb hc hp,idxOf_ge])
theorem e_bCommon (a b:Box):L.call 197 [a.enc,b.enc] []=some (.agg [int (max a.x0 b.x0),int (min a.x1 b.x1),int (max a.y0 b.y0),int (min a.y1 b.y1),int (max a.z0 b.z0),int (min a.z1 b.z1)],[]):=
 call_eq rfl rfl (by
   simp only [↓eA,eB,seval,c197,e_bsides a,e_bsides b]
   rw [loop_unfold_c (T:=T) (k:=197003) rfl]
   simp only [↓eA,eB,seval,l197003,i30,i20,i21]
   rw [loop_unfold_c (T:=T) (k:=197003) rfl]
   simp only [↓eA,eB,seval,l197003,i31,i20,i21]
   rw [loop_unfold_c (T:=T) (k:=197003) rfl]
   simp only [↓eA,eB,seval,l197003,i32,i20,i21]
   rw [loop_unfold_c (T:=T) (k:=197003) rfl]
   simp only [↓eA,eB,seval,l197003])
def apart (a b:Box):Bool:=decide (min a.x1 b.x1≤max a.x0 b.x0) || (decide (min a.y1 b.y1≤max a.y0 b.y0) || decide (min a.z1 b.z1≤max a.z0 b.z0))
theorem e_bOverlap (a b:Box):L.call 150 [a.enc,b.enc] []=some (.bool (!apart a b),[]):=
 call_eq rfl rfl (by
   simp only [↓eA,eB,seval,c150,e_bCommon a b]
   unfold apart
   rw [loop_unfold_c (T:=T) (k:=150002) rfl]
   simp only [↓eA,eB,seval,l150002,i30,i20,i21]
   cases h0:decide (min a.x1 b.x1≤max a.x0 b.x0) with
   | true=>simp only [↓eA,eB,seval]
   | false=>
   simp only [↓eA,eB,seval]
   rw [loop_unfold_c (T:=T) (k:=150002) rfl]
   simp only [↓eA,eB,seval,l150002,i31,i20,i21]
   cases h1:decide (min a.y1 b.y1≤max a.y0 b.y0) with
   | true=>simp only [↓eA,eB,seval]
   | false=>
   simp only [↓eA,eB,seval]
   rw [loop_unfold_c (T:=T) (k:=150002) rfl]
   simp only [↓eA,eB,seval,l150002,i32,i20,i21]
   cases h2:decide (min a.z1 b.z1≤max a.z0 b.z0) with
   | true=>simp only [↓eA,eB,seval]
   | false=>
   simp only [↓eA,eB,seval]
   rw [loop_unfold_c (T:=T) (k:=150002) rfl]
   simp only [↓eA,eB,seval,l150002])
def insideB (a b:Box):Bool:=!((decide (a.x0 < b.x0) || decide (b.x1 < a.x1)) || ((decide (a.y0 < b.y0) || decide (b.y1 < a.y1)) || (decide (a.z0 < b.z0) || decide (b.z1 < a.z1))))
theorem e_bInside (a b:Box):L.call 142 [a.enc,b.enc] []=some (.bool (insideB a b),[]):=
 call_eq rfl rfl (by
   simp only [↓eA,eB,seval,c142,e_bsides a,e_bsides b]
   unfold insideB
   rw [loop_unfold_c (T:=T) (k:=142003) rfl]
   simp only [↓eA,eB,seval,l142003,i30,i20,i21]
   cases h0:(decide (a.x0 < b.x0) || decide (b.x1 < a.x1)) with
   | true=>simp only [↓eA,eB,seval]
   | false=>
   simp only [↓eA,eB,seval]
   rw [loop_unfold_c (T:=T) (k:=142003) rfl]
   simp only [↓eA,eB,seval,l142003,i31,i20,i21]
   cases h1:(decide (a.y0 < b.y0) || decide (b.y1 < a.y1)) with
   | true=>simp only [↓eA,eB,seval]
   | false=>
   simp only [↓eA,eB,seval]
   rw [loop_unfold_c (T:=T) (k:=142003) rfl]
   simp only [↓eA,eB,seval,l142003,i32,i20,i21]
   cases h2:(decide (a.z0 < b.z0) || decide (b.z1 < a.z1)) with
   | true=>simp only [↓eA,eB,seval]
   | false=>
   simp only [↓eA,eB,seval]
   rw [loop_unfold_c (T:=T) (k:=142003) rfl]
   simp only [↓eA,eB,seval,l142003])
end Tz.C18
set_option maxRecDepth 100000
open Gs Go
namespace Tz.C18
structure Stand where
 name:ByteArray
 x:Int
 y:Int
 radii:List Int
 limits:List Int
abbrev Stand.enc (s:Stand):D:=.agg [.str s.name,int s.x,int s.y,.fz false 1 (s.radii.map int),.fz false 1 (s.limits.map int)]
structure Site where
 survey:Survey
 benches:List Bench
 blocks:List Block
 safety:Safety
 stands:List Stand
 density:Int
abbrev benchs (l:List Bench):D:=.fz false 3 (l.map Bench.enc)
abbrev Site.cells (s:Site):List D:=[int s.survey.pit.x0,int s.survey.pit.y0,int s.survey.pit.z0,int s.survey.pit.x1,int s.survey.pit.y1,int s.survey.pit.z1,.bool s.survey.o0,.bool s.survey.o1,.bool s.survey.o2,.bool s.survey.o3,
 .fz false 2 (s.survey.beds.map Bed.enc),.fz false 5 (s.survey.joints.map Joint.enc),.fz false 4 (s.survey.flaws.map Flaw.enc),benchs s.benches,blks s.blocks,int s.safety.batter,int s.safety.width,.fz false 5 (s.stands.map Stand.enc),int s.density]
abbrev Site.enc (s:Site):D:=.agg s.cells
structure Site.Fit (s:Site):Prop where
 sv:s.survey.Fit
 bl:s.blocks.length < 1000000
 be:s.benches.length < 1000000
 bn:∀ b∈s.blocks,b.name.size < 1000000000
 en:∀ b∈s.benches,b.name.size < 1000000000
def cMany (s:Site):Bool:=decide (32 < (s.benches.length:Int)) || decide (256 < (s.blocks.length:Int))
theorem e_c1 (s:Site):L.call 129 [s.enc] []=some (.bool (cMany s),[]):=
 call_eq rfl rfl (by simp only [↓eA,eB,seval,c129,List.length_map]; rfl)
theorem e_span (n lo hi:Int):L.call 131 [int n,int lo,int hi] []=some (.bool (decide (lo≤n) && decide (n≤hi)),[]):=
 call_eq rfl rfl (by simp only [↓eA,eB,seval,c131])
def cRange (s:Site):Bool:=(!(decide (0≤s.safety.batter) && decide (s.safety.batter≤10000)) || !(decide (0≤s.safety.width) && decide (s.safety.width≤1000000))) || !(decide (1≤s.density) && decide (s.density≤10000))
theorem e_c2 (s:Site):L.call 130 [s.enc] []=some (.bool (cRange s),[]):=
 call_eq rfl rfl (by simp only [↓eA,eB,seval,c130,e_span]; rfl)
theorem e_c3 (s:Site)(b:Bench)(h:b.name.size < 1000000000):L.call 134 [s.enc,b.enc] []=some (.bool (!pName b.name),[]):=
 call_eq rfl rfl (by simp only [↓eA,eB,seval,c134,e_pName b.name h])
theorem e_c4 (s:Site)(b:Block)(h:b.name.size < 1000000000):L.call 136 [s.enc,b.enc] []=some (.bool (!pName b.name),[]):=
 call_eq rfl rfl (by simp only [↓eA,eB,seval,c136,e_pName b.name h])
theorem e_c5 (s:Site)(b:Bench):L.call 137 [s.enc,b.enc] []=some (.bool (decide (b.hi≤b.lo)),[]):=
 call_eq rfl rfl (by simp only [↓eA,eB,seval,c137])
def emptyB (b:Box):Bool:=(decide (b.x1≤b.x0) || decide (b.y1≤b.y0)) || decide (b.z1≤b.z0)
theorem e_empty (b:Box):L.call 139 [b.enc] []=some (.bool (emptyB b),[]):=
 call_eq rfl rfl (by simp only [↓eA,eB,seval,c139]; rfl)
theorem e_c6 (s:Site)(b:Block):L.call 138 [s.enc,b.enc] []=some (.bool (emptyB b.box),[]):=
 call_eq rfl rfl (by simp only [↓eA,eB,seval,c138,e_empty b.box])
def benchOut (s:Site)(b:Bench):Bool:=decide (b.lo < s.survey.pit.z0) || decide (s.survey.pit.z1 < b.hi)
theorem e_c7 (s:Site)(b:Bench):L.call 140 [s.enc,b.enc] []=some (.bool (benchOut s b),[]):=
 call_eq rfl rfl (by simp only [↓eA,eB,seval,c140]; rfl)
def blockOut (s:Site)(b:Block):Bool:=!insideB b.box s.survey.pit
theorem e_c8 (s:Site)(b:Block):L.call 141 [s.enc,b.enc] []=some (.bool (blockOut s b),[]):=
 call_eq rfl rfl (by simp only [↓eA,eB,seval,c141,e_bInside b.box s.survey.pit]; rfl)
abbrev geBench (a b:Bench):Bool:=decide (b.lo < a.hi)
abbrev geBlock (a b:Block):Bool:=!slt a.name b.name
abbrev Hst (s:Site):Heap:=[(1,.box s.cells false)]
theorem lp_c9 (s:Site)(hF:s.Fit)(e:Env)(h1:Gs.get e 1 = .ptr 1 0)(hi:Gs.get e 3=int (1:Nat)) :
   Ends T 143002 e (Hst s) (fun X e' H'=>H'=Hst s∧match steps s.benches geBench with | true=>X = .ret∧Gs.get e' 2 = .bool true | false=>X = .ex 0):=by
 have hb:=hF.be
 refine loop_fr (T:=T) (key:=143002) (li:=l143002.1) rfl 1 s.benches.length (badIx s.benches geBench) (Hst s) (fun k e=>Gs.get e 1 = .ptr 1 0∧Gs.get e 3=int k) (fun X e'=>X = .ret∧Gs.get e' 2 = .bool true) (fun X e'=>X = .ex 0) ?_ ?_ e ⟨h1,hi⟩
 · rintro k e hk hlt ⟨h1,h3⟩
   obtain ⟨y,hy⟩:∃ y,s.benches[k]?=some y:=⟨_,List.getElem?_eq_getElem (by omega)⟩
   obtain ⟨p,hp⟩:∃ p,s.benches[k - 1]?=some p:=⟨_,List.getElem?_eq_getElem (by omega)⟩
   have hil:k - 1 < s.benches.length:=by omega
   have hy':(s.benches.map Bench.enc)[k]?=some y.enc:=by simp [hy]
   have hp':(s.benches.map Bench.enc)[k - 1]?=some p.enc:=by simp [hp]
   have hbd:badIx s.benches geBench k=geBench p y:=by simp only [badIx,hy,hp]
   rw [hbd]
   simp only [↓eA,eB,seval,l143002,h1,h3,hlt,hil,hy',hp',wrap_pred (show 0 < k by omega) (show k < 4611686018427387904 by omega),wrap_succ (show k < 4611686018427387904 by omega)]
   cases hc:geBench p y<;>(try simp only [Bool.not_eq_true',Bool.not_eq_false'] at hc)<;>simp only [↓eA,eB,seval,hc]<;>and_intros<;>first | trivial | rfl
 · rintro k e hk _ ⟨h1,h3⟩
   have hlt:¬ k < s.benches.length:=by omega
   simp only [↓eA,eB,seval,l143002,h1,h3,hlt]
   and_intros<;>first | trivial | rfl
theorem e_c9 (s:Site)(hF:s.Fit):L.call 143 [s.enc] []=some (.bool (steps s.benches geBench),[]):=
 call_eq rfl rfl (by
   simp only [↓eA,eB,seval,c143]
   generalize hE:(lim T).loop 143002 _ _=R
   obtain ⟨X,e',H',rfl,rfl,hp⟩:=Ends.at hE (lp_c9 s hF _ rfl rfl)
   cases hs:steps s.benches geBench with
   | true=>rw [hs] at hp; obtain ⟨rfl,g2⟩:=hp; simp only [↓eA,eB,seval,g2]
   | false=>rw [hs] at hp; subst hp; simp only [↓eA,eB,seval])
theorem lp_c10 (s:Site)(hF:s.Fit)(e:Env)(h1:Gs.get e 1 = .ptr 1 0)(hi:Gs.get e 3=int (1:Nat)) :
   Ends T 145002 e (Hst s) (fun X e' H'=>H'=Hst s∧match steps s.blocks geBlock with | true=>X = .ret∧Gs.get e' 2 = .bool true | false=>X = .ex 0):=by
 have hb:=hF.bl
 refine loop_fr (T:=T) (key:=145002) (li:=l145002.1) rfl 1 s.blocks.length (badIx s.blocks geBlock) (Hst s) (fun k e=>Gs.get e 1 = .ptr 1 0∧Gs.get e 3=int k) (fun X e'=>X = .ret∧Gs.get e' 2 = .bool true) (fun X e'=>X = .ex 0) ?_ ?_ e ⟨h1,hi⟩
 · rintro k e hk hlt ⟨h1,h3⟩
   obtain ⟨y,hy⟩:∃ y,s.blocks[k]?=some y:=⟨_,List.getElem?_eq_getElem (by omega)⟩
   obtain ⟨p,hp⟩:∃ p,s.blocks[k - 1]?=some p:=⟨_,List.getElem?_eq_getElem (by omega)⟩
   have hil:k - 1 < s.blocks.length:=by omega
   have hy':(s.blocks.map Block.enc)[k]?=some y.enc:=by simp [hy]
   have hp':(s.blocks.map Block.enc)[k - 1]?=some p.enc:=by simp [hp]
   have hbd:badIx s.blocks geBlock k=geBlock p y:=by simp only [badIx,hy,hp]
   rw [hbd]
   simp only [↓eA,eB,seval,l145002,h1,h3,hlt,hil,hy',hp',wrap_pred (show 0 < k by omega) (show k < 4611686018427387904 by omega),wrap_succ (show k < 4611686018427387904 by omega)]
   cases hc:geBlock p y<;>(try simp only [Bool.not_eq_true',Bool.not_eq_false'] at hc)<;>simp only [↓eA,eB,seval,hc]<;>and_intros<;>first | trivial | rfl
 · rintro k e hk _ ⟨h1,h3⟩
   have hlt:¬ k < s.blocks.length:=by omega
   simp only [↓eA,eB,seval,l145002,h1,h3,hlt]
   and_intros<;>first | trivial | rfl
theorem e_c10 (s:Site)(hF:s.Fit):L.call 145 [s.enc] []=some (.bool (steps s.blocks geBlock),[]):=
 call_eq rfl rfl (by
   simp only [↓eA,eB,seval,c145]
   generalize hE:(lim T).loop 145002 _ _=R
   obtain ⟨X,e',H',rfl,rfl,hp⟩:=Ends.at hE (lp_c10 s hF _ rfl rfl)
   cases hs:steps s.blocks geBlock with
   | true=>rw [hs] at hp; obtain ⟨rfl,g2⟩:=hp; simp only [↓eA,eB,seval,g2]
   | false=>rw [hs] at hp; subst hp; simp only [↓eA,eB,seval])
end Tz.C18
