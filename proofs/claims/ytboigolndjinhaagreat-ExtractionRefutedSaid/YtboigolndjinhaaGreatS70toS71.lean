/- Searches in blocks and benches; boxes; The conditions of a site; no conditions. -/
import Derived.Test.YtboigolndjinhaaGreatS13toS64
set_option linter.all false
set_option maxRecDepth 100000
open Gs Go
namespace Tz.C18
structure Bench where
 name:ByteArray
 lo:Int
 hi:Int
abbrev Bench.enc (b:Bench):D:=.agg [.str b.name,int b.lo,int b.hi]
set_option maxHeartbeats 400000 in
theorem lp_idx_block (p:Block→Bool)(g:Nat)(caps:List D)(nz:Bool)(xs:List Block)(hb:xs.length < 1000000000)(hc:closedL caps=true)
   (hp:∀ x∈xs,L.call g (Block.enc x :: caps) []=some (.bool (p x),[])) (e:Env) (h0:Gs.get e 0 = .fz nz 7 (xs.map Block.enc)) (h1:Gs.get e 1 = .fn g caps) (h7:Gs.get e 7=int xs.length) (h8:Gs.get e 8=int 0) :
   Ends T 82002 e [] (fun X e' H'=>H'=[]∧match xs.findIdx? p with | some i=>X = .ret∧Gs.get e' 4=int i | none=>X = .ex 0):=by
 refine (loop_thru (T:=T) (key:=82002) (li:=l82002.1) rfl (R:=Nat) (fun (i:Nat) x=>bif p x then .inl i else .inr (i + 1)) xs (fun i j e H=>H=[]∧j=i∧Gs.get e 0 = .fz nz 7 (xs.map Block.enc)∧Gs.get e 1 = .fn g caps∧Gs.get e 7=int xs.length∧Gs.get e 8=int i) (fun i X e' H'=>H'=[]∧X = .ret∧Gs.get e' 4=int i) (fun _ X e' H'=>H'=[]∧X = .ex 0) ?_ ?_ ?_ xs [] 0 e [] rfl ⟨rfl,rfl,h0,h1,h7,h8⟩).mono ?_
 · rintro i x j j' e H hi ⟨rfl,hji,h0,h1,h7,h8⟩ hf
   have hij:=hji.symm; subst hij
   have hlt:i < xs.length:=(List.getElem?_eq_some_iff.1 hi).1
   have hp':=hp x (List.mem_of_getElem? hi)
   have hpf:p x=false:=by cases h:p x<;>simp_all
   have hj:j'=i + 1:=by simp [hpf] at hf; exact hf.symm
   subst hj
   have hxi:(xs.map Block.enc)[i]?=some (Block.enc x):=by simp [hi]
   rw [hpf] at hp'
   simp only [↓eA,eB,seval,l82002,h0,h1,h7,h8,hlt,hxi,hp',renL_closed hc,wrap_succ (show i < 4611686018427387904 by omega)]
   exact ⟨trivial,trivial,trivial,trivial,trivial,trivial,trivial⟩
 · rintro i x j r e H hi ⟨rfl,hji,h0,h1,h7,h8⟩ hf
   have hij:=hji.symm; subst hij
   have hlt:i < xs.length:=(List.getElem?_eq_some_iff.1 hi).1
   have hp':=hp x (List.mem_of_getElem? hi)
   have hpf:p x=true:=by cases h:p x<;>simp_all
   have hj:r=i:=by simp [hpf] at hf; exact hf.symm
   subst hj
   have hxi:(xs.map Block.enc)[r]?=some (Block.enc x):=by simp [hi]
   rw [hpf] at hp'
   simp only [↓eA,eB,seval,l82002,h0,h1,h7,h8,hlt,hxi,hp',renL_closed hc]
   exact ⟨trivial,trivial,trivial,trivial⟩
 · rintro j e H ⟨rfl,rfl,h0,h1,h7,h8⟩
   simp only [↓eA,eB,seval,l82002,h0,h1,h7,h8,Nat.lt_irrefl]
   exact ⟨trivial,trivial,trivial⟩
 · intro X e' H' h
   rw [thru_idx] at h
   cases hf:xs.findIdx? p with
   | none=>rw [hf] at h; exact h
   | some i=>rw [hf] at h; simpa using h
theorem e_idx_block (p:Block→Bool)(g:Nat)(caps:List D)(nz:Bool)(xs:List Block)(hb:xs.length < 1000000000)(hc:closedL caps=true)
   (hp:∀ x∈xs,L.call g (Block.enc x :: caps) []=some (.bool (p x),[])):L.call 82 [.fz nz 7 (xs.map Block.enc),.fn g caps] []=some (int (idxOf p xs),[]):=
 call_eq rfl rfl (by
   simp only [↓eA,eB,seval,c82]
   obtain ⟨X,e',H',h,rfl,h2⟩:=lp_idx_block p g caps nz xs hb hc hp [(0,.fz nz 7 (xs.map Block.enc)),(1,.fn g caps),(4,int 0),(6,.fz nz 7 (xs.map Block.enc)),(7,int xs.length),(8,int 0)] rfl rfl rfl rfl
   rw [h]
   unfold idxOf
   cases hf:xs.findIdx? p with
   | none=>rw [hf] at h2; subst h2; simp only [↓eA,eB,seval]
   | some i=>rw [hf] at h2; obtain ⟨rfl,h4⟩:=h2; simp only [↓eA,eB,seval,h4])
theorem e_con_block (p:Block→Bool)(g:Nat)(caps:List D)(nz:Bool)(xs:List Block)(hb:xs.length < 1000000000)(hc:closedL caps=true)
   (hp:∀ x∈xs,L.call g (Block.enc x :: caps) []=some (.bool (p x),[])):L.call 148 [.fz nz 7 (xs.map Block.enc),.fn g caps] []=some (.bool (xs.any p),[]):=
 call_eq rfl rfl (by
   simp only [↓eA,eB,seval,c148,renL_closed hc,e_idx_block p g caps nz xs hb hc hp,idxOf_ge])
set_option maxHeartbeats 400000 in
theorem lp_idx_bench (p:Bench→Bool)(g:Nat)(caps:List D)(nz:Bool)(xs:List Bench)(hb:xs.length < 1000000000)(hc:closedL caps=true)
   (hp:∀ x∈xs,L.call g (Bench.enc x :: caps) []=some (.bool (p x),[])) (e:Env) (h0:Gs.get e 0 = .fz nz 3 (xs.map Bench.enc)) (h1:Gs.get e 1 = .fn g caps) (h7:Gs.get e 7=int xs.length) (h8:Gs.get e 8=int 0) :
   Ends T 173002 e [] (fun X e' H'=>H'=[]∧match xs.findIdx? p with | some i=>X = .ret∧Gs.get e' 4=int i | none=>X = .ex 0):=by
 refine (loop_thru (T:=T) (key:=173002) (li:=l173002.1) rfl (R:=Nat) (fun (i:Nat) x=>bif p x then .inl i else .inr (i + 1)) xs (fun i j e H=>H=[]∧j=i∧Gs.get e 0 = .fz nz 3 (xs.map Bench.enc)∧Gs.get e 1 = .fn g caps∧Gs.get e 7=int xs.length∧Gs.get e 8=int i) (fun i X e' H'=>H'=[]∧X = .ret∧Gs.get e' 4=int i) (fun _ X e' H'=>H'=[]∧X = .ex 0) ?_ ?_ ?_ xs [] 0 e [] rfl ⟨rfl,rfl,h0,h1,h7,h8⟩).mono ?_
 · rintro i x j j' e H hi ⟨rfl,hji,h0,h1,h7,h8⟩ hf
   have hij:=hji.symm; subst hij
   have hlt:i < xs.length:=(List.getElem?_eq_some_iff.1 hi).1
   have hp':=hp x (List.mem_of_getElem? hi)
   have hpf:p x=false:=by cases h:p x<;>simp_all
   have hj:j'=i + 1:=by simp [hpf] at hf; exact hf.symm
   subst hj
   have hxi:(xs.map Bench.enc)[i]?=some (Bench.enc x):=by simp [hi]
   rw [hpf] at hp'
   simp only [↓eA,eB,seval,l173002,h0,h1,h7,h8,hlt,hxi,hp',renL_closed hc,wrap_succ (show i < 4611686018427387904 by omega)]
   exact ⟨trivial,trivial,trivial,trivial,trivial,trivial,trivial⟩
 · rintro i x j r e H hi ⟨rfl,hji,h0,h1,h7,h8⟩ hf
   have hij:=hji.symm; subst hij
   have hlt:i < xs.length:=(List.getElem?_eq_some_iff.1 hi).1
   have hp':=hp x (List.mem_of_getElem? hi)
   have hpf:p x=true:=by cases h:p x<;>simp_all
   have hj:r=i:=by simp [hpf] at hf; exact hf.symm
   subst hj
   have hxi:(xs.map Bench.enc)[r]?=some (Bench.enc x):=by simp [hi]
   rw [hpf] at hp'
   simp only [↓eA,eB,seval,l173002,h0,h1,h7,h8,hlt,hxi,hp',renL_closed hc]
   exact ⟨trivial,trivial,trivial,trivial⟩
 · rintro j e H ⟨rfl,rfl,h0,h1,h7,h8⟩
   simp only [↓eA,eB,seval,l173002,h0,h1,h7,h8,Nat.lt_irrefl]
   exact ⟨trivial,trivial,trivial⟩
 · intro X e' H' h
   rw [thru_idx] at h
   cases hf:xs.findIdx? p with
   | none=>rw [hf] at h; exact h
   | some i=>rw [hf] at h; simpa using h
theorem e_idx_bench (p:Bench→Bool)(g:Nat)(caps:List D)(nz:Bool)(xs:List Bench)(hb:xs.length < 1000000000)(hc:closedL caps=true)
   (hp:∀ x∈xs,L.call g (Bench.enc x :: caps) []=some (.bool (p x),[])):L.call 173 [.fz nz 3 (xs.map Bench.enc),.fn g caps] []=some (int (idxOf p xs),[]):=
 call_eq rfl rfl (by
   simp only [↓eA,eB,seval,c173]
   obtain ⟨X,e',H',h,rfl,h2⟩:=lp_idx_bench p g caps nz xs hb hc hp [(0,.fz nz 3 (xs.map Bench.enc)),(1,.fn g caps),(4,int 0),(6,.fz nz 3 (xs.map Bench.enc)),(7,int xs.length),(8,int 0)] rfl rfl rfl rfl
   rw [h]
   unfold idxOf
   cases hf:xs.findIdx? p with
   | none=>rw [hf] at h2; subst h2; simp only [↓eA,eB,seval]
   | some i=>rw [hf] at h2; obtain ⟨rfl,h4⟩:=h2; simp only [↓eA,eB,seval,h4])
theorem e_con_bench (p:Bench→Bool)(g:Nat)(caps:List D)(nz:Bool)(xs:List Bench)(hb:xs.length < 1000000000)(hc:closedL caps=true)
   (hp:∀ x∈xs,L.call g (Bench.enc x :: caps) []=some (.bool (p x),[])):L.call 193 [.fz nz 3 (xs.map Bench.enc),.fn g caps] []=some (.bool (xs.any p),[]):=
 call_eq rfl rfl (by
   simp only [↓eA,eB,seval,c193,renL_closed hc,e_idx_bench p g caps nz xs hb hc hp,idxOf_ge])
theorem e_bCommon (a b:Box):L.call 197 [a.enc,b.enc] []=some (.agg [int (max a.x0 b.x0),int (min a.x1 b.x1),int (max a.y0 b.y0),int (min a.y1 b.y1),int (max a.z0 b.z0),int (min a.z1 b.z1)],[]):=
 call_eq rfl rfl (by
   simp only [↓eA,eB,seval,c197,e_bsides a,e_bsides b]
   rw [loop_unfold_c (T:=T) (k:=197003) rfl]
   simp only [↓eA,eB,seval,l197003,i30,i20,i21]
   rw [loop_unfold_c (T:=T) (k:=197003) rfl]
   simp only [↓eA,eB,seval,l197003,i31,i20,i21]
   rw [loop_unfold_c (T:=T) (k:=197003) rfl]
   simp only [↓eA,eB,seval,l197003,i32,i20,i21]
   rw [loop_unfold_c (T:=T) (k:=197003) rfl]
   simp only [↓eA,eB,seval,l197003])
def apart (a b:Box):Bool:=decide (min a.x1 b.x1≤max a.x0 b.x0) || (decide (min a.y1 b.y1≤max a.y0 b.y0) || decide (min a.z1 b.z1≤max a.z0 b.z0))
theorem e_bOverlap (a b:Box):L.call 150 [a.enc,b.enc] []=some (.bool (!apart a b),[]):=
 call_eq rfl rfl (by
   simp only [↓eA,eB,seval,c150,e_bCommon a b]
   unfold apart
   rw [loop_unfold_c (T:=T) (k:=150002) rfl]
   simp only [↓eA,eB,seval,l150002,i30,i20,i21]
   cases h0:decide (min a.x1 b.x1≤max a.x0 b.x0) with
   | true=>simp only [↓eA,eB,seval]
   | false=>
   simp only [↓eA,eB,seval]
   rw [loop_unfold_c (T:=T) (k:=150002) rfl]
   simp only [↓eA,eB,seval,l150002,i31,i20,i21]
   cases h1:decide (min a.y1 b.y1≤max a.y0 b.y0) with
   | true=>simp only [↓eA,eB,seval]
   | false=>
   simp only [↓eA,eB,seval]
   rw [loop_unfold_c (T:=T) (k:=150002) rfl]
   simp only [↓eA,eB,seval,l150002,i32,i20,i21]
   cases h2:decide (min a.z1 b.z1≤max a.z0 b.z0) with
   | true=>simp only [↓eA,eB,seval]
   | false=>
   simp only [↓eA,eB,seval]
   rw [loop_unfold_c (T:=T) (k:=150002) rfl]
   simp only [↓eA,eB,seval,l150002])
def insideB (a b:Box):Bool:=!((decide (a.x0 < b.x0) || decide (b.x1 < a.x1)) || ((decide (a.y0 < b.y0) || decide (b.y1 < a.y1)) || (decide (a.z0 < b.z0) || decide (b.z1 < a.z1))))
theorem e_bInside (a b:Box):L.call 142 [a.enc,b.enc] []=some (.bool (insideB a b),[]):=
 call_eq rfl rfl (by
   simp only [↓eA,eB,seval,c142,e_bsides a,e_bsides b]
   unfold insideB
   rw [loop_unfold_c (T:=T) (k:=142003) rfl]
   simp only [↓eA,eB,seval,l142003,i30,i20,i21]
   cases h0:(decide (a.x0 < b.x0) || decide (b.x1 < a.x1)) with
   | true=>simp only [↓eA,eB,seval]
   | false=>
   simp only [↓eA,eB,seval]
   rw [loop_unfold_c (T:=T) (k:=142003) rfl]
   simp only [↓eA,eB,seval,l142003,i31,i20,i21]
   cases h1:(decide (a.y0 < b.y0) || decide (b.y1 < a.y1)) with
   | true=>simp only [↓eA,eB,seval]
   | false=>
   simp only [↓eA,eB,seval]
   rw [loop_unfold_c (T:=T) (k:=142003) rfl]
   simp only [↓eA,eB,seval,l142003,i32,i20,i21]
   cases h2:(decide (a.z0 < b.z0) || decide (b.z1 < a.z1)) with
   | true=>simp only [↓eA,eB,seval]
   | false=>
   simp only [↓eA,eB,seval]
   rw [loop_unfold_c (T:=T) (k:=142003) rfl]
   simp only [↓eA,eB,seval,l142003])
end Tz.C18
set_option maxRecDepth 100000
open Gs Go
namespace Tz.C18
structure Stand where
 name:ByteArray
 x:Int
 y:Int
 radii:List Int
 limits:List Int
abbrev Stand.enc (s:Stand):D:=.agg [.str s.name,int s.x,int s.y,.fz false 1 (s.radii.map int),.fz false 1 (s.limits.map int)]
structure Site where
 survey:Survey
 benches:List Bench
 blocks:List Block
 safety:Safety
 stands:List Stand
 density:Int
abbrev benchs (l:List Bench):D:=.fz false 3 (l.map Bench.enc)
abbrev Site.cells (s:Site):List D:=[int s.survey.pit.x0,int s.survey.pit.y0,int s.survey.pit.z0,int s.survey.pit.x1,int s.survey.pit.y1,int s.survey.pit.z1,.bool s.survey.o0,.bool s.survey.o1,.bool s.survey.o2,.bool s.survey.o3,
 .fz false 2 (s.survey.beds.map Bed.enc),.fz false 5 (s.survey.joints.map Joint.enc),.fz false 4 (s.survey.flaws.map Flaw.enc),benchs s.benches,blks s.blocks,int s.safety.batter,int s.safety.width,.fz false 5 (s.stands.map Stand.enc),int s.density]
abbrev Site.enc (s:Site):D:=.agg s.cells
structure Site.Fit (s:Site):Prop where
 sv:s.survey.Fit
 bl:s.blocks.length < 1000000
 be:s.benches.length < 1000000
 bn:∀ b∈s.blocks,b.name.size < 1000000000
 en:∀ b∈s.benches,b.name.size < 1000000000
def cMany (s:Site):Bool:=decide (32 < (s.benches.length:Int)) || decide (256 < (s.blocks.length:Int))
theorem e_c1 (s:Site):L.call 129 [s.enc] []=some (.bool (cMany s),[]):=
 call_eq rfl rfl (by simp only [↓eA,eB,seval,c129,List.length_map]; rfl)
theorem e_span (n lo hi:Int):L.call 131 [int n,int lo,int hi] []=some (.bool (decide (lo≤n) && decide (n≤hi)),[]):=
 call_eq rfl rfl (by simp only [↓eA,eB,seval,c131])
def cRange (s:Site):Bool:=(!(decide (0≤s.safety.batter) && decide (s.safety.batter≤10000)) || !(decide (0≤s.safety.width) && decide (s.safety.width≤1000000))) || !(decide (1≤s.density) && decide (s.density≤10000))
theorem e_c2 (s:Site):L.call 130 [s.enc] []=some (.bool (cRange s),[]):=
 call_eq rfl rfl (by simp only [↓eA,eB,seval,c130,e_span]; rfl)
theorem e_c3 (s:Site)(b:Bench)(h:b.name.size < 1000000000):L.call 134 [s.enc,b.enc] []=some (.bool (!pName b.name),[]):=
 call_eq rfl rfl (by simp only [↓eA,eB,seval,c134,e_pName b.name h])
theorem e_c4 (s:Site)(b:Block)(h:b.name.size < 1000000000):L.call 136 [s.enc,b.enc] []=some (.bool (!pName b.name),[]):=
 call_eq rfl rfl (by simp only [↓eA,eB,seval,c136,e_pName b.name h])
theorem e_c5 (s:Site)(b:Bench):L.call 137 [s.enc,b.enc] []=some (.bool (decide (b.hi≤b.lo)),[]):=
 call_eq rfl rfl (by simp only [↓eA,eB,seval,c137])
def emptyB (b:Box):Bool:=(decide (b.x1≤b.x0) || decide (b.y1≤b.y0)) || decide (b.z1≤b.z0)
theorem e_empty (b:Box):L.call 139 [b.enc] []=some (.bool (emptyB b),[]):=
 call_eq rfl rfl (by simp only [↓eA,eB,seval,c139]; rfl)
theorem e_c6 (s:Site)(b:Block):L.call 138 [s.enc,b.enc] []=some (.bool (emptyB b.box),[]):=
 call_eq rfl rfl (by simp only [↓eA,eB,seval,c138,e_empty b.box])
def benchOut (s:Site)(b:Bench):Bool:=decide (b.lo < s.survey.pit.z0) || decide (s.survey.pit.z1 < b.hi)
theorem e_c7 (s:Site)(b:Bench):L.call 140 [s.enc,b.enc] []=some (.bool (benchOut s b),[]):=
 call_eq rfl rfl (by simp only [↓eA,eB,seval,c140]; rfl)
def blockOut (s:Site)(b:Block):Bool:=!insideB b.box s.survey.pit
theorem e_c8 (s:Site)(b:Block):L.call 141 [s.enc,b.enc] []=some (.bool (blockOut s b),[]):=
 call_eq rfl rfl (by simp only [↓eA,eB,seval,c141,e_bInside b.box s.survey.pit]; rfl)
abbrev geBench (a b:Bench):Bool:=decide (b.lo < a.hi)
abbrev geBlock (a b:Block):Bool:=!slt a.name b.name
abbrev Hst (s:Site):Heap:=[(1,.box s.cells false)]
theorem lp_c9 (s:Site)(hF:s.Fit)(e:Env)(h1:Gs.get e 1 = .ptr 1 0)(hi:Gs.get e 3=int (1:Nat)) :
   Ends T 143002 e (Hst s) (fun X e' H'=>H'=Hst s∧match steps s.benches geBench with | true=>X = .ret∧Gs.get e' 2 = .bool true | false=>X = .ex 0):=by
 have hb:=hF.be
 refine loop_fr (T:=T) (key:=143002) (li:=l143002.1) rfl 1 s.benches.length (badIx s.benches geBench) (Hst s) (fun k e=>Gs.get e 1 = .ptr 1 0∧Gs.get e 3=int k) (fun X e'=>X = .ret∧Gs.get e' 2 = .bool true) (fun X e'=>X = .ex 0) ?_ ?_ e ⟨h1,hi⟩
 · rintro k e hk hlt ⟨h1,h3⟩
   obtain ⟨y,hy⟩:∃ y,s.benches[k]?=some y:=⟨_,List.getElem?_eq_getElem (by omega)⟩
   obtain ⟨p,hp⟩:∃ p,s.benches[k - 1]?=some p:=⟨_,List.getElem?_eq_getElem (by omega)⟩
   have hil:k - 1 < s.benches.length:=by omega
   have hy':(s.benches.map Bench.enc)[k]?=some y.enc:=by simp [hy]
   have hp':(s.benches.map Bench.enc)[k - 1]?=some p.enc:=by simp [hp]
   have hbd:badIx s.benches geBench k=geBench p y:=by simp only [badIx,hy,hp]
   rw [hbd]
   simp only [↓eA,eB,seval,l143002,h1,h3,hlt,hil,hy',hp',wrap_pred (show 0 < k by omega) (show k < 4611686018427387904 by omega),wrap_succ (show k < 4611686018427387904 by omega)]
   cases hc:geBench p y<;>(try simp only [Bool.not_eq_true',Bool.not_eq_false'] at hc)<;>simp only [↓eA,eB,seval,hc]<;>and_intros<;>first | trivial | rfl
 · rintro k e hk _ ⟨h1,h3⟩
   have hlt:¬ k < s.benches.length:=by omega
   simp only [↓eA,eB,seval,l143002,h1,h3,hlt]
   and_intros<;>first | trivial | rfl
theorem e_c9 (s:Site)(hF:s.Fit):L.call 143 [s.enc] []=some (.bool (steps s.benches geBench),[]):=
 call_eq rfl rfl (by
   simp only [↓eA,eB,seval,c143]
   generalize hE:(lim T).loop 143002 _ _=R
   obtain ⟨X,e',H',rfl,rfl,hp⟩:=Ends.at hE (lp_c9 s hF _ rfl rfl)
   cases hs:steps s.benches geBench with
   | true=>rw [hs] at hp; obtain ⟨rfl,g2⟩:=hp; simp only [↓eA,eB,seval,g2]
   | false=>rw [hs] at hp; subst hp; simp only [↓eA,eB,seval])
theorem lp_c10 (s:Site)(hF:s.Fit)(e:Env)(h1:Gs.get e 1 = .ptr 1 0)(hi:Gs.get e 3=int (1:Nat)) :
   Ends T 145002 e (Hst s) (fun X e' H'=>H'=Hst s∧match steps s.blocks geBlock with | true=>X = .ret∧Gs.get e' 2 = .bool true | false=>X = .ex 0):=by
 have hb:=hF.bl
 refine loop_fr (T:=T) (key:=145002) (li:=l145002.1) rfl 1 s.blocks.length (badIx s.blocks geBlock) (Hst s) (fun k e=>Gs.get e 1 = .ptr 1 0∧Gs.get e 3=int k) (fun X e'=>X = .ret∧Gs.get e' 2 = .bool true) (fun X e'=>X = .ex 0) ?_ ?_ e ⟨h1,hi⟩
 · rintro k e hk hlt ⟨h1,h3⟩
   obtain ⟨y,hy⟩:∃ y,s.blocks[k]?=some y:=⟨_,List.getElem?_eq_getElem (by omega)⟩
   obtain ⟨p,hp⟩:∃ p,s.blocks[k - 1]?=some p:=⟨_,List.getElem?_eq_getElem (by omega)⟩
   have hil:k - 1 < s.blocks.length:=by omega
   have hy':(s.blocks.map Block.enc)[k]?=some y.enc:=by simp [hy]
   have hp':(s.blocks.map Block.enc)[k - 1]?=some p.enc:=by simp [hp]
   have hbd:badIx s.blocks geBlock k=geBlock p y:=by simp only [badIx,hy,hp]
   rw [hbd]
   simp only [↓eA,eB,seval,l145002,h1,h3,hlt,hil,hy',hp',wrap_pred (show 0 < k by omega) (show k < 4611686018427387904 by omega),wrap_succ (show k < 4611686018427387904 by omega)]
   cases hc:geBlock p y<;>(try simp only [Bool.not_eq_true',Bool.not_eq_false'] at hc)<;>simp only [↓eA,eB,seval,hc]<;>and_intros<;>first | trivial | rfl
 · rintro k e hk _ ⟨h1,h3⟩
   have hlt:¬ k < s.blocks.length:=by omega
   simp only [↓eA,eB,seval,l145002,h1,h3,hlt]
   and_intros<;>first | trivial | rfl
theorem e_c10 (s:Site)(hF:s.Fit):L.call 145 [s.enc] []=some (.bool (steps s.blocks geBlock),[]):=
 call_eq rfl rfl (by
   simp only [↓eA,eB,seval,c145]
   generalize hE:(lim T).loop 145002 _ _=R
   obtain ⟨X,e',H',rfl,rfl,hp⟩:=Ends.at hE (lp_c10 s hF _ rfl rfl)
   cases hs:steps s.blocks geBlock with
   | true=>rw [hs] at hp; obtain ⟨rfl,g2⟩:=hp; simp only [↓eA,eB,seval,g2]
   | false=>rw [hs] at hp; subst hp; simp only [↓eA,eB,seval])
end Tz.C18
