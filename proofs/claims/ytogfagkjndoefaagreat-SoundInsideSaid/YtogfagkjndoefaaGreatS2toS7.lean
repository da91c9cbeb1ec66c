/- Searches in lists; Names; Orientation and meeting of segments; Simple polygons; Polygons of the reference; Polygons of the program; no conditions. -/
import Derived.Test.YtogfagkjndoefaaGreatS1
import Derived.KernelRfl
set_option linter.all false
set_option maxRecDepth 100000
open Gs Go
namespace Tz
theorem findIdx_any {α:Type}(p:α→Bool)(xs:List α):(xs.any p=true→∃ i:Nat,i < xs.length∧xs.findIdx? p=some i)∧(xs.any p=false→xs.findIdx? p=none):=by
 constructor
 · intro h
   cases hf:xs.findIdx? p with
   | none=>
     rw [List.findIdx?_eq_none_iff] at hf
     obtain ⟨x,hx,hp⟩:=List.any_eq_true.1 h
     rw [hf x hx] at hp; cases hp
   | some i=>exact ⟨i,(List.findIdx?_eq_some_iff_getElem.1 hf).1,rfl⟩
 · intro h
   rw [List.findIdx?_eq_none_iff]
   intro x hx
   cases hp:p x with
   | false=>rfl
   | true=>rw [List.any_eq_true.2 ⟨x,hx,hp⟩] at h; cases h
def idxOf {α:Type}(p:α→Bool)(xs:List α):Int:=match xs.findIdx? p with | some i=>(i:Int) | none=>-1
theorem idxOf_ge {α:Type}(p:α→Bool)(xs:List α):decide (0≤idxOf p xs)=xs.any p:=by
 unfold idxOf
 cases h:xs.any p with
 | true=>obtain ⟨i,_,hi⟩:=(findIdx_any p xs).1 h; rw [hi]; simp
 | false=>rw [(findIdx_any p xs).2 h]; rfl
theorem thru_idx {α:Type}(p:α→Bool):∀ (xs:List α) (i:Nat),thru (R:=Nat) (fun (i:Nat) x=>bif p x then .inl i else .inr (i + 1)) xs i=match xs.findIdx? p with | some j=>.inl (i + j) | none=>.inr (i + xs.length)
 | [],i=>rfl
 | x :: r,i=>by
   simp only [thru,List.findIdx?_cons]
   cases p x with
   | true=>rfl
   | false=>
     simp only [cond_false,thru_idx p r (i + 1),Bool.false_eq_true,if_false]
     cases r.findIdx? p with
     | none=>simp only [Option.map_none,List.length_cons]; congr 1; omega
     | some j=>simp only [Option.map_some]; congr 1; omega
set_option maxHeartbeats 400000 in
theorem lp_idx_int (p:Int→Bool)(g:Nat)(caps:List D)(nz:Bool)(xs:List Int)(hb:xs.length < 1000000000)(hc:closedL caps=true)
   (hp:∀ x∈xs,L.call g (int x :: caps) []=some (.bool (p x),[])) (e:Env) (h0:Gs.get e 0 = .fz nz 1 (xs.map int)) (h1:Gs.get e 1 = .fn g caps) (h7:Gs.get e 7=int xs.length) (h8:Gs.get e 8=int 0) :
   Ends T 194002 e [] (fun X e' H'=>H'=[]∧match xs.findIdx? p with | some i=>X = .ret∧Gs.get e' 4=int i | none=>X = .ex 0):=by
 refine (loop_thru (T:=T) (key:=194002) (li:=l194002.1) rfl (R:=Nat) (fun (i:Nat) x=>bif p x then .inl i else .inr (i + 1)) xs (fun i j e H=>H=[]∧j=i∧Gs.get e 0 = .fz nz 1 (xs.map int)∧Gs.get e 1 = .fn g caps∧Gs.get e 7=int xs.length∧Gs.get e 8=int i) (fun i X e' H'=>H'=[]∧X = .ret∧Gs.get e' 4=int i) (fun _ X e' H'=>H'=[]∧X = .ex 0) ?_ ?_ ?_ xs [] 0 e [] rfl ⟨rfl,rfl,h0,h1,h7,h8⟩).mono ?_
 · rintro i x j j' e H hi ⟨rfl,hji,h0,h1,h7,h8⟩ hf
   have hij:=hji.symm; subst hij
   have hlt:i < xs.length:=(List.getElem?_eq_some_iff.1 hi).1
   have hp':=hp x (List.mem_of_getElem? hi)
   have hpf:p x=false:=by cases h:p x<;>simp_all
   have hj:j'=i + 1:=by simp [hpf] at hf; exact hf.symm
   subst hj
   have hxi:(xs.map int)[i]?=some (int x):=by simp [hi]
   rw [hpf] at hp'
   simp only [↓eA,eB,seval,l194002,h0,h1,h7,h8,hlt,hxi,hp',renL_closed hc,wrap_succ (show i < 4611686018427387904 by omega)]
   exact ⟨trivial,trivial,trivial,trivial,trivial,trivial,trivial⟩
 · rintro i x j r e H hi ⟨rfl,hji,h0,h1,h7,h8⟩ hf
   have hij:=hji.symm; subst hij
   have hlt:i < xs.length:=(List.getElem?_eq_some_iff.1 hi).1
   have hp':=hp x (List.mem_of_getElem? hi)
   have hpf:p x=true:=by cases h:p x<;>simp_all
   have hj:r=i:=by simp [hpf] at hf; exact hf.symm
   subst hj
   have hxi:(xs.map int)[r]?=some (int x):=by simp [hi]
   rw [hpf] at hp'
   simp only [↓eA,eB,seval,l194002,h0,h1,h7,h8,hlt,hxi,hp',renL_closed hc]
   exact ⟨trivial,trivial,trivial,trivial⟩
 · rintro j e H ⟨rfl,rfl,h0,h1,h7,h8⟩
   simp only [↓eA,eB,seval,l194002,h0,h1,h7,h8,Nat.lt_irrefl]
   exact ⟨trivial,trivial,trivial⟩
 · intro X e' H' h
   rw [thru_idx] at h
   cases hf:xs.findIdx? p with
   | none=>rw [hf] at h; exact h
   | some i=>rw [hf] at h; simpa using h
theorem e_idx_int (p:Int→Bool)(g:Nat)(caps:List D)(nz:Bool)(xs:List Int)(hb:xs.length < 1000000000)(hc:closedL caps=true)
   (hp:∀ x∈xs,L.call g (int x :: caps) []=some (.bool (p x),[])):L.call 194 [.fz nz 1 (xs.map int),.fn g caps] []=some (int (idxOf p xs),[]):=
 call_eq rfl rfl (by
   simp only [↓eA,eB,seval,c194]
   obtain ⟨X,e',H',h,rfl,h2⟩:=lp_idx_int p g caps nz xs hb hc hp [(0,.fz nz 1 (xs.map int)),(1,.fn g caps),(4,int 0),(6,.fz nz 1 (xs.map int)),(7,int xs.length),(8,int 0)] rfl rfl rfl rfl
   rw [h]
   unfold idxOf
   cases hf:xs.findIdx? p with
   | none=>rw [hf] at h2; subst h2; simp only [↓eA,eB,seval]
   | some i=>rw [hf] at h2; obtain ⟨rfl,h4⟩:=h2; simp only [↓eA,eB,seval,h4])
theorem e_con_int (p:Int→Bool)(g:Nat)(caps:List D)(nz:Bool)(xs:List Int)(hb:xs.length < 1000000000)(hc:closedL caps=true)
   (hp:∀ x∈xs,L.call g (int x :: caps) []=some (.bool (p x),[])):L.call 161 [.fz nz 1 (xs.map int),.fn g caps] []=some (.bool (xs.any p),[]):=
 call_eq rfl rfl (by
   simp only [↓eA,eB,seval,c161,renL_closed hc,e_idx_int p g caps nz xs hb hc hp,idxOf_ge])
set_option maxHeartbeats 400000 in
theorem lp_idx_str (p:ByteArray→Bool)(g:Nat)(caps:List D)(nz:Bool)(xs:List ByteArray)(hb:xs.length < 1000000000)(hc:closedL caps=true)
   (hp:∀ x∈xs,L.call g (D.str x :: caps) []=some (.bool (p x),[])) (e:Env) (h0:Gs.get e 0 = .fz nz 1 (xs.map D.str)) (h1:Gs.get e 1 = .fn g caps) (h7:Gs.get e 7=int xs.length) (h8:Gs.get e 8=int 0) :
   Ends T 163002 e [] (fun X e' H'=>H'=[]∧match xs.findIdx? p with | some i=>X = .ret∧Gs.get e' 4=int i | none=>X = .ex 0):=by
 refine (loop_thru (T:=T) (key:=163002) (li:=l163002.1) rfl (R:=Nat) (fun (i:Nat) x=>bif p x then .inl i else .inr (i + 1)) xs (fun i j e H=>H=[]∧j=i∧Gs.get e 0 = .fz nz 1 (xs.map D.str)∧Gs.get e 1 = .fn g caps∧Gs.get e 7=int xs.length∧Gs.get e 8=int i) (fun i X e' H'=>H'=[]∧X = .ret∧Gs.get e' 4=int i) (fun _ X e' H'=>H'=[]∧X = .ex 0) ?_ ?_ ?_ xs [] 0 e [] rfl ⟨rfl,rfl,h0,h1,h7,h8⟩).mono ?_
 · rintro i x j j' e H hi ⟨rfl,hji,h0,h1,h7,h8⟩ hf
   have hij:=hji.symm; subst hij
   have hlt:i < xs.length:=(List.getElem?_eq_some_iff.1 hi).1
   have hp':=hp x (List.mem_of_getElem? hi)
   have hpf:p x=false:=by cases h:p x<;>simp_all
   have hj:j'=i + 1:=by simp [hpf] at hf; exact hf.symm
   subst hj
   have hxi:(xs.map D.str)[i]?=some (D.str x):=by simp [hi]
   rw [hpf] at hp'
   simp only [↓eA,eB,seval,l163002,h0,h1,h7,h8,hlt,hxi,hp',renL_closed hc,wrap_succ (show i < 4611686018427387904 by omega)]
   exact ⟨trivial,trivial,trivial,trivial,trivial,trivial,trivial⟩
 · rintro i x j r e H hi ⟨rfl,hji,h0,h1,h7,h8⟩ hf
   have hij:=hji.symm; subst hij
   have hlt:i < xs.length:=(List.getElem?_eq_some_iff.1 hi).1
   have hp':=hp x (List.mem_of_getElem? hi)
   have hpf:p x=true:=by cases h:p x<;>simp_all
   have hj:r=i:=by simp [hpf] at hf; exact hf.symm
   subst hj
   have hxi:(xs.map D.str)[r]?=some (D.str x):=by simp [hi]
   rw [hpf] at hp'
   simp only [↓eA,eB,seval,l163002,h0,h1,h7,h8,hlt,hxi,hp',renL_closed hc]
   exact ⟨trivial,trivial,trivial,trivial⟩
 · rintro j e H ⟨rfl,rfl,h0,h1,h7,h8⟩
   simp only [↓eA,eB,seval,l163002,h0,h1,h7,h8,Nat.lt_irrefl]
   exact ⟨trivial,trivial,trivial⟩
 · intro X e' H' h
   rw [thru_idx] at h
   cases hf:xs.findIdx? p with
   | none=>rw [hf] at h; exact h
   | some i=>rw [hf] at h; simpa using h
theorem e_idx_str (p:ByteArray→Bool)(g:Nat)(caps:List D)(nz:Bool)(xs:List ByteArray)(hb:xs.length < 1000000000)(hc:closedL caps=true)
   (hp:∀ x∈xs,L.call g (D.str x :: caps) []=some (.bool (p x),[])):L.call 163 [.fz nz 1 (xs.map D.str),.fn g caps] []=some (int (idxOf p xs),[]):=
 call_eq rfl rfl (by
   simp only [↓eA,eB,seval,c163]
   obtain ⟨X,e',H',h,rfl,h2⟩:=lp_idx_str p g caps nz xs hb hc hp [(0,.fz nz 1 (xs.map D.str)),(1,.fn g caps),(4,int 0),(6,.fz nz 1 (xs.map D.str)),(7,int xs.length),(8,int 0)] rfl rfl rfl rfl
   rw [h]
   unfold idxOf
   cases hf:xs.findIdx? p with
   | none=>rw [hf] at h2; subst h2; simp only [↓eA,eB,seval]
   | some i=>rw [hf] at h2; obtain ⟨rfl,h4⟩:=h2; simp only [↓eA,eB,seval,h4])
theorem e_con_str (p:ByteArray→Bool)(g:Nat)(caps:List D)(nz:Bool)(xs:List ByteArray)(hb:xs.length < 1000000000)(hc:closedL caps=true)
   (hp:∀ x∈xs,L.call g (D.str x :: caps) []=some (.bool (p x),[])):L.call 113 [.fz nz 1 (xs.map D.str),.fn g caps] []=some (.bool (xs.any p),[]):=
 call_eq rfl rfl (by
   simp only [↓eA,eB,seval,c113,renL_closed hc,e_idx_str p g caps nz xs hb hc hp,idxOf_ge])
set_option maxHeartbeats 400000 in
theorem lp_idx_joint (p:Joint→Bool)(g:Nat)(caps:List D)(nz:Bool)(xs:List Joint)(hb:xs.length < 1000000000)(hc:closedL caps=true)
   (hp:∀ x∈xs,L.call g (Joint.enc x :: caps) []=some (.bool (p x),[])) (e:Env) (h0:Gs.get e 0 = .fz nz 5 (xs.map Joint.enc)) (h1:Gs.get e 1 = .fn g caps) (h7:Gs.get e 7=int xs.length) (h8:Gs.get e 8=int 0) :
   Ends T 167002 e [] (fun X e' H'=>H'=[]∧match xs.findIdx? p with | some i=>X = .ret∧Gs.get e' 4=int i | none=>X = .ex 0):=by
 refine (loop_thru (T:=T) (key:=167002) (li:=l167002.1) rfl (R:=Nat) (fun (i:Nat) x=>bif p x then .inl i else .inr (i + 1)) xs (fun i j e H=>H=[]∧j=i∧Gs.get e 0 = .fz nz 5 (xs.map Joint.enc)∧Gs.get e 1 = .fn g caps∧Gs.get e 7=int xs.length∧Gs.get e 8=int i) (fun i X e' H'=>H'=[]∧X = .ret∧Gs.get e' 4=int i) (fun _ X e' H'=>H'=[]∧X = .ex 0) ?_ ?_ ?_ xs [] 0 e [] rfl ⟨rfl,rfl,h0,h1,h7,h8⟩).mono ?_
 · rintro i x j j' e H hi ⟨rfl,hji,h0,h1,h7,h8⟩ hf
   have hij:=hji.symm; subst hij
   have hlt:i < xs.length:=(List.getElem?_eq_some_iff.1 hi).1
   have hp':=hp x (List.mem_of_getElem? hi)
   have hpf:p x=false:=by cases h:p x<;>simp_all
   have hj:j'=i + 1:=by simp [hpf] at hf; exact hf.symm
   subst hj
   have hxi:(xs.map Joint.enc)[i]?=some (Joint.enc x):=by simp [hi]
   rw [hpf] at hp'
   simp only [↓eA,eB,seval,l167002,h0,h1,h7,h8,hlt,hxi,hp',renL_closed hc,wrap_succ (show i < 4611686018427387904 by omega)]
   exact ⟨trivial,trivial,trivial,trivial,trivial,trivial,trivial⟩
 · rintro i x j r e H hi ⟨rfl,hji,h0,h1,h7,h8⟩ hf
   have hij:=hji.symm; subst hij
   have hlt:i < xs.length:=(List.getElem?_eq_some_iff.1 hi).1
   have hp':=hp x (List.mem_of_getElem? hi)
   have hpf:p x=true:=by cases h:p x<;>simp_all
   have hj:r=i:=by simp [hpf] at hf; exact hf.symm
   subst hj
   have hxi:(xs.map Joint.enc)[r]?=some (Joint.enc x):=by simp [hi]
   rw [hpf] at hp'
   simp only [↓eA,eB,seval,l167002,h0,h1,h7,h8,hlt,hxi,hp',renL_closed hc]
   exact ⟨trivial,trivial,trivial,trivial⟩
 · rintro j e H ⟨rfl,rfl,h0,h1,h7,h8⟩
   simp only [↓eA,eB,seval,l167002,h0,h1,h7,h8,Nat.lt_irrefl]
   exact ⟨trivial,trivial,trivial⟩
 · intro X e' H' h
   rw [thru_idx] at h
   cases hf:xs.findIdx? p with
   | none=>rw [hf] at h; exact h
   | some i=>rw [hf] at h; simpa using h
theorem e_idx_joint (p:Joint→Bool)(g:Nat)(caps:List D)(nz:Bool)(xs:List Joint)(hb:xs.length < 1000000000)(hc:closedL caps=true)
   (hp:∀ x∈xs,L.call g (Joint.enc x :: caps) []=some (.bool (p x),[])):L.call 167 [.fz nz 5 (xs.map Joint.enc),.fn g caps] []=some (int (idxOf p xs),[]):=
 call_eq rfl rfl (by
   simp only [↓eA,eB,seval,c167]
   obtain ⟨X,e',H',h,rfl,h2⟩:=lp_idx_joint p g caps nz xs hb hc hp [(0,.fz nz 5 (xs.map Joint.enc)),(1,.fn g caps),(4,int 0),(6,.fz nz 5 (xs.map Joint.enc)),(7,int xs.length),(8,int 0)] rfl rfl rfl rfl
   rw [h]
   unfold idxOf
   cases hf:xs.findIdx? p with
   | none=>rw [hf] at h2; subst h2; simp only [↓eA,eB,seval]
   | some i=>rw [hf] at h2; obtain ⟨rfl,h4⟩:=h2; simp only [↓eA,eB,seval,h4])
theorem e_con_joint (p:Joint→Bool)(g:Nat)(caps:List D)(nz:Bool)(xs:List Joint)(hb:xs.length < 1000000000)(hc:closedL caps=true)
   (hp:∀ x∈xs,L.call g (Joint.enc x :: caps) []=some (.bool (p x),[])):L.call 117 [.fz nz 5 (xs.map Joint.enc),.fn g caps] []=some (.bool (xs.any p),[]):=
 call_eq rfl rfl (by
   simp only [↓eA,eB,seval,c117,renL_closed hc,e_idx_joint p g caps nz xs hb hc hp,idxOf_ge])
set_option maxHeartbeats 400000 in
theorem lp_idx_flaw (p:Flaw→Bool)(g:Nat)(caps:List D)(nz:Bool)(xs:List Flaw)(hb:xs.length < 1000000000)(hc:closedL caps=true)
   (hp:∀ x∈xs,L.call g (Flaw.enc x :: caps) []=some (.bool (p x),[])) (e:Env) (h0:Gs.get e 0 = .fz nz 4 (xs.map Flaw.enc)) (h1:Gs.get e 1 = .fn g caps) (h7:Gs.get e 7=int xs.length) (h8:Gs.get e 8=int 0) :
   Ends T 168002 e [] (fun X e' H'=>H'=[]∧match xs.findIdx? p with | some i=>X = .ret∧Gs.get e' 4=int i | none=>X = .ex 0):=by
 refine (loop_thru (T:=T) (key:=168002) (li:=l168002.1) rfl (R:=Nat) (fun (i:Nat) x=>bif p x then .inl i else .inr (i + 1)) xs (fun i j e H=>H=[]∧j=i∧Gs.get e 0 = .fz nz 4 (xs.map Flaw.enc)∧Gs.get e 1 = .fn g caps∧Gs.get e 7=int xs.length∧Gs.get e 8=int i) (fun i X e' H'=>H'=[]∧X = .ret∧Gs.get e' 4=int i) (fun _ X e' H'=>H'=[]∧X = .ex 0) ?_ ?_ ?_ xs [] 0 e [] rfl ⟨rfl,rfl,h0,h1,h7,h8⟩).mono ?_
 · rintro i x j j' e H hi ⟨rfl,hji,h0,h1,h7,h8⟩ hf
   have hij:=hji.symm; subst hij
   have hlt:i < xs.length:=(List.getElem?_eq_some_iff.1 hi).1
   have hp':=hp x (List.mem_of_getElem? hi)
   have hpf:p x=false:=by cases h:p x<;>simp_all
   have hj:j'=i + 1:=by simp [hpf] at hf; exact hf.symm
   subst hj
   have hxi:(xs.map Flaw.enc)[i]?=some (Flaw.enc x):=by simp [hi]
   rw [hpf] at hp'
   simp only [↓eA,eB,seval,l168002,h0,h1,h7,h8,hlt,hxi,hp',renL_closed hc,wrap_succ (show i < 4611686018427387904 by omega)]
   exact ⟨trivial,trivial,trivial,trivial,trivial,trivial,trivial⟩
 · rintro i x j r e H hi ⟨rfl,hji,h0,h1,h7,h8⟩ hf
   have hij:=hji.symm; subst hij
   have hlt:i < xs.length:=(List.getElem?_eq_some_iff.1 hi).1
   have hp':=hp x (List.mem_of_getElem? hi)
   have hpf:p x=true:=by cases h:p x<;>simp_all
   have hj:r=i:=by simp [hpf] at hf; exact hf.symm
   subst hj
   have hxi:(xs.map Flaw.enc)[r]?=some (Flaw.enc x):=by simp [hi]
   rw [hpf] at hp'
   simp only [↓eA,eB,seval,l168002,h0,h1,h7,h8,hlt,hxi,hp',renL_closed hc]
   exact ⟨trivial,trivial,trivial,trivial⟩
 · rintro j e H ⟨rfl,rfl,h0,h1,h7,h8⟩
   simp only [↓eA,eB,seval,l168002,h0,h1,h7,h8,Nat.lt_irrefl]
   exact ⟨trivial,trivial,trivial⟩
 · intro X e' H' h
   rw [thru_idx] at h
   cases hf:xs.findIdx? p with
   | none=>rw [hf] at h; exact h
   | some i=>rw [hf] at h; simpa using h
theorem e_idx_flaw (p:Flaw→Bool)(g:Nat)(caps:List D)(nz:Bool)(xs:List Flaw)(hb:xs.length < 1000000000)(hc:closedL caps=true)
   (hp:∀ x∈xs,L.call g (Flaw.enc x :: caps) []=some (.bool (p x),[])):L.call 168 [.fz nz 4 (xs.map Flaw.enc),.fn g caps] []=some (int (idxOf p xs),[]):=
 call_eq rfl rfl (by
   simp only [↓eA,eB,seval,c168]
   obtain ⟨X,e',H',h,rfl,h2⟩:=lp_idx_flaw p g caps nz xs hb hc hp [(0,.fz nz 4 (xs.map Flaw.enc)),(1,.fn g caps),(4,int 0),(6,.fz nz 4 (xs.map Flaw.enc)),(7,int xs.length),(8,int 0)] rfl rfl rfl rfl
   rw [h]
   unfold idxOf
   cases hf:xs.findIdx? p with
   | none=>rw [hf] at h2; subst h2; simp only [↓eA,eB,seval]
   | some i=>rw [hf] at h2; obtain ⟨rfl,h4⟩:=h2; simp only [↓eA,eB,seval,h4])
theorem e_con_flaw (p:Flaw→Bool)(g:Nat)(caps:List D)(nz:Bool)(xs:List Flaw)(hb:xs.length < 1000000000)(hc:closedL caps=true)
   (hp:∀ x∈xs,L.call g (Flaw.enc x :: caps) []=some (.bool (p x),[])):L.call 119 [.fz nz 4 (xs.map Flaw.enc),.fn g caps] []=some (.bool (xs.any p),[]):=
 call_eq rfl rfl (by
   simp only [↓eA,eB,seval,c119,renL_closed hc,e_idx_flaw p g caps nz xs hb hc hp,idxOf_ge])
set_option maxHeartbeats 400000 in
theorem lp_idx_bed (p:Bed→Bool)(g:Nat)(caps:List D)(nz:Bool)(xs:List Bed)(hb:xs.length < 1000000000)(hc:closedL caps=true)
   (hp:∀ x∈xs,L.call g (Bed.enc x :: caps) []=some (.bool (p x),[])) (e:Env) (h0:Gs.get e 0 = .fz nz 2 (xs.map Bed.enc)) (h1:Gs.get e 1 = .fn g caps) (h7:Gs.get e 7=int xs.length) (h8:Gs.get e 8=int 0) :
   Ends T 140002 e [] (fun X e' H'=>H'=[]∧match xs.findIdx? p with | some i=>X = .ret∧Gs.get e' 4=int i | none=>X = .ex 0):=by
 refine (loop_thru (T:=T) (key:=140002) (li:=l140002.1) rfl (R:=Nat) (fun (i:Nat) x=>bif p x then .inl i else .inr (i + 1)) xs (fun i j e H=>H=[]∧j=i∧Gs.get e 0 = .fz nz 2 (xs.map Bed.enc)∧Gs.get e 1 = .fn g caps∧Gs.get e 7=int xs.length∧Gs.get e 8=int i) (fun i X e' H'=>H'=[]∧X = .ret∧Gs.get e' 4=int i) (fun _ X e' H'=>H'=[]∧X = .ex 0) ?_ ?_ ?_ xs [] 0 e [] rfl ⟨rfl,rfl,h0,h1,h7,h8⟩).mono ?_
 · rintro i x j j' e H hi ⟨rfl,hji,h0,h1,h7,h8⟩ hf
   have hij:=hji.symm; subst hij
   have hlt:i < xs.length:=(List.getElem?_eq_some_iff.1 hi).1
   have hp':=hp x (List.mem_of_getElem? hi)
   have hpf:p x=false:=by cases h:p x<;>simp_all
   have hj:j'=i + 1:=by simp [hpf] at hf; exact hf.symm
   subst hj
   have hxi:(xs.map Bed.enc)[i]?=some (Bed.enc x):=by simp [hi]
   rw [hpf] at hp'
   simp only [↓eA,eB,seval,l140002,h0,h1,h7,h8,hlt,hxi,hp',renL_closed hc,wrap_succ (show i < 4611686018427387904 by omega)]
   exact ⟨trivial,trivial,trivial,trivial,trivial,trivial,trivial⟩
 · rintro i x j r e H hi ⟨rfl,hji,h0,h1,h7,h8⟩ hf
   have hij:=hji.symm; subst hij
   have hlt:i < xs.length:=(List.getElem?_eq_some_iff.1 hi).1
   have hp':=hp x (List.mem_of_getElem? hi)
   have hpf:p x=true:=by cases h:p x<;>simp_all
   have hj:r=i:=by simp [hpf] at hf; exact hf.symm
   subst hj
   have hxi:(xs.map Bed.enc)[r]?=some (Bed.enc x):=by simp [hi]
   rw [hpf] at hp'
   simp only [↓eA,eB,seval,l140002,h0,h1,h7,h8,hlt,hxi,hp',renL_closed hc]
   exact ⟨trivial,trivial,trivial,trivial⟩
 · rintro j e H ⟨rfl,rfl,h0,h1,h7,h8⟩
   simp only [↓eA,eB,seval,l140002,h0,h1,h7,h8,Nat.lt_irrefl]
   exact ⟨trivial,trivial,trivial⟩
 · intro X e' H' h
   rw [thru_idx] at h
   cases hf:xs.findIdx? p with
   | none=>rw [hf] at h; exact h
   | some i=>rw [hf] at h; simpa using h
theorem e_idx_bed (p:Bed→Bool)(g:Nat)(caps:List D)(nz:Bool)(xs:List Bed)(hb:xs.length < 1000000000)(hc:closedL caps=true)
   (hp:∀ x∈xs,L.call g (Bed.enc x :: caps) []=some (.bool (p x),[])):L.call 140 [.fz nz 2 (xs.map Bed.enc),.fn g caps] []=some (int (idxOf p xs),[]):=
 call_eq rfl rfl (by
   simp only [↓eA,eB,seval,c140]
   obtain ⟨X,e',H',h,rfl,h2⟩:=lp_idx_bed p g caps nz xs hb hc hp [(0,.fz nz 2 (xs.map Bed.enc)),(1,.fn g caps),(4,int 0),(6,.fz nz 2 (xs.map Bed.enc)),(7,int xs.length),(8,int 0)] rfl rfl rfl rfl
   rw [h]
   unfold idxOf
   cases hf:xs.findIdx? p with
   | none=>rw [hf] at h2; subst h2; simp only [↓eA,eB,seval]
   | some i=>rw [hf] at h2; obtain ⟨rfl,h4⟩:=h2; simp only [↓eA,eB,seval,h4])
theorem e_con_bed (p:Bed→Bool)(g:Nat)(caps:List D)(nz:Bool)(xs:List Bed)(hb:xs.length < 1000000000)(hc:closedL caps=true)
   (hp:∀ x∈xs,L.call g (Bed.enc x :: caps) []=some (.bool (p x),[])):L.call 91 [.fz nz 2 (xs.map Bed.enc),.fn g caps] []=some (.bool (xs.any p),[]):=
 call_eq rfl rfl (by
   simp only [↓eA,eB,seval,c91,renL_closed hc,e_idx_bed p g caps nz xs hb hc hp,idxOf_ge])
end Tz
set_option maxRecDepth 100000
open Gs Go
namespace Tz
def cls (c:Nat):Int:=if 97≤c∧c≤122∨65≤c∧c≤90 then 1 else if 48≤c∧c≤57 then 2 else if c=95 then 3 else if c=40∨c=41∨c=44∨c=61∨c=58∨c=60∨c=62∨c=43∨c=47 then 4 else 0
def tblFrom:Nat→Nat→List D
 | 0,_=>[]
 | k + 1,c=>.int .u8 (cls c) :: tblFrom k (c + 1)
def tbl:List D:=tblFrom 256 0
theorem cell_tblFrom:∀ (k c i:Nat),i < k→cell (tblFrom k c) i=some (.int .u8 (cls (c + i)))
 | 0,c,i,h=>by omega
 | k + 1,c,0,h=>rfl
 | k + 1,c,i + 1,h=>by
   simp only [tblFrom,cell]
   rw [cell_tblFrom k (c + 1) i (by omega),show c + 1 + i=c + (i + 1) by omega]
theorem cell_tbl {i:Nat}(h:i < 256):cell tbl i=some (.int .u8 (cls i)):=by
 rw [tbl,cell_tblFrom 256 0 i h,Nat.zero_add]
theorem renL_tbl:renL [] tbl=tbl:=renL_closed (by kernel_rfl)
theorem e_classes:L.call 195 [] []=some (.agg tbl,[]):=lim_call.2 ⟨152,by kernel_rfl⟩
def inner (n:Nat):Bool:=(decide (cls n=1) || decide (cls n=2)) || decide (cls n=3)
theorem e_inner (n:Nat)(h:n < 256):L.call 166 [u8 n] []=some (.bool (inner n),[]):=
 call_eq rfl rfl (by simp only [↓eA,eB,seval,c166,e_classes,renL_tbl,h,Nat.mul_one,cell_tbl h]; rfl)
def nmc (n:Nat):Bool:=inner n && (decide ((n:Int) < 65) || decide (90 < (n:Int)))
theorem e_nmc (n:Nat)(h:n < 256):L.call 165 [u8 n] []=some (.bool (nmc n),[]):=
 call_eq rfl rfl (by simp only [↓eA,eB,seval,c165,e_inner n h]; rfl)
def byt (s:ByteArray)(i:Nat):Nat:=((s[i]?).getD 0).toNat
theorem byt_lt (s:ByteArray)(i:Nat):byt s i < 256:=UInt8.toNat_lt _
theorem bat_byt (s:ByteArray)(i:Nat):bat s i=(byt s i:Int):=rfl
def runLen (p:Nat→Bool)(s:ByteArray):Nat:=match (List.range s.size).find? (fun i=>!p (byt s i)) with | some i=>i | none=>s.size
theorem lp_run (p:Nat→Bool)(g:Nat)(caps:List D)(hc:closedL caps=true)(hp:∀ n:Nat,n < 256→L.call g (u8 n :: caps) []=some (.bool (p n),[]))(s:ByteArray)(hb:s.size < 1000000000)(e:Env)(h0:Gs.get e 0 = .str s)(h1:Gs.get e 1 = .fn g caps)(h5:Gs.get e 5=int 0) :
   Ends T 164002 e [] (fun X e' H'=>H'=[]∧X = .ex 0∧Gs.get e' 5=int (runLen p s)):=by
 refine (loop_find (T:=T) (key:=164002) (li:=l164002.1) rfl (List.range s.size) (fun i=>!p (byt s i)) [] (fun i e=>Gs.get e 0 = .str s∧Gs.get e 1 = .fn g caps∧Gs.get e 5=int i) (fun i X e'=>X = .ex 0∧Gs.get e' 5=int i) (fun X e'=>X = .ex 0∧Gs.get e' 5=int s.size) ?_ ?_ e ⟨h0,h1,h5⟩).mono ?_
 · rintro i x e hi hl ⟨h0,h1,h5⟩
   have hlt:i < s.size:=by simpa using hl
   rw [List.getElem?_range hlt] at hi; injection hi with hi; subst hi
   have hpi:=hp (byt s i) (byt_lt s i)
   cases hpb:p (byt s i) with
   | true=>
     rw [hpb] at hpi
     simp only [↓eA,eB,seval,l164002,h0,h1,h5,hlt,bat_byt,renL_closed hc,hpi,wrap_succ (show i < 4611686018427387904 by omega)]
     exact ⟨trivial,trivial,trivial,trivial,trivial⟩
   | false=>
     rw [hpb] at hpi
     simp only [↓eA,eB,seval,l164002,h0,h1,h5,hlt,bat_byt,renL_closed hc,hpi]
     exact ⟨trivial,trivial,trivial,trivial⟩
 · rintro e ⟨h0,h1,h5⟩
   rw [List.length_range] at h5
   simp only [↓eA,eB,seval,l164002,h0,h1,h5,Nat.lt_irrefl]
   exact ⟨trivial,trivial,trivial,trivial⟩
 · rintro X e' H' ⟨rfl,h⟩
   unfold runLen
   cases hf:(List.range s.size).find? (fun i=>!p (byt s i)) with
   | some i=>rw [hf] at h; exact ⟨rfl,h⟩
   | none=>rw [hf] at h; exact ⟨rfl,h⟩
theorem e_run (p:Nat→Bool)(g:Nat)(caps:List D)(hc:closedL caps=true)(hp:∀ n:Nat,n < 256→L.call g (u8 n :: caps) []=some (.bool (p n),[]))(s:ByteArray)(hb:s.size < 1000000000) :
   L.call 164 [.str s,.fn g caps] []=some (int (runLen p s),[]):=
 call_eq rfl rfl (by
   simp only [↓eA,eB,seval,c164]
   obtain ⟨X,e',H',h,rfl,rfl,h5⟩:=lp_run p g caps hc hp s hb [(0,.str s),(1,.fn g caps),(4,int 0),(5,int 0)] rfl rfl rfl
   rw [h]
   simp only [↓eA,eB,seval,h5])
theorem runLen_all (p:Nat→Bool)(s:ByteArray):decide ((runLen p s:Int)=s.size)=(List.range s.size).all (fun i=>p (byt s i)):=by
 unfold runLen
 cases hf:(List.range s.size).find? (fun i=>!p (byt s i)) with
 | some i=>
   obtain ⟨h1,h2⟩:=List.find?_some hf,List.mem_of_find?_eq_some hf
   have hlt:i < s.size:=by simpa using h2
   have:(List.range s.size).all (fun i=>p (byt s i))=false:=by
     rw [List.all_eq_false]
     exact ⟨i,h2,by simpa using h1⟩
   rw [this]; simp; omega
 | none=>
   have:(List.range s.size).all (fun i=>p (byt s i))=true:=by
     rw [List.all_eq_true]
     intro i hi
     have:=List.find?_eq_none.1 hf i hi
     simpa using this
   rw [this]; simp
def pName (s:ByteArray):Bool:=!(seq s ⟨#[]⟩ || decide (24 < (s.size:Int)) || decide (bat s 0 < 97) || decide (122 < bat s 0)) && (List.range s.size).all (fun i=>nmc (byt s i))
theorem seq_empty {s:ByteArray} : seq s ⟨#[]⟩=decide (s.size=0):=by
 cases h:decide (s.size=0) with
 | true=>
   have h0:=of_decide_eq_true h
   exact seq_iff.2 (ByteArray.ext (Array.eq_empty_of_size_eq_zero h0))
 | false=>
   have h0:=of_decide_eq_false h
   exact seq_false.2 fun e=>h0 (by rw [e]; rfl)
theorem e_pName (s:ByteArray)(hb:s.size < 1000000000):L.call 116 [.str s] []=some (.bool (pName s),[]):=
 call_eq rfl rfl (by
   unfold pName
   cases h1:(seq s ⟨#[]⟩) with
   | true=>simp only [↓eA,eB,seval,c116,h1]
   | false=>
     have hs:0 < s.size:=by rw [seq_empty] at h1; have:=of_decide_eq_false h1; omega
     cases h2:(decide (24 < (s.size:Int))) with
     | true=>simp only [↓eA,eB,seval,c116,h1,h2]
     | false=>
       have h0:inb 0 s.size=true:=by simp [inb]; exact hs
       cases h3:(decide (bat s 0 < 97)) with
       | true=>simp only [↓eA,eB,seval,c116,h1,h2,h0,h3]
       | false=>
         cases h4:(decide (122 < bat s 0)) with
         | true=>simp only [↓eA,eB,seval,c116,h1,h2,h0,h3,h4]
         | false=>simp only [↓eA,eB,seval,c116,h1,h2,h0,h3,h4,e_run nmc 165 [] rfl e_nmc s hb,runLen_all])
theorem e_notName (s:ByteArray)(hb:s.size < 1000000000):L.call 115 [.str s] []=some (.bool (!pName s),[]):=
 call_eq rfl rfl (by simp only [↓eA,eB,seval,c115,e_pName s hb])
end Tz
set_option maxRecDepth 100000
open Gs Go
namespace Tz
def Pt.ok (a:Pt):Bool:=((decide (-1000000≤a.x) && decide (a.x≤1000000)) && decide (-1000000≤a.y)) && decide (a.y≤1000000)
structure Pt.In (a:Pt):Prop where
 x0 : -1000000≤a.x
 x1:a.x≤1000000
 y0 : -1000000≤a.y
 y1:a.y≤1000000
theorem Pt.ok_in {a:Pt} : a.ok=true↔a.In:=by
 simp only [Pt.ok,Bool.and_eq_true,decide_eq_true_eq]
 exact ⟨fun ⟨⟨⟨h1,h2⟩,h3⟩,h4⟩=>⟨h1,h2,h3,h4⟩,fun ⟨h1,h2,h3,h4⟩=>⟨⟨⟨h1,h2⟩,h3⟩,h4⟩⟩
def pt (p:List Pt)(i:Nat):Pt:=(p[i]?).getD ⟨0,0⟩
theorem get_pt {p:List Pt}{i:Nat}(h:i < p.length):(p.map Pt.enc)[i]?=some (Pt.enc (pt p i)):=by
 simp [pt,h]
theorem pt_mem {p:List Pt}{i:Nat}(h:i < p.length):pt p i∈p:=by simp [pt,h]
theorem mulb {x y A B:Int}(hA:0≤A)(hB:0≤B)(h1 : -A≤x)(h2:x≤A)(h3 : -B≤y)(h4:y≤B) : -(A * B)≤x * y∧x * y≤A * B:=by
 have hx:x.natAbs≤A.toNat:=by omega
 have hy:y.natAbs≤B.toNat:=by omega
 have:=Nat.mul_le_mul hx hy
 rw [←Int.natAbs_mul] at this
 have e:((A.toNat * B.toNat:Nat):Int)=A * B:=by rw [Int.natCast_mul,Int.toNat_of_nonneg hA,Int.toNat_of_nonneg hB]
 omega
def det (a b c:Pt):Int:=(b.x - a.x) * (c.y - a.y) - (b.y - a.y) * (c.x - a.x)
def sgn (n:Int):Int:=if 0 < n then 1 else if n < 0 then -1 else 0
def ori (a b c:Pt):Int:=sgn (det a b c)
structure Tri (a b c:Pt):Prop where
 e1:IntKind.i64.wrap (b.x - a.x)=b.x - a.x
 e2:IntKind.i64.wrap (c.y - a.y)=c.y - a.y
 e3:IntKind.i64.wrap (b.y - a.y)=b.y - a.y
 e4:IntKind.i64.wrap (c.x - a.x)=c.x - a.x
 e5:IntKind.i64.wrap ((b.x - a.x) * (c.y - a.y))=(b.x - a.x) * (c.y - a.y)
 e6:IntKind.i64.wrap ((b.y - a.y) * (c.x - a.x))=(b.y - a.y) * (c.x - a.x)
 e7:IntKind.i64.wrap ((b.x - a.x) * (c.y - a.y) - (b.y - a.y) * (c.x - a.x))=(b.x - a.x) * (c.y - a.y) - (b.y - a.y) * (c.x - a.x)
theorem tri {a b c:Pt}(ha:a.In)(hb:b.In)(hc:c.In):Tri a b c:=by
 obtain ⟨a1,a2,a3,a4⟩:=ha
 obtain ⟨b1,b2,b3,b4⟩:=hb
 obtain ⟨c1,c2,c3,c4⟩:=hc
 have m1:=mulb (x:=b.x - a.x) (y:=c.y - a.y) (A:=2000000) (B:=2000000) (by omega) (by omega) (by omega) (by omega) (by omega) (by omega)
 have m2:=mulb (x:=b.y - a.y) (y:=c.x - a.x) (A:=2000000) (B:=2000000) (by omega) (by omega) (by omega) (by omega) (by omega) (by omega)
 generalize hu:(b.x - a.x) * (c.y - a.y)=u at m1
 generalize hv:(b.y - a.y) * (c.x - a.x)=v at m2
 refine ⟨wrap_in (by omega) (by omega),wrap_in (by omega) (by omega),wrap_in (by omega) (by omega),wrap_in (by omega) (by omega),?_,?_,?_⟩
 · rw [hu]; exact wrap_in (by omega) (by omega)
 · rw [hv]; exact wrap_in (by omega) (by omega)
 · rw [hu,hv]; exact wrap_in (by omega) (by omega)
theorem e_isNaN64 (n:Int):L.call 228 [int n] []=some (.bool false,[]):=call_eq rfl rfl (by simp only [↓eA,eB,seval,c228])
theorem e_cmp64 (n:Int):L.call 197 [int n,int 0] []=some (int (sgn n),[]):=
 call_eq rfl rfl (by
   unfold sgn
   by_cases h1:n < 0
   · have h2:¬ 0 < n:=by omega
     simp only [↓eA,eB,seval,c197,e_isNaN64,h1,h2]
   · by_cases h2:0 < n
     · simp only [↓eA,eB,seval,c197,e_isNaN64,h1,h2]
     · simp only [↓eA,eB,seval,c197,e_isNaN64,h1,h2])
theorem e_orient {a b c:Pt}(h:Tri a b c):L.call 170 [a.enc,b.enc,c.enc] []=some (int (ori a b c),[]):=
 call_eq rfl rfl (by simp only [↓eA,eB,seval,c170,h.e1,h.e2,h.e3,h.e4,h.e5,h.e6,h.e7,e_cmp64]; rfl)
def onS (a b q:Pt):Bool:=(((decide (ori a b q=0) && decide (min a.x b.x≤q.x)) && decide (q.x≤max a.x b.x)) && decide (min a.y b.y≤q.y)) && decide (q.y≤max a.y b.y)
theorem e_on {a b q:Pt}(h:Tri a b q):L.call 229 [a.enc,b.enc,q.enc] []=some (.bool (onS a b q),[]):=
 call_eq rfl rfl (by simp only [↓eA,eB,seval,c229,e_orient h]; rfl)
theorem sgn_cases (n:Int):sgn n=1∨sgn n = -1∨sgn n=0:=by unfold sgn; split<;>(try split)<;>simp
theorem sgn_mul (m n:Int):IntKind.i64.wrap (sgn m * sgn n)=sgn m * sgn n:=by
 rcases sgn_cases m with h | h | h<;>rcases sgn_cases n with h' | h' | h'<;>rw [h,h']<;>exact wrap_in (by decide) (by decide)
def meets (a b c d:Pt):Bool:=(((onS a b c || onS a b d) || onS c d a) || onS c d b) || (decide (ori a b c * ori a b d < 0) && decide (ori c d a * ori c d b < 0))
theorem e_meet {a b c d:Pt}(ha:a.In)(hb:b.In)(hc:c.In)(hd:d.In):L.call 199 [a.enc,b.enc,c.enc,d.enc] []=some (.bool (meets a b c d),[]):=
 call_eq rfl rfl (by
   unfold meets
   cases h:((onS a b c || onS a b d) || onS c d a) || onS c d b with
   | true=>simp only [↓eA,eB,seval,c199,e_on (tri ha hb hc),e_on (tri ha hb hd),e_on (tri hc hd ha),e_on (tri hc hd hb),h]
   | false=>simp only [↓eA,eB,seval,c199,e_on (tri ha hb hc),e_on (tri ha hb hd),e_on (tri hc hd ha),e_on (tri hc hd hb),e_orient (tri ha hb hc),e_orient (tri ha hb hd),e_orient (tri hc hd ha),e_orient (tri hc hd hb),h,ori,sgn_mul]; rfl)
end Tz
set_option maxRecDepth 100000
open Gs Go
namespace Tz
theorem e_folded {a b c:Pt}(h:Tri a b c)(hn:ori a b c≠0):L.call 198 [a.enc,b.enc,c.enc] []=some (.bool false,[]):=
 call_eq rfl rfl (by
   have h0:decide (ori a b c=0)=false:=decide_eq_false hn
   simp only [↓eA,eB,seval,c198,e_orient h,h0])
theorem dz {n:Nat}(h:0 < n):decide ((n:Int)=0)=false:=decide_eq_false (by omega)
def nx (p:List Pt)(i:Nat):Nat:=(i + 1) % p.length
theorem nx_lt {p:List Pt}{i:Nat}(h:0 < p.length):nx p i < p.length:=Nat.mod_lt _ h
theorem e_end {p:List Pt}{i:Nat}(hp:0 < p.length)(hi:i < 4611686018427387904):L.call 171 [poly p,int i] []=some ((pt p (nx p i)).enc,[]):=
 call_eq rfl rfl (by
   have hlt:(i + 1) % p.length < p.length:=nx_lt hp
   simp only [↓eA,eB,seval,c171,wrap_succ hi,dz hp,tmod_nat,hlt,get_pt hlt]
   rfl)
def turns (p:List Pt):Bool:=(List.range p.length).any fun i=>!decide (ori (pt p i) (pt p (nx p i)) (pt p (nx p (nx p i)))=1)
def crossB (p:List Pt)(i k:Nat):Bool:=!decide ((nx p k:Int)=i) && meets (pt p i) (pt p (nx p i)) (pt p k) (pt p (nx p k))
def crosses (p:List Pt):Bool:=(List.range p.length).any fun i=>(List.range' (i + 2) (p.length - (i + 2))).any (crossB p i)
def AllIn (p:List Pt):Prop:=∀ c∈p,c.In
theorem AllIn.pt {p:List Pt}(h:AllIn p){i:Nat}(hi:i < p.length):(pt p i).In:=h _ (pt_mem hi)
theorem wrap_two {i:Nat}(h:i < 4611686018427387904):IntKind.i64.wrap ((i:Int) + 2)=((i + 2:Nat):Int):=by
 rw [IntKind.wrap_i64]; omega
theorem lp_in (p:List Pt)(hb:p.length < 1000000000)(ha:AllIn p)(i:Nat)(hi:i < p.length)(e:Env)(h0:Gs.get e 0=poly p)(h3:Gs.get e 3=int p.length)(h4:Gs.get e 4=int i)(h5:Gs.get e 5=int (i + 2:Nat))(h9:Gs.get e 9=int p.length)(h10:Gs.get e 10=int i) :
   Ends T 172008 e [] (fun X e' H'=>H'=[]∧match (List.range' (i + 2) (p.length - (i + 2))).any (crossB p i) with | true=>X = .ret∧Gs.get e' 2 = .bool false | false=>X = .ex 2∧Gs.get e' 0=poly p∧Gs.get e' 3=int p.length∧Gs.get e' 9=int p.length∧Gs.get e' 10=int i):=by
 have hp:0 < p.length:=by omega
 refine loop_fr (T:=T) (key:=172008) (li:=l172008.1) rfl (i + 2) p.length (crossB p i) [] (fun k e=>Gs.get e 0=poly p∧Gs.get e 3=int p.length∧Gs.get e 4=int i∧Gs.get e 5=int k∧Gs.get e 9=int p.length∧Gs.get e 10=int i) (fun X e'=>X = .ret∧Gs.get e' 2 = .bool false) (fun X e'=>X = .ex 2∧Gs.get e' 0=poly p∧Gs.get e' 3=int p.length∧Gs.get e' 9=int p.length∧Gs.get e' 10=int i) ?_ ?_ e ⟨h0,h3,h4,h5,h9,h10⟩
 · rintro k e hk hlt ⟨h0,h3,h4,h5,h9,h10⟩
   have e1:=e_end hp (show i < 4611686018427387904 by omega) (p:=p)
   have e2:=e_end hp (show k < 4611686018427387904 by omega) (p:=p)
   have e3:=e_meet (ha.pt hi) (ha.pt (nx_lt (i:=i) hp)) (ha.pt hlt) (ha.pt (nx_lt (i:=k) hp))
   have hnx:(k + 1) % p.length=nx p k:=rfl
   simp only [↓eA,eB,seval,l172008,h0,h3,h4,h5,h9,h10,hlt,hi,wrap_succ (show k < 4611686018427387904 by omega),dz hp,tmod_nat,get_pt hi,get_pt hlt,e1,e2,e3,hnx]
   cases hb:crossB p i k<;>simp only [crossB] at hb<;>simp only [↓eA,eB,seval,hb]
   · exact ⟨trivial,trivial,trivial,trivial,trivial,trivial,trivial,trivial⟩
   · exact ⟨trivial,trivial,trivial,trivial⟩
 · rintro k e hk _ ⟨h0,h3,h4,h5,h9,h10⟩
   have hlt:¬ k < p.length:=by omega
   simp only [↓eA,eB,seval,l172008,h0,h3,h4,h5,h9,h10,hlt]
   exact ⟨trivial,trivial,trivial,trivial,trivial,trivial,trivial⟩
theorem lp_out (p:List Pt)(hb:p.length < 1000000000)(ha:AllIn p)(ht:turns p=false)(e:Env)(h0:Gs.get e 0=poly p)(h3:Gs.get e 3=int p.length)(h9:Gs.get e 9=int p.length)(h10:Gs.get e 10=int 0) :
   Ends T 172003 e [] (fun X e' H'=>H'=[]∧match crosses p with | true=>X = .ret∧Gs.get e' 2 = .bool false | false=>X = .ex 0):=by
 refine loop_rng (T:=T) (key:=172003) (li:=l172003.1) rfl p.length (fun i=>(List.range' (i + 2) (p.length - (i + 2))).any (crossB p i)) [] (fun i e=>Gs.get e 0=poly p∧Gs.get e 3=int p.length∧Gs.get e 9=int p.length∧Gs.get e 10=int i) (fun X e'=>X = .ret∧Gs.get e' 2 = .bool false) (fun X e'=>X = .ex 0) ?_ ?_ e ⟨h0,h3,h9,h10⟩
 · rintro i e hi ⟨h0,h3,h9,h10⟩
   have hp:0 < p.length:=by omega
   have hori:ori (pt p i) (pt p (nx p i)) (pt p (nx p (nx p i)))≠0:=by
     have:=List.any_eq_false.1 ht i (by simpa using hi)
     have:ori (pt p i) (pt p (nx p i)) (pt p (nx p (nx p i)))=1:=by simpa using this
     rw [this]; decide
   have e1:=e_end hp (show i < 4611686018427387904 by omega) (p:=p)
   have hnl:nx p i < p.length:=nx_lt hp
   have e2:=e_end hp (show nx p i < 4611686018427387904 by omega) (p:=p)
   have e3:=e_folded (tri (ha.pt hi) (ha.pt (nx_lt (i:=i) hp)) (ha.pt (nx_lt (i:=nx p i) hp))) hori
   have hnx:(i + 1) % p.length=nx p i:=rfl
   simp only [↓eA,eB,seval,l172003,h0,h3,h9,h10,hi,wrap_succ (show i < 4611686018427387904 by omega),wrap_two (show i < 4611686018427387904 by omega),dz hp,tmod_nat,get_pt hi,e1,hnx,e2,e3]
   generalize hE:(lim T).loop 172008 _ _=R
   obtain ⟨X,e',H',rfl,rfl,hP⟩:=Ends.at hE (lp_in p hb ha i hi _ rfl rfl rfl rfl rfl rfl)
   cases hc:(List.range' (i + 2) (p.length - (i + 2))).any (crossB p i) with
   | true=>
     rw [hc] at hP
     obtain ⟨rfl,h2⟩:=hP
     simp only [↓eA,eB,seval,h2]
     exact ⟨trivial,trivial,trivial,trivial⟩
   | false=>
     rw [hc] at hP
     obtain ⟨rfl,g0,g3,g9,g10⟩:=hP
     simp only [↓eA,eB,seval,g0,g3,g9,g10,wrap_succ (show i < 4611686018427387904 by omega)]
     exact ⟨trivial,trivial,trivial,trivial,trivial,trivial⟩
 · rintro e ⟨h0,h3,h9,h10⟩
   simp only [↓eA,eB,seval,l172003,h0,h3,h9,h10,Nat.lt_irrefl]
   exact ⟨trivial,trivial,trivial⟩
theorem e_simple (p:List Pt)(hb:p.length < 1000000000)(ha:AllIn p)(ht:turns p=false):L.call 172 [poly p] []=some (.bool (!crosses p),[]):=
 call_eq rfl rfl (by
   simp only [↓eA,eB,seval,c172]
   generalize hE:(lim T).loop 172003 _ _=R
   obtain ⟨X,e',H',rfl,rfl,hP⟩:=Ends.at hE (lp_out p hb ha ht _ rfl rfl rfl rfl)
   cases hc:crosses p with
   | true=>rw [hc] at hP; obtain ⟨rfl,h2⟩:=hP; simp only [↓eA,eB,seval,h2]
   | false=>rw [hc] at hP; subst hP; simp only [↓eA,eB,seval])
end Tz
set_option maxRecDepth 100000
open Gs Go
namespace Tz
def convex (p:List Pt):Bool:=!turns p && !crosses p
def eqPt (a b:Pt):Bool:=decide (a.x=b.x) && decide (a.y=b.y)
def dup (p:List Pt):Bool:=(List.range p.length).any fun i=>eqPt (pt p i) (pt p (nx p i))
def anyOut (p:List Pt):Bool:=p.any fun a=>!a.ok
def polyErr (p:List Pt):Int:=if 64 < p.length then 7 else if p.length < 3 then 1 else if anyOut p then 6 else if dup p then 5 else 0
theorem anyOut_in {p:List Pt}(h:anyOut p=false):AllIn p:=fun c hc=>Pt.ok_in.1 (by
 have:=List.any_eq_false.1 h c hc
 simpa using this)
end Tz
set_option maxRecDepth 100000
open Gs Go
namespace Tz
def okc (n:Int):Bool:=decide (-1000000≤n) && decide (n≤1000000)
theorem e_near (n:Int):L.call 227 [int n] []=some (.bool (okc n),[]):=call_eq rfl rfl (by simp only [↓eA,eB,seval,c227]; rfl)
theorem ok_okc (a:Pt):(!a.ok)=(!okc a.x || !okc a.y):=by
 simp only [Pt.ok,okc]
 cases decide (-1000000≤a.x)<;>cases decide (a.x≤1000000)<;>cases decide (-1000000≤a.y)<;>cases decide (a.y≤1000000)<;>rfl
theorem lp_allowed (nz:Bool)(p:List Pt)(hb:p.length < 1000000000)(e:Env)(h3:Gs.get e 3 = .fn 227 [])(h6:Gs.get e 6 = .fz nz 2 (p.map Pt.enc))(h7:Gs.get e 7=int p.length)(h8:Gs.get e 8=int 0) :
   Ends T 196003 e [] (fun X e' H'=>match anyOut p with | true=>X = .ret∧Gs.get e' 2 = .bool false | false=>X = .ex 0):=by
 refine loop_anyH (T:=T) (key:=196003) (li:=l196003.1) rfl p (fun a=>!a.ok) (fun i e H=>Gs.get e 3 = .fn 227 []∧Gs.get e 6 = .fz nz 2 (p.map Pt.enc)∧Gs.get e 7=int p.length∧Gs.get e 8=int i) (fun X e' _=>X = .ret∧Gs.get e' 2 = .bool false) (fun X e' _=>X = .ex 0) ?_ ?_ e [] ⟨h3,h6,h7,h8⟩
 · rintro i a e H hx hi ⟨h3,h6,h7,h8⟩
   have hx':(p.map Pt.enc)[i]?=some a.enc:=by simp [hx]
   simp only [↓eA,eB,seval,l196003,h3,h6,h7,h8,hi,hx',e_near,wrap_succ (show i < 4611686018427387904 by omega)]
   cases ha:(!a.ok)<;>rw [ok_okc] at ha<;>simp only [↓eA,eB,seval,ha]
   · exact ⟨trivial,trivial,trivial,trivial,trivial⟩
   · exact ⟨trivial,trivial,trivial⟩
 · rintro e H ⟨h3,h6,h7,h8⟩
   simp only [↓eA,eB,seval,l196003,h3,h6,h7,h8,Nat.lt_irrefl]
   exact ⟨trivial,trivial⟩
theorem e_allowedL (nz:Bool)(p:List Pt)(hb:p.length < 1000000000):L.call 196 [.fz nz 2 (p.map Pt.enc)] []=some (.bool (!anyOut p),[]):=
 call_eq rfl rfl (by
   simp only [↓eA,eB,seval,c196]
   generalize hE:(lim T).loop 196003 _ _=R
   obtain ⟨X,e',H',rfl,hP⟩:=Ends.at hE (lp_allowed nz p hb _ rfl rfl rfl rfl)
   cases hc:anyOut p with
   | true=>rw [hc] at hP; obtain ⟨rfl,g⟩:=hP; simp only [↓eA,eB,seval,g]
   | false=>rw [hc] at hP; subst hP; simp only [↓eA,eB,seval])
def dupFrom (b:Pt):List Pt→Bool
 | []=>false
 | q :: r=>eqPt q b || dupFrom q r
theorem eqPt_iff {a b:Pt} : eqPt a b=true↔a=b:=by
 cases a; cases b
 simp [eqPt]
theorem dupFrom_iff:∀ (l:List Pt) (b:Pt),dupFrom b l=true↔∃ i,i < l.length∧pt l i=(if i=0 then b else pt l (i - 1))
 | [],b=>by simp [dupFrom]
 | q :: r,b=>by
   simp only [dupFrom,Bool.or_eq_true,eqPt_iff,dupFrom_iff r q]
   constructor
   · rintro (h | ⟨i,hi,h⟩)
     · exact ⟨0,by simp,by simpa [pt] using h⟩
     · refine ⟨i + 1,by simpa using hi,?_⟩
       rw [if_neg (by omega)]
       cases i with
       | zero=>simpa [pt] using h
       | succ i=>rw [if_neg (by omega)] at h; simpa [pt] using h
   · rintro ⟨i,hi,h⟩
     cases i with
     | zero=>left; simpa [pt] using h
     | succ i=>
       right
       refine ⟨i,by simpa using hi,?_⟩
       rw [if_neg (by omega)] at h
       cases i with
       | zero=>simpa [pt] using h
       | succ i=>rw [if_neg (by omega)]; simpa [pt] using h
theorem dup_dupFrom {p:List Pt}(hp:0 < p.length):dupFrom (pt p (p.length - 1)) p=dup p:=by
 rw [Bool.eq_iff_iff,dupFrom_iff]
 simp only [dup,List.any_eq_true,List.mem_range,eqPt_iff,nx]
 constructor
 · rintro ⟨i,hi,h⟩
   by_cases h0:i=0
   · subst h0
     refine ⟨p.length - 1,by omega,?_⟩
     rw [if_pos rfl] at h
     rw [show p.length - 1 + 1=p.length by omega,Nat.mod_self,h]
   · rw [if_neg h0] at h
     refine ⟨i - 1,by omega,?_⟩
     rw [show i - 1 + 1=i by omega,Nat.mod_eq_of_lt hi,h]
 · rintro ⟨i,hi,h⟩
   by_cases h1:i + 1=p.length
   · rw [h1,Nat.mod_self] at h
     refine ⟨0,hp,?_⟩
     rw [if_pos rfl,show p.length - 1=i by omega,h]
   · rw [Nat.mod_eq_of_lt (by omega)] at h
     exact ⟨i + 1,by omega,by rw [if_neg (by omega)]; simpa using h.symm⟩
theorem thru_dup:∀ (l:List Pt) (b:Pt),thru (R:=Unit) (fun (b q:Pt)=>bif eqPt q b then .inl () else .inr q) l b=(match dupFrom b l with | true=>.inl () | false=>.inr ((l.getLast?).getD b))
 | [],b=>rfl
 | q :: r,b=>by
   simp only [thru,dupFrom]
   cases eqPt q b with
   | true=>rfl
   | false=>
     simp only [cond_false,Bool.false_or,thru_dup r q]
     cases dupFrom q r with
     | true=>rfl
     | false=>
       cases r with
       | nil=>rfl
       | cons x r=>simp [List.getLast?_cons]
theorem lp_dup (p:List Pt)(b:Pt)(hb:p.length < 1000000000)(e:Env)(H:Heap)(h5:Gs.get e 5 = .ptr 5 0)(h31:Gs.get e 31=poly p)(h32:Gs.get e 32=int p.length)(h33:Gs.get e 33=int 0)(hH:hget H 5=some (.box [int b.x,int b.y] false)) :
   Ends T 169009 e H (fun X e' H'=>match dupFrom b p with | true=>X = .ret∧Gs.get e' 4=int 5 | false=>X = .ex 1):=by
 refine (loop_thru (T:=T) (key:=169009) (li:=l169009.1) rfl (R:=Unit) (fun (b q:Pt)=>bif eqPt q b then .inl () else .inr q) p (fun i b e H=>Gs.get e 5 = .ptr 5 0∧Gs.get e 31=poly p∧Gs.get e 32=int p.length∧Gs.get e 33=int i∧hget H 5=some (.box [int b.x,int b.y] false)) (fun _ X e' H'=>X = .ret∧Gs.get e' 4=int 5) (fun _ X e' H'=>X = .ex 1) ?_ ?_ ?_ p [] b e H rfl ⟨h5,h31,h32,h33,hH⟩).mono ?_
 · rintro i q b b' e H hx ⟨h5,h31,h32,h33,hH⟩ hf
   have hi:i < p.length:=(List.getElem?_eq_some_iff.1 hx).1
   have hq:eqPt q b=false:=by cases h:eqPt q b<;>simp_all
   have hb':b'=q:=by simp [hq] at hf; exact hf.symm
   subst hb'
   simp only [eqPt] at hq
   have hx':(p.map Pt.enc)[i]?=some b'.enc:=by simp [hx]
   simp only [↓eA,eB,seval,l169009,h5,h31,h32,h33,hH,hi,hx',hq,wrap_succ (show i < 4611686018427387904 by omega)]
   exact ⟨trivial,trivial,trivial,trivial,trivial,trivial⟩
 · rintro i q b r e H hx ⟨h5,h31,h32,h33,hH⟩ hf
   have hi:i < p.length:=(List.getElem?_eq_some_iff.1 hx).1
   have hq:eqPt q b=true:=by cases h:eqPt q b<;>simp_all
   simp only [eqPt] at hq
   have hx':(p.map Pt.enc)[i]?=some q.enc:=by simp [hx]
   simp only [↓eA,eB,seval,l169009,h5,h31,h32,h33,hH,hi,hx',hq]
   exact ⟨trivial,trivial,trivial⟩
 · rintro b e H ⟨h5,h31,h32,h33,hH⟩
   simp only [↓eA,eB,seval,l169009,h5,h31,h32,h33,hH,Nat.lt_irrefl]
   exact ⟨trivial,trivial⟩
 · intro X e' H' h
   rw [thru_dup] at h
   cases hc:dupFrom b p with
   | true=>rw [hc] at h; exact h
   | false=>rw [hc] at h; exact h
theorem wrap_pred {n:Nat}(h:0 < n)(h':n < 4611686018427387904):IntKind.i64.wrap ((n:Int) - 1)=((n - 1:Nat):Int):=by
 rw [IntKind.wrap_i64]; omega
theorem e_check (p:List Pt)(hb:p.length < 1000000000):L.call 169 [poly p,.fz true 2 []] []=some (int (polyErr p),[]):=
 call_eq rfl rfl (by
   have e2:=e_allowedL true [] (by simp)
   have e2':L.call 196 [.fz true 2 []] []=some (.bool true,[]):=e2
   unfold polyErr
   by_cases h1:64 < p.length
   · have h1':(64:Int) < p.length:=by omega
     simp only [↓eA,eB,seval,c169,h1,h1']
   · have h1':¬ (64:Int) < p.length:=by omega
     by_cases h2:p.length < 3
     · have h2':(p.length:Int) < 3:=by omega
       simp only [↓eA,eB,seval,c169,h1,h1',h2,h2']
     · have h2':¬ (p.length:Int) < 3:=by omega
       cases hc:anyOut p with
       | true=>simp only [↓eA,eB,seval,c169,h1,h1',h2,h2',e_allowedL false p hb,e2',hc]
       | false=>
         have hl:p.length - 1 < p.length:=by omega
         simp only [↓eA,eB,seval,c169,h1,h1',h2,h2',e_allowedL false p hb,e2',hc,wrap_pred (show 0 < p.length by omega) (show p.length < 4611686018427387904 by omega),hl,get_pt hl]
         generalize hE:(lim T).loop 169009 _ _=R
         obtain ⟨X,e',H',rfl,hP⟩:=Ends.at hE (lp_dup p (pt p (p.length - 1)) hb _ _ rfl rfl rfl rfl rfl)
         rw [dup_dupFrom (by omega)] at hP
         cases hd:dup p with
         | true=>rw [hd] at hP; obtain ⟨rfl,g⟩:=hP; simp only [↓eA,eB,seval,g]
         | false=>rw [hd] at hP; subst hP; simp only [↓eA,eB,seval])
theorem e_polyCheck (p:List Pt)(hb:p.length < 1000000000):L.call 121 [poly p] []=some (int (polyErr p),[]):=
 call_eq rfl rfl (by simp only [↓eA,eB,seval,c121,e_check p hb])
theorem polyErr_in {p:List Pt}(h:polyErr p=0):AllIn p:=by
 unfold polyErr at h
 split at h<;>try (cases h; done)
 split at h<;>try (cases h; done)
 cases hc:anyOut p with
 | true=>rw [hc] at h; simp at h
 | false=>exact anyOut_in hc
theorem e_convex (p:List Pt)(hb:p.length < 1000000000)(h0:polyErr p=0):L.call 122 [poly p] []=some (.tup [.bool (convex p),int 0],[]):=
 call_eq rfl rfl (by
   have ha:=polyErr_in h0
   simp only [↓eA,eB,seval,c122,e_check p hb,h0]
   generalize hE:(lim T).loop 122005 _ _=R
   obtain ⟨X,e',H',rfl,rfl,hP⟩:=Ends.at hE (loop_rng (T:=T) (key:=122005) (li:=l122005.1) rfl p.length (fun i=>!decide (ori (pt p i) (pt p (nx p i)) (pt p (nx p (nx p i)))=1)) [] (fun i e=>Gs.get e 0=poly p∧Gs.get e 12=int p.length∧Gs.get e 13=int i) (fun X e'=>X = .ret∧Gs.get e' 2 = .bool false∧Gs.get e' 3=int 0) (fun X e'=>X = .ex 0∧Gs.get e' 0=poly p) (fun i e hi ⟨h0,h12,h13⟩=>by
     have hp:0 < p.length:=by omega
     have n1:nx p i < p.length:=nx_lt hp
     have n2:nx p (nx p i) < p.length:=nx_lt hp
     have e1:=e_end hp (show i < 4611686018427387904 by omega) (p:=p)
     have e2:=e_end hp (show nx p i < 4611686018427387904 by omega) (p:=p)
     have e3:=e_orient (tri (ha.pt hi) (ha.pt n1) (ha.pt n2))
     have hnx:(i + 1) % p.length=nx p i:=rfl
     simp only [↓eA,eB,seval,l122005,h0,h12,h13,hi,n1,n2,wrap_succ (show i < 4611686018427387904 by omega),dz hp,tmod_nat,hnx,get_pt hi,e1,e2,e3]
     cases hb:decide (ori (pt p i) (pt p (nx p i)) (pt p (nx p (nx p i)))=1)<;>simp only [↓eA,eB,seval,hb]
     · exact ⟨trivial,trivial,trivial,trivial,trivial⟩
     · exact ⟨trivial,trivial,trivial,trivial,trivial⟩) (fun e ⟨h0,h12,h13⟩=>by
     simp only [↓eA,eB,seval,l122005,h0,h12,h13,Nat.lt_irrefl]
     exact ⟨trivial,trivial,trivial,trivial⟩) _ ⟨rfl,rfl,rfl⟩)
   unfold convex
   change match turns p with | true=>_ | false=>_ at hP
   cases hc:turns p with
   | true=>rw [hc] at hP; obtain ⟨rfl,h2,h3⟩:=hP; simp only [↓eA,eB,seval,h2,h3]
   | false=>rw [hc] at hP; obtain ⟨rfl,h2⟩:=hP; simp only [↓eA,eB,seval,h2,e_simple p hb ha hc])
end Tz
