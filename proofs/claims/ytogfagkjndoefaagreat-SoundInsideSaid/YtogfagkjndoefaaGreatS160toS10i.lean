/- part S160; part S161; part S10i; no conditions. -/
import Derived.Test.YtogfagkjndoefaaGreatS14toS70
import Derived.Test.YtogfagkjndoefaaGreatP20
import Derived.Test.YtogfagkjndoefaaGreatS8toS13
set_option linter.all false
set_option maxRecDepth 100000
open Gs Go
namespace Tz.C18
abbrev _root_.Tz.V3.enc (p:V3):D:=.agg [int p.x,int p.y,int p.z]
abbrev _root_.Tz.Ev.enc (x:Ev):D:=.agg [.str x.src,int x.box.x0,int x.box.y0,int x.box.z0,int x.box.x1,int x.box.y1,int x.box.z1,int x.st]
abbrev evs (nz:Bool)(l:List Ev):D:=.fz nz 8 (l.map Ev.enc)
def badL (s:ByteArray)(i:Nat):Bool:=(decide (bat s i < 32) || decide (126 < bat s i)) || decide (bat s i=34)
def labelB (s:ByteArray):Bool:=bif decide ((s.size:Int) < 1) || decide (40 < (s.size:Int)) then false else bif decide (bat s 0=32) || decide (bat s (s.size - 1)=32) then false else !(List.range s.size).any (badL s)
theorem lp_label (s:ByteArray)(hb:s.size < 1000000000)(e:Env)(h0:Gs.get e 0 = .str s)(h26:Gs.get e 26=int s.size)(h2:Gs.get e 27=int 0) :
   Ends T 127004 e [] (fun X e' H'=>H'=[]∧match (List.range s.size).any (badL s) with | true=>X = .ret∧Gs.get e' 2 = .bool false | false=>X = .ex 0):=by
 refine loop_rng (T:=T) (key:=127004) (li:=l127004.1) rfl s.size (badL s) [] (fun i e=>Gs.get e 0 = .str s∧Gs.get e 26=int s.size∧Gs.get e 27=int i) (fun X e'=>X = .ret∧Gs.get e' 2 = .bool false) (fun X e'=>X = .ex 0) ?_ ?_ e ⟨h0,h26,h2⟩
 · rintro i e hlt ⟨h0,h26,h3⟩
   simp only [↓eA,eB,seval,l127004,h0,h26,h3,hlt,wrap_succ (show i < 4611686018427387904 by omega)]
   cases hb:badL s i<;>simp only [badL] at hb<;>simp only [↓eA,eB,seval,hb]<;>and_intros<;>first | trivial | rfl
 · rintro e ⟨h0,h26,h3⟩
   simp only [↓eA,eB,seval,l127004,h0,h26,h3,Nat.lt_irrefl]
   and_intros<;>first | trivial | rfl
theorem e_label (s:ByteArray):L.call 127 [.str s] []=some (.bool (labelB s),[]):=
 call_eq rfl rfl (by
   unfold labelB
   cases h1:decide ((s.size:Int) < 1) with
   | true=>simp only [↓eA,eB,seval,c127,h1]
   | false=>
   cases h2:decide (40 < (s.size:Int)) with
   | true=>simp only [↓eA,eB,seval,c127,h1,h2]
   | false=>
   have hs:1≤s.size∧s.size≤40:=by simp only [decide_eq_false_iff_not] at h1 h2; omega
   have i0:inb 0 s.size=true:=by simp only [inb,decide_eq_true_eq]; omega
   have w1:IntKind.i64.wrap ((s.size:Int) - 1)=((s.size - 1:Nat):Int):=by
     rw [show (s.size:Int) - 1=((s.size - 1:Nat):Int) by omega]; exact wrap_nat (by omega)
   have i1:inb ((s.size - 1:Nat):Int) s.size=true:=by simp only [inb,decide_eq_true_eq]; omega
   cases h3:decide (bat s 0=32) with
   | true=>simp only [↓eA,eB,seval,c127,h1,h2,i0,h3]
   | false=>
   cases h4:decide (bat s (s.size - 1)=32) with
   | true=>simp only [↓eA,eB,seval,c127,h1,h2,i0,h3,w1,i1,Int.toNat_natCast,h4]
   | false=>
   simp only [↓eA,eB,seval,c127,h1,h2,i0,h3,w1,i1,Int.toNat_natCast,h4]
   generalize hE:(lim T).loop 127004 _ _=R
   obtain ⟨X,e',H',rfl,rfl,hP⟩:=Ends.at hE (lp_label s (by omega) _ (by simp only [↓eA,eB,seval]) (by simp only [↓eA,eB,seval]) (by simp only [↓eA,eB,seval]))
   cases hf:(List.range s.size).any (badL s) with
   | true=>rw [hf] at hP; obtain ⟨rfl,g⟩:=hP; simp only [↓eA,eB,seval,g]
   | false=>rw [hf] at hP; subst hP; simp only [↓eA,eB,seval])
def evBad (x:Ev):Bool:=!decide (x.st=1) && !decide (x.st=2)
def evBox (x:Ev):Bool:=!decide (boxErr x.box=0)
def evErr (l:List Ev):Int:=bif decide (256 < (l.length:Int)) then 7 else bif l.any (fun x=>!labelB x.src) then 4 else match l.find? evBox with
 | some x=>boxErr x.box
 | none=>bif l.any evBad then 1 else 0
theorem e_mck1 (x:Ev):L.call 126 [x.enc] []=some (.bool (!labelB x.src),[]):=call_eq rfl rfl (by simp only [↓eA,eB,seval,c126,e_label])
theorem e_mck2 (x:Ev):L.call 128 [x.enc] []=some (.bool (evBad x),[]):=call_eq rfl rfl (by simp only [↓eA,eB,seval,c128]; rfl)
set_option maxHeartbeats 400000 in
theorem lp_idx_ev (p:Ev→Bool)(g:Nat)(caps:List D)(nz:Bool)(xs:List Ev)(hb:xs.length < 1000000000)(hc:closedL caps=true)
   (hp:∀ x∈xs,L.call g (Ev.enc x :: caps) []=some (.bool (p x),[])) (e:Env) (h0:Gs.get e 0 = .fz nz 8 (xs.map Ev.enc)) (h1:Gs.get e 1 = .fn g caps) (h7:Gs.get e 7=int xs.length) (h8:Gs.get e 8=int 0) :
   Ends T 175002 e [] (fun X e' H'=>H'=[]∧match xs.findIdx? p with | some i=>X = .ret∧Gs.get e' 4=int i | none=>X = .ex 0):=by
 refine (loop_thru (T:=T) (key:=175002) (li:=l175002.1) rfl (R:=Nat) (fun (i:Nat) x=>bif p x then .inl i else .inr (i + 1)) xs (fun i j e H=>H=[]∧j=i∧Gs.get e 0 = .fz nz 8 (xs.map Ev.enc)∧Gs.get e 1 = .fn g caps∧Gs.get e 7=int xs.length∧Gs.get e 8=int i) (fun r X e H=>H=[]∧X = .ret∧Gs.get e 4=int r) (fun _ X e H=>H=[]∧X = .ex 0) ?_ ?_ ?_ xs [] 0 e [] rfl ⟨rfl,rfl,h0,h1,h7,h8⟩).mono ?_
 · rintro i x j j' e H hi ⟨rfl,hji,h0,h1,h7,h8⟩ hf
   have hij:=hji.symm; subst hij
   have hlt:i < xs.length:=(List.getElem?_eq_some_iff.1 hi).1
   have hp':=hp x (List.mem_of_getElem? hi)
   have hpf:p x=false:=by cases h:p x<;>simp_all
   have hj:j'=i + 1:=by simp [hpf] at hf; exact hf.symm
   subst hj
   have hxi:(xs.map Ev.enc)[i]?=some (Ev.enc x):=by simp [hi]
   rw [hpf] at hp'
   simp only [↓eA,eB,seval,l175002,h0,h1,h7,h8,hlt,hxi,hp',renL_closed hc,wrap_succ (show i < 4611686018427387904 by omega)]
   exact ⟨trivial,trivial,trivial,trivial,trivial,trivial,trivial⟩
 · rintro i x j r e H hi ⟨rfl,hji,h0,h1,h7,h8⟩ hf
   have hij:=hji.symm; subst hij
   have hlt:i < xs.length:=(List.getElem?_eq_some_iff.1 hi).1
   have hp':=hp x (List.mem_of_getElem? hi)
   have hpf:p x=true:=by cases h:p x<;>simp_all
   have hj:r=i:=by simp [hpf] at hf; exact hf.symm
   subst hj
   have hxi:(xs.map Ev.enc)[r]?=some (Ev.enc x):=by simp [hi]
   rw [hpf] at hp'
   simp only [↓eA,eB,seval,l175002,h0,h1,h7,h8,hlt,hxi,hp',renL_closed hc]
   exact ⟨trivial,trivial,trivial,trivial⟩
 · rintro j e H ⟨rfl,rfl,h0,h1,h7,h8⟩
   simp only [↓eA,eB,seval,l175002,h0,h1,h7,h8,Nat.lt_irrefl]
   exact ⟨trivial,trivial,trivial⟩
 · intro X e' H' h
   rw [thru_idx] at h
   cases hf:xs.findIdx? p with
   | none=>rw [hf] at h; exact h
   | some i=>rw [hf] at h; simpa using h
theorem e_idx_ev (p:Ev→Bool)(g:Nat)(caps:List D)(nz:Bool)(xs:List Ev)(hb:xs.length < 1000000000)(hc:closedL caps=true)
   (hp:∀ x∈xs,L.call g (Ev.enc x :: caps) []=some (.bool (p x),[])):L.call 175 [.fz nz 8 (xs.map Ev.enc),.fn g caps] []=some (int (idxOf p xs),[]):=
 call_eq rfl rfl (by
   simp only [↓eA,eB,seval,c175]
   obtain ⟨X,e',H',h,rfl,h2⟩:=lp_idx_ev p g caps nz xs hb hc hp [(0,.fz nz 8 (xs.map Ev.enc)),(1,.fn g caps),(4,int 0),(6,.fz nz 8 (xs.map Ev.enc)),(7,int xs.length),(8,int 0)] rfl rfl rfl rfl
   rw [h]
   unfold idxOf
   cases hf:xs.findIdx? p with
   | none=>rw [hf] at h2; subst h2; simp only [↓eA,eB,seval]
   | some i=>rw [hf] at h2; obtain ⟨rfl,h4⟩:=h2; simp only [↓eA,eB,seval,h4])
theorem e_con_ev (p:Ev→Bool)(g:Nat)(caps:List D)(nz:Bool)(xs:List Ev)(hb:xs.length < 1000000000)(hc:closedL caps=true)
   (hp:∀ x∈xs,L.call g (Ev.enc x :: caps) []=some (.bool (p x),[])):L.call 125 [.fz nz 8 (xs.map Ev.enc),.fn g caps] []=some (.bool (xs.any p),[]):=
 call_eq rfl rfl (by
   simp only [↓eA,eB,seval,c125,renL_closed hc,e_idx_ev p g caps nz xs hb hc hp,idxOf_ge])
theorem lp_mck (nz:Bool)(l:List Ev)(hl:l.length < 1000000)(e:Env)(H:Heap)(h0:Gs.get e 0=evs nz l)(h11:Gs.get e 11=evs nz l)(h12:Gs.get e 12=int l.length)(h13:Gs.get e 13=int 0) :
   Ends T 74006 e H (fun X e' H'=>match l.find? evBox with | some x=>X = .ret∧Gs.get e' 2=int (boxErr x.box) | none=>X = .ex 0∧Gs.get e' 0=evs nz l):=by
 refine (loop_findH (T:=T) (key:=74006) (li:=l74006.1) rfl l evBox (fun i e H=>Gs.get e 0=evs nz l∧Gs.get e 11=evs nz l∧Gs.get e 12=int l.length∧Gs.get e 13=int i) (fun x X e' H'=>X = .ret∧Gs.get e' 2=int (boxErr x.box)) (fun X e' H'=>X = .ex 0∧Gs.get e' 0=evs nz l) ?_ ?_ e H ⟨h0,h11,h12,h13⟩).mono ?_
 · rintro i x e H hi hlt ⟨h0,h11,h12,h13⟩
   have hxi:(l.map Ev.enc)[i]?=some x.enc:=by simp [hi]
   have hb:=e_bCheck x.box
   simp only [↓eA,eB,seval,l74006,h0,h11,h12,h13,hlt,hxi,hb,wrap_succ (show i < 4611686018427387904 by omega)]
   cases hc:evBox x<;>simp only [evBox,Bool.not_eq_true',Bool.not_eq_false'] at hc<;>simp only [↓eA,eB,seval,hc]<;>and_intros<;>first | trivial | rfl
 · rintro e H ⟨h0,h11,h12,h13⟩
   simp only [↓eA,eB,seval,l74006,h0,h11,h12,h13,Nat.lt_irrefl]
   and_intros<;>first | trivial | rfl
 · intro X e' H' h
   cases hf:l.find? evBox<;>rw [hf] at h<;>exact h
theorem e_mCheck (nz:Bool)(l:List Ev)(hl:l.length < 1000000):L.call 74 [evs nz l] []=some (int (evErr l),[]):=
 call_eq rfl rfl (by
   unfold evErr
   cases h1:decide (256 < (l.length:Int)) with
   | true=>simp only [↓eA,eB,seval,c74,h1,List.length_map]
   | false=>
   have k1:=e_con_ev (fun x=>!labelB x.src) 126 [] nz l (by omega) rfl (fun x _=>e_mck1 x)
   have k2:=e_con_ev evBad 128 [] nz l (by omega) rfl (fun x _=>e_mck2 x)
   cases h2:l.any (fun x=>!labelB x.src) with
   | true=>rw [h2] at k1; simp only [↓eA,eB,seval,c74,h1,List.length_map,k1]
   | false=>
   rw [h2] at k1
   simp only [↓eA,eB,seval,c74,h1,List.length_map,k1]
   generalize hE:(lim T).loop 74006 _ _=R
   obtain ⟨X,e',H',rfl,hP⟩:=Ends.at hE (lp_mck nz l hl _ _ (by simp only [↓eA,eB,seval]) (by simp only [↓eA,eB,seval]) (by simp only [↓eA,eB,seval,List.length_map]) (by simp only [↓eA,eB,seval]))
   cases hf:l.find? evBox with
   | some x=>rw [hf] at hP; obtain ⟨rfl,g⟩:=hP; simp only [↓eA,eB,seval,g]
   | none=>
     rw [hf] at hP; obtain ⟨rfl,g⟩:=hP
     simp only [↓eA,eB,seval,g,k2]
     cases h3:l.any evBad<;>simp only [↓eA,eB,seval,h3])
end Tz.C18
set_option maxRecDepth 100000
open Gs Go
namespace Tz.C18
theorem e_bHas (b:Box)(p:V3):L.call 68 [b.enc,p.enc] []=some (.bool (b.has p),[]):=call_eq rfl rfl (by simp only [↓eA,eB,seval,c68]; rfl)
theorem e_mjoin (a b:Int):L.call 155 [int a,int b] []=some (int (joinS a b),[]):=
 call_eq rfl rfl (by
   unfold joinS
   cases h1:decide (a=0) with
   | true=>have h:=of_decide_eq_true h1; rw [if_pos (.inl h)]; simp only [↓eA,eB,seval,c155,h1]
   | false=>
   cases h2:decide (a=b) with
   | true=>have h:=of_decide_eq_true h2; rw [if_pos (.inr h)]; simp only [↓eA,eB,seval,c155,h1,h2]
   | false=>
   have h3:=of_decide_eq_false h1
   have h4:=of_decide_eq_false h2
   rw [if_neg (by rintro (h | h); exact h3 h; exact h4 h)]
   cases h5:decide (b=0) with
   | true=>have h:=of_decide_eq_true h5; rw [if_pos h]; simp only [↓eA,eB,seval,c155,h1,h2,h5]
   | false=>have h:=of_decide_eq_false h5; rw [if_neg h]; simp only [↓eA,eB,seval,c155,h1,h2,h5])
theorem lp_at (nz:Bool)(l:List Ev)(hl:l.length < 1000000)(p:V3)(e:Env)(H:Heap)(h3:Gs.get e 3 = .ptr 3 0)(h5:Gs.get e 5=int 0)(h8:Gs.get e 8=evs nz l)(h9:Gs.get e 9=int l.length)(h10:Gs.get e 10=int 0)(hH:hget H 3=some (.box [int p.x,int p.y,int p.z] false)) :
   Ends T 105003 e H (fun X e' H'=>X = .ex 0∧Gs.get e' 5=int (stAt l p)):=by
 refine loop_fold (T:=T) (key:=105003) (li:=l105003.1) rfl l (stStep p) (fun i s e H=>Gs.get e 3 = .ptr 3 0∧Gs.get e 5=int s∧Gs.get e 8=evs nz l∧Gs.get e 9=int l.length∧Gs.get e 10=int i∧hget H 3=some (.box [int p.x,int p.y,int p.z] false)) (fun s X e' H'=>X = .ex 0∧Gs.get e' 5=int s) ?_ ?_ 0 e H ⟨h3,h5,h8,h9,h10,hH⟩
 · rintro i x s e H hi hlt ⟨h3,h5,h8,h9,h10,hH⟩
   have hxi:(l.map Ev.enc)[i]?=some x.enc:=by simp [hi]
   have hb:=e_bHas x.box p
   simp only [↓eA,eB,seval,l105003,h3,h5,h8,h9,h10,hH,hlt,hxi,hb,e_mjoin,wrap_succ (show i < 4611686018427387904 by omega)]
   unfold stStep
   cases hc:x.box.has p<;>simp only [↓eA,eB,seval,hc]<;>and_intros<;>first | trivial | rfl
 · rintro s e H ⟨h3,h5,h8,h9,h10,hH⟩
   simp only [↓eA,eB,seval,l105003,h3,h5,h8,h9,h10,hH,Nat.lt_irrefl]
   and_intros<;>first | trivial | rfl
theorem e_at (nz:Bool)(l:List Ev)(hl:l.length < 1000000)(p:V3):L.call 105 [evs nz l,p.enc] []=some (int (stAt l p),[]):=
 call_eq rfl rfl (by
   simp only [↓eA,eB,seval,c105]
   generalize hE:(lim T).loop 105003 _ _=R
   obtain ⟨X,e',H',rfl,rfl,g⟩:=Ends.at hE (lp_at nz l hl p _ _ (by simp only [↓eA,eB,seval]) (by simp only [↓eA,eB,seval]) (by simp only [↓eA,eB,seval]) (by simp only [↓eA,eB,seval,List.length_map]) (by simp only [↓eA,eB,seval]) rfl)
   simp only [↓eA,eB,seval,g])
theorem e_mbefore (a b:V3):L.call 177 [a.enc,b.enc] []=some (.bool (bef a b),[]):=
 call_eq rfl rfl (by
   unfold bef
   cases h1:decide (a.z=b.z) with
   | false=>rw [if_neg (of_decide_eq_false h1)]; simp only [↓eA,eB,seval,c177,h1]
   | true=>
   rw [if_pos (of_decide_eq_true h1)]
   cases h2:decide (a.y=b.y) with
   | false=>rw [if_neg (of_decide_eq_false h2)]; simp only [↓eA,eB,seval,c177,h1,h2]
   | true=>rw [if_pos (of_decide_eq_true h2)]; simp only [↓eA,eB,seval,c177,h1,h2])
end Tz.C18
set_option maxRecDepth 100000
open Gs Go
namespace Tz
abbrev eqI (a b:Int):Bool:=decide (a=b)
theorem getmi {zs:List Int}{i:Nat}{x:Int}(h:zs[i]?=some x):(zs.map int)[i]?=some (int x):=by simp [h]
theorem lp_ci_i (xs:List Int)(hb:xs.length < 4000000000)(nz dy:Bool)(K0:Nat)(hK:0 < K0)(hKn:K0 < xs.length)(hdd:dd eqI (xs.take (K0 + 1))=xs.take K0)(e:Env)(H:Heap)(h0:Gs.get e 0 = .ow 500000)(h3:Gs.get e 3=int K0)(h4:Gs.get e 4 = .win 500000 K0 (xs.length - K0))(h5:Gs.get e 5=int 1)(hH:hget H 500000=some (.row nz 1 (xs.map int) 0 dy))(hH1:hget H 500001=none) :
   Ends T 154009 e H (fun X e' H'=>X = .ex 2∧∃ (k:Nat) (zs:List Int),Gs.get e' 0 = .ow 500000∧Gs.get e' 3=int k∧zs.length=xs.length∧k≤xs.length∧zs.take k=dd eqI xs∧H'=[(500000,.row nz 1 (zs.map int) 0 dy)]):=by
 refine (loop_upto (T:=T) (key:=154009) (li:=l154009.1) rfl (S:=Unit) (R:=Empty) (fun _ _=>.inr ()) (xs.length - K0) (fun i _ e H=>1≤i∧i≤xs.length - K0∧∃ (k:Nat) (zs:List Int),Gs.get e 0 = .ow 500000∧Gs.get e 3=int k∧Gs.get e 4 = .win 500000 K0 (xs.length - K0)∧Gs.get e 5=int i∧hget H 500000=some (.row nz 1 (zs.map int) 0 dy)∧hget H 500001=none∧zs.length=xs.length∧k + 1≤K0 + i∧zs.take k=dd eqI (xs.take (K0 + i))∧∀ j,K0 + i≤j + 1→zs[j]?=xs[j]?) (fun _ _ _ _=>False) (fun _ X e' H'=>X = .ex 2∧∃ (k:Nat) (zs:List Int),Gs.get e' 0 = .ow 500000∧Gs.get e' 3=int k∧zs.length=xs.length∧k≤xs.length∧zs.take k=dd eqI xs∧H'=[(500000,.row nz 1 (zs.map int) 0 dy)]) ?_ ?_ ?_ (xs.length - K0 - 1) 1 () e H rfl ⟨Nat.le_refl _,by omega,K0,xs,h0,h3,h4,h5,hH,hH1,rfl,by omega,by rw [hdd],fun j _=>rfl⟩).mono ?_
 · rintro i s s' e H hi ⟨hi1,hi2,k,zs,h0,h3,h4,h5,hH,hH1,hz,hk,ht,hj⟩ hf
   obtain ⟨y,hy⟩:∃ y,xs[K0 + i]?=some y:=⟨_,List.getElem?_eq_getElem (by omega)⟩
   obtain ⟨p,hp⟩:∃ p,xs[K0 + i - 1]?=some p:=⟨_,List.getElem?_eq_getElem (by omega)⟩
   have hzy:zs[K0 + i]?=some y:=by rw [hj _ (by omega)]; exact hy
   have hzp:zs[K0 + (i - 1)]?=some p:=by rw [hj _ (by omega),show K0 + (i - 1)=K0 + i - 1 by omega]; exact hp
   have hsucc:dd eqI (xs.take (K0 + (i + 1)))=dd eqI (xs.take (K0 + i)) ++ (bif eqI y p then [] else [y]):=by
     obtain ⟨m,hm⟩:∃ m,K0 + i=m + 1:=⟨K0 + i - 1,by omega⟩
     rw [show K0 + (i + 1)=m + 2 by omega,hm]
     exact dd_take_succ eqI (by rw [←hm]; exact hy) (by rw [show m=K0 + i - 1 by omega]; exact hp)
   have hil:i - 1 < xs.length - K0:=by omega
   obtain ⟨z,hzk⟩:∃ z,zs[k]?=some z:=⟨_,List.getElem?_eq_getElem (by omega)⟩
   have hkl:k < zs.length:=by omega
   cases hc:eqI y p with
   | true=>
     simp only [↓eA,eB,reduceIte,Nat.reduceBEq,Int.reduceNeg,Int.reduceLT,Int.reduceLE,Int.reduceAdd,Int.reduceSub,Int.reduceMul,Int.reduceEq,Int.reduceToNat,Nat.reduceLT,Nat.reduceAdd,Nat.reduceMul,Nat.reduceSub,l154009,h0,h3,h4,h5,hH,hH1,hi,hil,getmi hzy,getmi hzp,wrap_pred (show 0 < i by omega) (show i < 4611686018427387904 by omega),hc,wrap_succ (show i < 4611686018427387904 by omega)]
     have hb1:zs.take k=dd eqI (xs.take (K0 + (i + 1))):=by rw [hsucc,hc,ht]; simp
     refine ⟨trivial,by omega,by omega,k,zs,?_⟩
     and_intros<;>first | trivial | rfl | assumption | omega | exact fun j hj'=>hj j (by omega)
   | false=>
     simp only [↓eA,eB,reduceIte,Nat.reduceBEq,Int.reduceNeg,Int.reduceLT,Int.reduceLE,Int.reduceAdd,Int.reduceSub,Int.reduceMul,Int.reduceEq,Int.reduceToNat,Nat.reduceLT,Nat.reduceAdd,Nat.reduceMul,Nat.reduceSub,l154009,h0,h3,h4,h5,hH,hH1,hi,hil,getmi hzy,getmi hzp,getmi hzk,hkl,wrap_pred (show 0 < i by omega) (show i < 4611686018427387904 by omega),hc,wrap_succ (show i < 4611686018427387904 by omega),wrap_succ (show k < 4611686018427387904 by omega),Nat.zero_le,beq_self_eq_true]
     have hb1:(zs.set k y).take (k + 1)=dd eqI (xs.take (K0 + (i + 1))):=by
       rw [hsucc,hc,←ht]
       simp only [cond_false]
       rw [List.take_add_one,List.getElem?_set_self hkl,List.take_set_of_le (Nat.le_refl k)]
       rfl
     have hb2:(zs.set k y).length=xs.length:=by simpa using hz
     have hb3:∀ j,K0 + (i + 1)≤j + 1→(zs.set k y)[j]?=xs[j]?:=by
       intro j hj'; rw [List.getElem?_set_ne (by omega)]; exact hj j (by omega)
     refine ⟨trivial,by omega,by omega,k + 1,zs.set k y,?_⟩
     and_intros<;>first | trivial | rfl | assumption | omega | (simp [List.map_set]; done)
 · rintro i s r e H hi _ hf; cases hf
 · rintro i s e H hi ⟨hi1,hi2,k,zs,h0,h3,h4,h5,hH,hH1,hz,hk,ht,hj⟩
   have hie:i=xs.length - K0:=by omega
   subst hie
   simp only [↓eA,eB,reduceIte,Nat.reduceBEq,Int.reduceNeg,Int.reduceLT,Int.reduceLE,Int.reduceAdd,Int.reduceSub,Int.reduceMul,Int.reduceEq,Int.reduceToNat,Nat.reduceLT,Nat.reduceAdd,Nat.reduceMul,Nat.reduceSub,l154009,h0,h3,h4,h5,hH,hH1,Nat.lt_irrefl]
   have hb1:zs.take k=dd eqI xs:=by rw [ht,List.take_of_length_le (by omega)]
   refine ⟨trivial,trivial,k,zs,?_⟩
   and_intros<;>first | trivial | rfl | assumption | omega
 · intro X e' H' h
   have:∀ (n i:Nat),upto (S:=Unit) (R:=Empty) (fun _ _=>.inr ()) n i () = .inr ():=by
     intro n
     induction n with
     | zero=>intro i; rfl
     | succ n ih=>intro i; simp only [upto]; exact ih (i + 1)
   rw [this] at h; exact h
abbrev adj_xi (xs:List Int)(i:Nat):Bool:=match xs[i]?,xs[i - 1]? with | some y,some p=>eqI y p | _,_=>false
theorem dd_stop_i (xs:List Int)(k:Nat)(hk:k≤xs.length)(h:∀ i,1≤i→i < k→adj_xi xs i=false):dd eqI (xs.take k)=xs.take k:=by
 induction k with
 | zero=>rfl
 | succ k ih=>
   cases k with
   | zero=>cases xs with
     | nil=>rfl
     | cons x r=>simp [dd,ddF]
   | succ k=>
     obtain ⟨y,hy⟩:∃ y,xs[k + 1]?=some y:=⟨_,List.getElem?_eq_getElem (by omega)⟩
     obtain ⟨p,hp⟩:∃ p,xs[k]?=some p:=⟨_,List.getElem?_eq_getElem (by omega)⟩
     have h1:=h (k + 1) (by omega) (by omega)
     have hkk:xs[k + 1 - 1]?=some p:=hp
     simp only [adj_xi,hy,hkk] at h1
     rw [dd_take_succ eqI hy hp,h1,ih (by omega) fun i h1 h2=>h i h1 (by omega)]
     rw [List.take_add_one (i:=k + 1),hy]; rfl
theorem lp_co_i (xs:List Int)(hb:xs.length < 4000000000)(nz dy:Bool)(h2:1 < xs.length)(e:Env)(H:Heap)(h0:Gs.get e 0 = .ow 500000)(h3:Gs.get e 3=int (1:Nat))(hH:hget H 500000=some (.row nz 1 (xs.map int) 0 dy))(hH1:hget H 500001=none) :
   Ends T 154004 e H (fun X e' H'=>(X = .ex 0∧Gs.get e' 0 = .ow 500000∧dd eqI xs=xs∧H'=[(500000,.row nz 1 (xs.map int) 0 dy)])∨(X = .ret∧∃ (k:Nat) (zq:List Int),k=(dd eqI xs).length∧k≤xs.length∧zq.length=xs.length∧zq.take k=dd eqI xs∧Gs.get e' 2 = .win 500000 0 k∧H'=[(500000,.row nz 1 (zq.map int) 0 dy)])):=by
 refine (loop_upto (T:=T) (key:=154004) (li:=l154004.1) rfl (S:=Unit) (R:=Unit) (fun _ k=>bif adj_xi xs k then .inl () else .inr ()) (xs.length) (fun i _ e H=>1≤i∧i≤xs.length∧Gs.get e 0 = .ow 500000∧Gs.get e 3=int i∧hget H 500000=some (.row nz 1 (xs.map int) 0 dy)∧hget H 500001=none∧dd eqI (xs.take i)=xs.take i) (fun _ X e' H'=>X = .ret∧∃ (k:Nat) (zq:List Int),k=(dd eqI xs).length∧k≤xs.length∧zq.length=xs.length∧zq.take k=dd eqI xs∧Gs.get e' 2 = .win 500000 0 k∧H'=[(500000,.row nz 1 (zq.map int) 0 dy)]) (fun _ X e' H'=>X = .ex 0∧Gs.get e' 0 = .ow 500000∧dd eqI xs=xs∧H'=[(500000,.row nz 1 (xs.map int) 0 dy)]) ?_ ?_ ?_ (xs.length - 1) 1 () e H (by omega) ⟨Nat.le_refl _,by omega,h0,h3,hH,hH1,dd_stop_i xs 1 (by omega) (fun i h1 h2=>by omega)⟩).mono ?_
 · rintro i s s' e H hi ⟨hi1,hi2,h0,h3,hH,hH1,hd⟩ hf
   obtain ⟨y,hy⟩:∃ y,xs[i]?=some y:=⟨_,List.getElem?_eq_getElem (by omega)⟩
   obtain ⟨p,hp⟩:∃ p,xs[i - 1]?=some p:=⟨_,List.getElem?_eq_getElem (by omega)⟩
   simp only [adj_xi,hy,hp] at hf
   cases hc:eqI y p with
   | true=>rw [hc] at hf; simp only [cond_true] at hf; cases hf
   | false=>
     have hil:i - 1 < xs.length:=by omega
     simp only [↓eA,eB,reduceIte,Nat.reduceBEq,Int.reduceNeg,Int.reduceLT,Int.reduceLE,Int.reduceAdd,Int.reduceSub,Int.reduceMul,Int.reduceEq,Int.reduceToNat,Nat.reduceLT,Nat.reduceAdd,Nat.reduceMul,Nat.reduceSub,l154004,h0,h3,hH,hH1,hi,hil,getmi hy,getmi hp,wrap_pred (show 0 < i by omega) (show i < 4611686018427387904 by omega),hc,wrap_succ (show i < 4611686018427387904 by omega)]
     have hb1:dd eqI (xs.take (i + 1))=xs.take (i + 1):=by
       obtain ⟨m,hm⟩:∃ m,i=m + 1:=⟨i - 1,by omega⟩
       subst hm
       rw [dd_take_succ eqI hy hp,hc,hd,List.take_add_one (i:=m + 1),hy]; rfl
     and_intros<;>first | trivial | rfl | assumption | omega
 · rintro i s r e H hi ⟨hi1,hi2,h0,h3,hH,hH1,hd⟩ hf
   obtain ⟨y,hy⟩:∃ y,xs[i]?=some y:=⟨_,List.getElem?_eq_getElem (by omega)⟩
   obtain ⟨p,hp⟩:∃ p,xs[i - 1]?=some p:=⟨_,List.getElem?_eq_getElem (by omega)⟩
   simp only [adj_xi,hy,hp] at hf
   cases hc:eqI y p with
   | false=>rw [hc] at hf; simp only [cond_false] at hf; cases hf
   | true=>
     have hb1:dd eqI (xs.take (i + 1))=xs.take i:=by
       obtain ⟨m,hm⟩:∃ m,i=m + 1:=⟨i - 1,by omega⟩
       subst hm
       rw [dd_take_succ eqI hy hp,hc,hd]; simp
     have hii:i≤xs.length:=by omega
     have hil:i - 1 < xs.length:=by omega
     simp only [↓eA,eB,reduceIte,Nat.reduceBEq,Int.reduceNeg,Int.reduceLT,Int.reduceLE,Int.reduceAdd,Int.reduceSub,Int.reduceMul,Int.reduceEq,Int.reduceToNat,Nat.reduceLT,Nat.reduceAdd,Nat.reduceMul,Nat.reduceSub,l154004,h0,h3,hH,hH1,hi,hii,hil,getmi hy,getmi hp,wrap_pred (show 0 < i by omega) (show i < 4611686018427387904 by omega),hc,wrap_succ (show i < 4611686018427387904 by omega),Nat.le_refl]
     generalize hE:(lim T).loop 154009 _ _=R
     obtain ⟨X,e',H',rfl,rfl,k,zs,g0,g3,hz,hk,hzt,rfl⟩:=Ends.at hE (lp_ci_i xs hb nz dy i (by omega) hi hb1 _ _ (by simp only [↓eA,eB,reduceIte,Nat.reduceBEq,Int.reduceNeg,Int.reduceLT,Int.reduceLE,Int.reduceAdd,Int.reduceSub,Int.reduceMul,Int.reduceEq,Int.reduceToNat,Nat.reduceLT,Nat.reduceAdd,Nat.reduceMul,Nat.reduceSub,h0]) (by simp only [↓eA,eB,reduceIte,Nat.reduceBEq,Int.reduceNeg,Int.reduceLT,Int.reduceLE,Int.reduceAdd,Int.reduceSub,Int.reduceMul,Int.reduceEq,Int.reduceToNat,Nat.reduceLT,Nat.reduceAdd,Nat.reduceMul,Nat.reduceSub,h3]) (by simp only [↓eA,eB,reduceIte,Nat.reduceBEq,Int.reduceNeg,Int.reduceLT,Int.reduceLE,Int.reduceAdd,Int.reduceSub,Int.reduceMul,Int.reduceEq,Int.reduceToNat,Nat.reduceLT,Nat.reduceAdd,Nat.reduceMul,Nat.reduceSub,hii]) (by simp only [↓eA,eB,reduceIte,Nat.reduceBEq,Int.reduceNeg,Int.reduceLT,Int.reduceLE,Int.reduceAdd,Int.reduceSub,Int.reduceMul,Int.reduceEq,Int.reduceToNat,Nat.reduceLT,Nat.reduceAdd,Nat.reduceMul,Nat.reduceSub]) (by simp only [↓eA,eB,reduceIte,Nat.reduceBEq,Int.reduceNeg,Int.reduceLT,Int.reduceLE,Int.reduceAdd,Int.reduceSub,Int.reduceMul,Int.reduceEq,Int.reduceToNat,Nat.reduceLT,Nat.reduceAdd,Nat.reduceMul,Nat.reduceSub]) (by simp only [↓eA,eB,reduceIte,Nat.reduceBEq,Int.reduceNeg,Int.reduceLT,Int.reduceLE,Int.reduceAdd,Int.reduceSub,Int.reduceMul,Int.reduceEq,Int.reduceToNat,Nat.reduceLT,Nat.reduceAdd,Nat.reduceMul,Nat.reduceSub,hH1]))
     have hkl:k≤zs.length:=by omega
     have hkk:k + (zs.length - k)≤zs.length:=by omega
     obtain ⟨zq,hq1,hq2,hq3⟩:∃ zq:List Int,zq.length=zs.length∧zq.take k=dd eqI xs∧List.take k (List.map int zs) ++ List.replicate (zs.length - k) (int 0) ++ List.drop (k + (zs.length - k)) (List.map int zs)=zq.map int:=by
       refine ⟨zs.take k ++ List.replicate (zs.length - k) 0,by simp; omega,?_,?_⟩
       · rw [←hzt,List.take_append_of_le_length (by simp; omega),List.take_take,Nat.min_self]
       · rw [show k + (zs.length - k)=zs.length by omega]; simp [List.map_take]
     have hkq:k≤zq.length:=by omega
     have hinc:inc 0 k=true:=by simp [inc]
     simp only [↓eA,eB,reduceIte,Nat.reduceBEq,Int.reduceNeg,Int.reduceLT,Int.reduceLE,Int.reduceAdd,Int.reduceSub,Int.reduceMul,Int.reduceEq,Int.reduceToNat,Nat.reduceLT,Nat.reduceAdd,Nat.reduceMul,Nat.reduceSub,g0,g3,hkl,hkk,hq3,hkq,hinc,Nat.le_refl,Nat.zero_le,Nat.sub_zero,Nat.zero_add]
     refine ⟨trivial,trivial,k,zq,by rw [←hq2,List.length_take]; omega,by omega,by omega,hq2,?_⟩
     and_intros<;>first | trivial | rfl | assumption | omega
 · rintro i s e H hi ⟨hi1,hi2,h0,h3,hH,hH1,hd⟩
   have hie:i=xs.length:=by omega
   subst hie
   rw [List.take_length] at hd
   simp only [↓eA,eB,reduceIte,Nat.reduceBEq,Int.reduceNeg,Int.reduceLT,Int.reduceLE,Int.reduceAdd,Int.reduceSub,Int.reduceMul,Int.reduceEq,Int.reduceToNat,Nat.reduceLT,Nat.reduceAdd,Nat.reduceMul,Nat.reduceSub,l154004,h0,h3,hH,hH1,Nat.lt_irrefl]
   and_intros<;>first | trivial | rfl | assumption | omega
 · intro X e' H' h
   split at h
   · exact .inr h
   · exact .inl h
theorem lt2_bi {n:Nat}(h:¬n < 2):decide ((n:Int) < 2)=false:=by simp; omega
theorem lt2_ai {n:Nat}(h:n < 2):decide ((n:Int) < 2)=true:=by simp; omega
theorem e_compact_i (xs:List Int)(hb:xs.length < 4000000000)(nz dy:Bool) :
   (dd eqI xs=xs∧L.call 154 [.ow 500000] [(500000,.row nz 1 (xs.map int) 0 dy)]=some (.ow 500000,[(500000,.row nz 1 (xs.map int) 0 dy)]))∨
   ∃ zq:List Int,zq.length=xs.length∧zq.take (dd eqI xs).length=dd eqI xs∧(dd eqI xs).length≤xs.length∧L.call 154 [.ow 500000] [(500000,.row nz 1 (xs.map int) 0 dy)]=some (.win 500000 0 (dd eqI xs).length,[(500000,.row nz 1 (zq.map int) 0 dy)]):=by
 by_cases hl:xs.length < 2
 · refine .inl ⟨?_,call_eq rfl rfl ?_⟩
   · match xs,hl with
     | [],_=>rfl
     | [x],_=>rfl
   · simp only [↓eA,eB,reduceIte,Nat.reduceBEq,Int.reduceNeg,Int.reduceLT,Int.reduceLE,Int.reduceAdd,Int.reduceSub,Int.reduceMul,Int.reduceEq,Int.reduceToNat,Nat.reduceLT,Nat.reduceAdd,Nat.reduceMul,Nat.reduceSub,c154,lt2_ai hl]
 · generalize hE:(lim T).loop 154004 [(0,D.ow 500000),(2,D.fz true 1 []),(6,D.ow 500000),(7,D.int IntKind.i64 xs.length),(8,D.bool false),(3,D.int IntKind.i64 1)] [(500000,.row nz 1 (xs.map int) 0 dy)]=R
   obtain ⟨X,e',H',rfl,h⟩:=Ends.at hE (lp_co_i xs hb nz dy (by omega) _ _ rfl rfl rfl rfl)
   rcases h with ⟨rfl,g0,hd,rfl⟩ | ⟨rfl,k,zq,rfl,hk,hq1,hq2,g2,rfl⟩
   · refine .inl ⟨hd,call_eq rfl rfl ?_⟩
     simp only [↓eA,eB,reduceIte,Nat.reduceBEq,Int.reduceNeg,Int.reduceLT,Int.reduceLE,Int.reduceAdd,Int.reduceSub,Int.reduceMul,Int.reduceEq,Int.reduceToNat,Nat.reduceLT,Nat.reduceAdd,Nat.reduceMul,Nat.reduceSub,c154,lt2_bi hl,hE,g0]
   · refine .inr ⟨zq,hq1,hq2,hk,call_eq rfl rfl ?_⟩
     simp only [↓eA,eB,reduceIte,Nat.reduceBEq,Int.reduceNeg,Int.reduceLT,Int.reduceLE,Int.reduceAdd,Int.reduceSub,Int.reduceMul,Int.reduceEq,Int.reduceToNat,Nat.reduceLT,Nat.reduceAdd,Nat.reduceMul,Nat.reduceSub,c154,lt2_bi hl,hE,g2]
end Tz
