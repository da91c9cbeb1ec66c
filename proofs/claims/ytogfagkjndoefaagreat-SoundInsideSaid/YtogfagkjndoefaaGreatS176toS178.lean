/- part S176; part S177; part S178; no conditions. -/
import Derived.Test.YtogfagkjndoefaaGreatS167toS175
import Derived.Test.YtogfagkjndoefaaGreatX33toXBx
set_option linter.all false
set_option maxRecDepth 100000
open Gs Go
namespace Tz.C18
theorem e_r06Inside (a b:Box):L.call 29 [a.enc,b.enc] []=some (.bool (insideB a b),[]):=
 call_eq rfl rfl (by
   simp only [↓eA,eB,seval,c29]
   unfold insideB
   rw [loop_unfold_c (T:=T) (k:=29002) rfl]
   simp only [↓eA,eB,seval,l29002,e_at0]
   cases h0:(decide (a.x0 < b.x0) || decide (b.x1 < a.x1)) with
   | true=>simp only [↓eA,eB,seval]
   | false=>
   simp only [↓eA,eB,seval]
   rw [loop_unfold_c (T:=T) (k:=29002) rfl]
   simp only [↓eA,eB,seval,l29002,e_at1]
   cases h1:(decide (a.y0 < b.y0) || decide (b.y1 < a.y1)) with
   | true=>simp only [↓eA,eB,seval]
   | false=>
   simp only [↓eA,eB,seval]
   rw [loop_unfold_c (T:=T) (k:=29002) rfl]
   simp only [↓eA,eB,seval,l29002,e_at2]
   cases h2:(decide (a.z0 < b.z0) || decide (b.z1 < a.z1)) with
   | true=>simp only [↓eA,eB,seval]
   | false=>
   simp only [↓eA,eB,seval]
   rw [loop_unfold_c (T:=T) (k:=29002) rfl]
   simp only [↓eA,eB,seval,l29002])
set_option maxHeartbeats 400000 in
theorem lp_idx_bx (p:Box→Bool)(g:Nat)(caps:List D)(nz:Bool)(xs:List Box)(hb:xs.length < 1000000000)(hc:closedL caps=true)
   (hp:∀ x∈xs,L.call g (Box.enc x :: caps) []=some (.bool (p x),[])) (e:Env) (h0:Gs.get e 0 = .fz nz 6 (xs.map Box.enc)) (h1:Gs.get e 1 = .fn g caps) (h7:Gs.get e 7=int xs.length) (h8:Gs.get e 8=int 0) :
   Ends T 94002 e [] (fun X e' H'=>H'=[]∧match xs.findIdx? p with | some i=>X = .ret∧Gs.get e' 4=int i | none=>X = .ex 0):=by
 refine (loop_thru (T:=T) (key:=94002) (li:=l94002.1) rfl (R:=Nat) (fun (i:Nat) x=>bif p x then .inl i else .inr (i + 1)) xs (fun i j e H=>H=[]∧j=i∧Gs.get e 0 = .fz nz 6 (xs.map Box.enc)∧Gs.get e 1 = .fn g caps∧Gs.get e 7=int xs.length∧Gs.get e 8=int i) (fun r X e H=>H=[]∧X = .ret∧Gs.get e 4=int r) (fun _ X e H=>H=[]∧X = .ex 0) ?_ ?_ ?_ xs [] 0 e [] rfl ⟨rfl,rfl,h0,h1,h7,h8⟩).mono ?_
 · rintro i x j j' e H hi ⟨rfl,hji,h0,h1,h7,h8⟩ hf
   have hij:=hji.symm; subst hij
   have hlt:i < xs.length:=(List.getElem?_eq_some_iff.1 hi).1
   have hp':=hp x (List.mem_of_getElem? hi)
   have hpf:p x=false:=by cases h:p x<;>simp_all
   have hj:j'=i + 1:=by simp [hpf] at hf; exact hf.symm
   subst hj
   have hxi:(xs.map Box.enc)[i]?=some (Box.enc x):=by simp [hi]
   rw [hpf] at hp'
   simp only [↓eA,eB,seval,l94002,h0,h1,h7,h8,hlt,hxi,hp',renL_closed hc,wrap_succ (show i < 4611686018427387904 by omega)]
   exact ⟨trivial,trivial,trivial,trivial,trivial,trivial,trivial⟩
 · rintro i x j r e H hi ⟨rfl,hji,h0,h1,h7,h8⟩ hf
   have hij:=hji.symm; subst hij
   have hlt:i < xs.length:=(List.getElem?_eq_some_iff.1 hi).1
   have hp':=hp x (List.mem_of_getElem? hi)
   have hpf:p x=true:=by cases h:p x<;>simp_all
   have hj:r=i:=by simp [hpf] at hf; exact hf.symm
   subst hj
   have hxi:(xs.map Box.enc)[r]?=some (Box.enc x):=by simp [hi]
   rw [hpf] at hp'
   simp only [↓eA,eB,seval,l94002,h0,h1,h7,h8,hlt,hxi,hp',renL_closed hc]
   exact ⟨trivial,trivial,trivial,trivial⟩
 · rintro j e H ⟨rfl,rfl,h0,h1,h7,h8⟩
   simp only [↓eA,eB,seval,l94002,h0,h1,h7,h8,Nat.lt_irrefl]
   exact ⟨trivial,trivial,trivial⟩
 · intro X e' H' h
   rw [thru_idx] at h
   cases hf:xs.findIdx? p with
   | none=>rw [hf] at h; exact h
   | some i=>rw [hf] at h; simpa using h
theorem e_idx_bx (p:Box→Bool)(g:Nat)(caps:List D)(nz:Bool)(xs:List Box)(hb:xs.length < 1000000000)(hc:closedL caps=true)
   (hp:∀ x∈xs,L.call g (Box.enc x :: caps) []=some (.bool (p x),[])):L.call 94 [.fz nz 6 (xs.map Box.enc),.fn g caps] []=some (int (idxOf p xs),[]):=
 call_eq rfl rfl (by
   simp only [↓eA,eB,seval,c94]
   obtain ⟨X,e',H',h,rfl,h2⟩:=lp_idx_bx p g caps nz xs hb hc hp [(0,.fz nz 6 (xs.map Box.enc)),(1,.fn g caps),(4,int 0),(6,.fz nz 6 (xs.map Box.enc)),(7,int xs.length),(8,int 0)] rfl rfl rfl rfl
   rw [h]
   unfold idxOf
   cases hf:xs.findIdx? p with
   | none=>rw [hf] at h2; subst h2; simp only [↓eA,eB,seval]
   | some i=>rw [hf] at h2; obtain ⟨rfl,h4⟩:=h2; simp only [↓eA,eB,seval,h4])
theorem e_pc1 (s:Survey)(hF:s.Fit)(nz:Bool)(l:List Ev)(hl:l.length < 1000000)(b:Box)(he:evErr l=0)(hb:boxErr b=0):L.call 58 [b.enc,.fp (rockc s nz l) 0] []=some (.bool (!sndB s l b),[]):=
 call_eq rfl rfl (by
   have h1:=e_rSound s hF nz l hl b he hb
   simp only [↓eA,eB,seval,c58,h1]<;>rfl)
theorem e_del1 (s:Survey)(hF:s.Fit)(nz:Bool)(l:List Ev)(hl:l.length < 1000000)(b:Box)(he:evErr l=0)(hb:boxErr b=0)(hs:sndB s l b=true)(dy:Bool) :
   L.call 57 [.ow 500000,.fn 58 [.fp (rockc s nz l) 0]] [(500000,.row false 6 [b.enc] 0 dy)]=some (.ow 500000,[(500000,.row false 6 [b.enc] 0 dy)]):=
 call_eq rfl rfl (by
   have h1:=e_idx_bx (fun x=>!sndB s l x) 58 [.fp (rockc s nz l) 0] false [b] (by simp) rfl (fun x hx=>by
     rw [List.mem_singleton.1 hx]; exact e_pc1 s hF nz l hl b he hb)
   have h2:idxOf (fun x=>!sndB s l x) [b] = -1:=by unfold idxOf; simp [hs]
   rw [h2] at h1
   simp only [List.map_cons,List.map_nil] at h1
   simp only [↓eA,eB,seval,c57,h1]<;>rfl)
theorem sortBx_one (x:Six):sortBx [x]=[x]:=List.perm_singleton.1 (sortBx_all [x]).1
theorem e_sort1 (b:Box):L.call 59 [.ow 500000,.fn 60 []] [(500000,.row false 6 [b.enc] 0 false)]=some (.tup [],[(500000,.row false 6 [b.enc] 0 false)]):=
 ext_eq (s:=sortBoxX 60) rfl (by
   have h1:sixs [b.enc]=some [(b.x0,b.y0,b.z0,b.x1,b.y1,b.z1)]:=rfl
   simp only [sortBoxX,hget,beq_self_eq_true,cond_true,h1,sortBx_one]
   rfl)
end Tz.C18
set_option maxRecDepth 100000
open Gs Go
namespace Tz.C18
theorem e_scon0 (n:ByteArray):L.call 55 [.fz true 1 [],.str n] []=some (.bool false,[]):=e_scon true [] (by decide) n
theorem lp_pb0 (s:Survey)(hF:s.Fit)(nz:Bool)(l:List Ev)(b:Box)(e:Env)(H:Heap)(h3:Gs.get e 3 = .ptr 3 0)(h8:Gs.get e 8 = .ptr 8 0)(h10:Gs.get e 10 = .fz true 1 [])(h11:Gs.get e 11 = .fz true 1 [])(h12:Gs.get e 12 = .ow 1012)(h40:Gs.get e 40 = .fz false 2 (s.beds.map Bed.enc))(h41:Gs.get e 41=int s.beds.length)(h42:Gs.get e 42=int (0:Nat))
   (H3:hget H 3=some (.box s.cells false)) (H8:hget H 8=some (.box (rockc s nz l) false)) (HR:hget H 1012=some (.row false 6 [b.enc] 0 true)) :
   Ends T 25010 e H (fun X e' H'=>X = .ex 0∧Gs.get e' 3 = .ptr 3 0∧Gs.get e' 8 = .ptr 8 0∧Gs.get e' 11 = .fz true 1 []∧Gs.get e' 12 = .ow 1012∧H'=[(3,.box s.cells false),(8,.box (rockc s nz l) false),(1012,.row false 6 [b.enc] 0 true)]):=by
 have hbl:=hF.bl
 refine loop_fold (T:=T) (key:=25010) (li:=l25010.1) rfl s.beds (fun (_:Unit) _=>()) (fun i _ e H=>Gs.get e 3 = .ptr 3 0∧Gs.get e 8 = .ptr 8 0∧Gs.get e 10 = .fz true 1 []∧Gs.get e 11 = .fz true 1 []∧Gs.get e 12 = .ow 1012∧Gs.get e 40 = .fz false 2 (s.beds.map Bed.enc)∧Gs.get e 41=int s.beds.length∧Gs.get e 42=int i∧hget H 3=some (.box s.cells false)∧hget H 8=some (.box (rockc s nz l) false)∧hget H 1012=some (.row false 6 [b.enc] 0 true))
   (fun _ X e' H'=>X = .ex 0∧Gs.get e' 3 = .ptr 3 0∧Gs.get e' 8 = .ptr 8 0∧Gs.get e' 11 = .fz true 1 []∧Gs.get e' 12 = .ow 1012∧H'=[(3,.box s.cells false),(8,.box (rockc s nz l) false),(1012,.row false 6 [b.enc] 0 true)]) ?_ ?_ () e H ⟨h3,h8,h10,h11,h12,h40,h41,h42,H3,H8,HR⟩
 · rintro i x _ e H hi hlt ⟨h3,h8,h10,h11,h12,h40,h41,h42,H3,H8,HR⟩
   have hxi:(s.beds.map Bed.enc)[i]?=some x.enc:=by simp [hi]
   have hc:=e_scon0 x.name
   simp only [↓eA,eB,seval,l25010,h3,h8,h10,h11,h12,h40,h41,h42,H3,H8,HR,hlt,hxi,hc,killE_nil,wrap_succ (show i < 4611686018427387904 by omega)]
   and_intros<;>first | trivial | rfl
 · rintro _ e H ⟨h3,h8,h10,h11,h12,h40,h41,h42,H3,H8,HR⟩
   simp only [↓eA,eB,seval,l25010,h3,h8,h10,h11,h12,h40,h41,h42,H3,H8,HR,Nat.lt_irrefl]
   and_intros<;>first | trivial | rfl
theorem lp_pj0 (s:Survey)(hF:s.Fit)(nz:Bool)(l:List Ev)(b:Box)(e:Env)(H:Heap)(h8:Gs.get e 8 = .ptr 8 0)(h11:Gs.get e 11 = .fz true 1 [])(h12:Gs.get e 12 = .ow 1012)(h56:Gs.get e 56 = .fz false 5 (s.joints.map Joint.enc))(h57:Gs.get e 57=int s.joints.length)(h58:Gs.get e 58=int (0:Nat))
   (H8:hget H 8=some (.box (rockc s nz l) false)) (HR:hget H 1012=some (.row false 6 [b.enc] 0 true)) :
   Ends T 25016 e H (fun X e' H'=>X = .ex 2∧e'=[(8,.ptr 8 0),(11,.fz true 1 []),(12,.ow 1012),(56,.fz false 5 (s.joints.map Joint.enc)),(57,int s.joints.length),(58,int s.joints.length),(59,.bool false)]∧H'=[(8,.box (rockc s nz l) false),(1012,.row false 6 [b.enc] 0 true)]):=by
 have hbl:=hF.jl
 refine loop_fold (T:=T) (key:=25016) (li:=l25016.1) rfl s.joints (fun (_:Unit) _=>()) (fun i _ e H=>Gs.get e 8 = .ptr 8 0∧Gs.get e 11 = .fz true 1 []∧Gs.get e 12 = .ow 1012∧Gs.get e 56 = .fz false 5 (s.joints.map Joint.enc)∧Gs.get e 57=int s.joints.length∧Gs.get e 58=int i∧hget H 8=some (.box (rockc s nz l) false)∧hget H 1012=some (.row false 6 [b.enc] 0 true))
   (fun _ X e' H'=>X = .ex 2∧e'=[(8,.ptr 8 0),(11,.fz true 1 []),(12,.ow 1012),(56,.fz false 5 (s.joints.map Joint.enc)),(57,int s.joints.length),(58,int s.joints.length),(59,.bool false)]∧H'=[(8,.box (rockc s nz l) false),(1012,.row false 6 [b.enc] 0 true)]) ?_ ?_ () e H ⟨h8,h11,h12,h56,h57,h58,H8,HR⟩
 · rintro i x _ e H hi hlt ⟨h8,h11,h12,h56,h57,h58,H8,HR⟩
   have hxi:(s.joints.map Joint.enc)[i]?=some x.enc:=by simp [hi]
   have hc:=e_scon0 x.name
   simp only [↓eA,eB,seval,l25016,h8,h11,h12,h56,h57,h58,H8,HR,hlt,hxi,hc,killE_nil,wrap_succ (show i < 4611686018427387904 by omega)]
   and_intros<;>first | trivial | rfl
 · rintro _ e H ⟨h8,h11,h12,h56,h57,h58,H8,HR⟩
   simp only [↓eA,eB,seval,l25016,h8,h11,h12,h56,h57,h58,H8,HR,Nat.lt_irrefl]
   and_intros<;>first | trivial | rfl
theorem e_pieces1 (s:Survey)(hF:s.Fit)(nz:Bool)(l:List Ev)(hl:l.length < 1000000)(b:Box)(h:legalErr s l b=0)(hs:SoundOk s l b):L.call 25 [s.enc,evs nz l,b.enc] []=some (.tup [.fz false 6 [b.enc],int 0],[]):=
 call_eq rfl rfl (by
   obtain ⟨_,he,hb⟩:=legal_ok h
   have hsn:sndB s l b=true:=by
     unfold sndB
     rw [←sf_find h]
     exact decide_eq_true ((find_sound h).2 hs)
   have h1:=e_rkCheck s hF nz l hl b
   rw [h] at h1
   have h2:L.call 47 [b.enc,.agg [int s.pit.x0,int s.pit.y0,int s.pit.z0,int s.pit.x1,int s.pit.y1,int s.pit.z1]] []=some (.bool true,[]):=by
     have:=e_bInside b s.pit
     rw [in_out.2 hs.inn] at this
     exact this
   have h3:L.call 54 [.agg (rockc s nz l),b.enc] []=some (.tup [.fz true 1 [],.fz true 1 []],[]):=by
     have:=e_rThr s hF nz l b
     rw [hs.bd,hs.jn] at this
     exact this
   have h4:=e_del1 s hF nz l hl b he hb hsn false
   have h5:=e_sort1 b
   simp only [↓eA,eB,seval,c25,h1,h2,h3]
   generalize hE:(lim T).loop 25010 _ _=R
   obtain ⟨X,e',H',rfl,rfl,k3,k8,k11,k12,rfl⟩:=Ends.at hE (lp_pb0 s hF nz l b _ _ (by simp only [↓eA,eB,seval]) (by simp only [↓eA,eB,seval]) (by simp only [↓eA,eB,seval]) (by simp only [↓eA,eB,seval]) (by simp only [↓eA,eB,seval]) (by simp only [↓eA,eB,seval]) (by simp only [↓eA,eB,seval,List.length_map]) (by simp only [↓eA,eB,seval]) rfl rfl rfl)
   simp only [↓eA,eB,seval,k3,k8,k11,k12]
   generalize hE:(lim T).loop 25016 _ _=R
   obtain ⟨X,e',H',rfl,rfl,rfl,rfl⟩:=Ends.at hE (lp_pj0 s hF nz l b _ _ (by simp only [↓eA,eB,seval,k8]) (by simp only [↓eA,eB,seval,k11]) (by simp only [↓eA,eB,seval,k12]) (by simp only [↓eA,eB,seval]) (by simp only [↓eA,eB,seval,List.length_map]) (by simp only [↓eA,eB,seval]) rfl rfl)
   simp only [↓eA,eB,seval,h4,h5]<;>rfl)
end Tz.C18
set_option maxRecDepth 100000
open Gs Go
namespace Tz.C18
theorem inside_sub {c b:Box}(h:insideB c b=true):Sub c b:=by
 unfold insideB at h
 simp only [Bool.not_eq_true',Bool.or_eq_false_iff,decide_eq_false_iff_not] at h
 constructor<;>omega
theorem err_ok {b:Box}(h:boxErr b=0):b.ok=true:=by
 have k:=boxErr_in h
 unfold Box.ok
 simp only [Bool.and_eq_true,decide_eq_true_eq]
 omega
theorem sb_zero {s:Survey}{l:List Ev}{b:Box}(h:legalErr s l b=0)(ho:outOf b s.pit=false):sbErr s b=0:=by
 unfold sbErr boxedErr
 rw [decide_eq_true (legal_ok h).1,err_ok (legal_ok h).2.2,ho]
 rfl
set_option maxHeartbeats 4000000 in
theorem e_inside16 (s:Survey)(l:List Ev)(b c:Box):L.call 7 [s.enc,evs false l,b.enc,c.enc] []=some (.bool true,[]):=by
 have aw:=e_awake16
 obtain ⟨v,e1,hv⟩:=small16 s false l b
 have e2:=e_r06Inside c b
 have e3:=e_rbCheck c
 refine call_eq rfl rfl ?_
 cases v with
 | false=>simp only [↓eA,eB,seval,c7,e1,aw]
 | true=>
 obtain ⟨hF,hl⟩:=hv rfl
 have hl':l.length < 1000000:=by omega
 cases hi:insideB c b with
 | false=>simp only [↓eA,eB,seval,c7,e1,e2,hi,aw]
 | true=>
 cases hc:decide (boxErr c=0) with
 | false=>simp only [↓eA,eB,seval,c7,e1,e2,hi,e3,hc,aw]
 | true=>
 have f1:=e_sIs s hF false l hl' b
 cases hE:decide (legalErr s l b=0) with
 | false=>simp only [↓eA,eB,seval,c7,e1,e2,hi,e3,hc,f1,hE,aw]
 | true=>
 cases hB:isB s l b with
 | false=>rw [hB] at f1; simp only [↓eA,eB,seval,c7,e1,e2,hi,e3,hc,f1,hE,aw]
 | true=>
 have h:=of_decide_eq_true hE
 have hcb:=of_decide_eq_true hc
 have hs:SoundOk s l b:=by
   unfold isB at hB
   rw [hE,Bool.true_and] at hB
   exact (find_sound h).1 (of_decide_eq_true hB)
 have h':=snd_legal h hcb
 have hsc:SoundOk s l c:=sound_sub hs (sb_zero h hs.inn) (err_ok hcb) (inside_sub hi)
 have hBc:isB s l c=true:=by
   unfold isB
   rw [decide_eq_true h',decide_eq_true ((find_sound h').2 hsc)]
   rfl
 have f2:=e_sIs s hF false l hl' c
 rw [hBc,h'] at f2
 rw [hB,h] at f1
 have u:=e_sUnseen s hF false l hl' b
 have hu:unsV s l b=0:=by
   rw [uns_eq h]
   exact cells_zero (fun p hp=>by rw [hs.cells p hp]; decide) (box3 (legal_ok h).2.2)
 rw [hu,h] at u
 have p:=e_pieces1 s hF false l hl' b h hs
 have q0:([b.enc]:List D)[0]?=some b.enc:=rfl
 have i10:inb 0 1=true:=rfl
 simp only [↓eA,eB,seval,c7,e1,e2,hi,e3,hc,f1,f2,u,p,aw,q0,i10]
end Tz.C18
