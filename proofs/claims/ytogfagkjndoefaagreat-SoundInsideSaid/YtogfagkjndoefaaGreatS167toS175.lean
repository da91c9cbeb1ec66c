/- part S167; part S168; part S169; part S171; part S170; part S172; part S173; part S174; part S175; no conditions. -/
import Derived.Test.YtogfagkjndoefaaGreatS163toS141
import Derived.Test.YtogfagkjndoefaaGreatS142toS145
import Derived.Test.YtogfagkjndoefaaGreatP12toP22
import Derived.Test.YtogfagkjndoefaaGreatS148toS149
import Derived.Test.YtogfagkjndoefaaGreatS0A
set_option linter.all false
set_option maxRecDepth 100000
open Gs Go
namespace Tz.C18
theorem e_nanI (a:Int):L.call 151 [int a] []=some (.bool false,[]):=call_eq rfl rfl (by simp only [↓eA,eB,seval,c151])
def cmpI (a b:Int):Int:=bif decide (a < b) then -1 else bif decide (b < a) then 1 else 0
theorem e_cmpI (a b:Int):L.call 98 [int a,int b] []=some (int (cmpI a b),[]):=
 call_eq rfl rfl (by
   unfold cmpI
   cases h1:decide (a < b) with
   | true=>simp only [↓eA,eB,seval,c98,e_nanI,h1]
   | false=>
   cases h2:decide (b < a) with
   | true=>simp only [↓eA,eB,seval,c98,e_nanI,h1,h2]
   | false=>simp only [↓eA,eB,seval,c98,e_nanI,h1,h2])
def orI (a b c:Int):Int:=bif !decide (a=0) then a else bif !decide (b=0) then b else bif !decide (c=0) then c else 0
theorem e_or (a b c:Int):L.call 97 [.fz false 1 [int a,int b,int c]] []=some (int (orI a b c),[]):=
 call_eq rfl rfl (by
   have q0:([int a,int b,int c]:List D)[0]?=some (int a):=rfl
   have q1:([int a,int b,int c]:List D)[1]?=some (int b):=rfl
   have q2:([int a,int b,int c]:List D)[2]?=some (int c):=rfl
   simp only [↓eA,eB,seval,c97]
   unfold orI
   rw [loop_unfold_c (T:=T) (k:=97003) rfl]
   simp only [↓eA,eB,seval,l97003,i30,q0]
   cases h0:decide (a=0) with
   | false=>simp only [↓eA,eB,seval,h0]
   | true=>
   simp only [↓eA,eB,seval,h0]
   rw [loop_unfold_c (T:=T) (k:=97003) rfl]
   simp only [↓eA,eB,seval,l97003,i31,q1]
   cases h1:decide (b=0) with
   | false=>simp only [↓eA,eB,seval,h1]
   | true=>
   simp only [↓eA,eB,seval,h1]
   rw [loop_unfold_c (T:=T) (k:=97003) rfl]
   simp only [↓eA,eB,seval,l97003,i32,q2]
   cases h2:decide (c=0) with
   | false=>simp only [↓eA,eB,seval,h2]
   | true=>
   simp only [↓eA,eB,seval,h2]
   rw [loop_unfold_c (T:=T) (k:=97003) rfl]
   simp only [↓eA,eB,seval,l97003])
def cmpV (a b:V3):Int:=orI (cmpI a.z b.z) (cmpI a.y b.y) (cmpI a.x b.x)
theorem e_compare (a b:V3):L.call 61 [a.enc,b.enc] []=some (int (cmpV a b),[]):=
 call_eq rfl rfl (by simp only [↓eA,eB,seval,c61,e_cmpI,e_or]; rfl)
theorem cmpI_cases (a b:Int):a < b∧cmpI a b = -1∨a=b∧cmpI a b=0∨b < a∧cmpI a b=1:=by
 unfold cmpI
 by_cases h1:a < b
 · rw [decide_eq_true h1]; exact .inl ⟨h1,rfl⟩
 · rw [decide_eq_false h1]
   by_cases h2:b < a
   · rw [decide_eq_true h2]; exact .inr (.inr ⟨h2,rfl⟩)
   · rw [decide_eq_false h2]; exact .inr (.inl ⟨by omega,rfl⟩)
theorem cmpV_neg (a b:V3):decide (cmpV a b < 0)=bef a b:=by
 rw [Bool.eq_iff_iff,bef_iff,decide_eq_true_eq]
 unfold cmpV
 rcases cmpI_cases a.z b.z with ⟨h,e⟩ | ⟨h,e⟩ | ⟨h,e⟩<;>rw [e]
 · exact ⟨fun _=>.inl h,fun _=>by simp [orI]⟩
 · rcases cmpI_cases a.y b.y with ⟨h',e'⟩ | ⟨h',e'⟩ | ⟨h',e'⟩<;>rw [e']
   · exact ⟨fun _=>.inr ⟨h,.inl h'⟩,fun _=>by simp [orI]⟩
   · rcases cmpI_cases a.x b.x with ⟨h2,e2⟩ | ⟨h2,e2⟩ | ⟨h2,e2⟩<;>rw [e2]
     · exact ⟨fun _=>.inr ⟨h,.inr ⟨h',h2⟩⟩,fun _=>by simp [orI]⟩
     · exact ⟨fun k=>absurd k (by simp [orI]),fun k=>by omega⟩
     · exact ⟨fun k=>absurd k (by simp [orI]),fun k=>by omega⟩
   · exact ⟨fun k=>absurd k (by simp [orI]),fun k=>by omega⟩
 · exact ⟨fun k=>absurd k (by simp [orI]),fun k=>by omega⟩
abbrev rockc (s:Survey)(nz:Bool)(l:List Ev):List D:=[int s.pit.x0,int s.pit.y0,int s.pit.z0,int s.pit.x1,int s.pit.y1,int s.pit.z1,.bool s.o0,.bool s.o1,.bool s.o2,.bool s.o3,
 .fz false 2 (s.beds.map Bed.enc),.fz false 5 (s.joints.map Joint.enc),.fz false 4 (s.flaws.map Flaw.enc),evs nz l]
abbrev witc (w:Wit):List D:=[int w.kind,.str w.name,int w.cell.x,int w.cell.y,int w.cell.z,int w.st]
def firstO (l:List Ev)(b:Box)(n:Int):Option V3:=optF (firstS l b n)
def cellStep (l:List Ev)(b:Box)(w:Wit)(n:Int):Wit:=cw1 n w (firstO l b n)
def cellR (l:List Ev)(b:Box):Wit:=[0,2,3].foldl (cellStep l b) zW
theorem lp_cell (s:Survey)(nz:Bool)(l:List Ev)(hl:l.length < 1000000)(b:Box)(he:evErr l=0)(hb:boxErr b=0)(e:Env)(H:Heap)(h2:Gs.get e 2 = .ptr 2 0)(h3:Gs.get e 3 = .ptr 3 0)(h4:Gs.get e 4 = .ptr 4 0)(h5:Gs.get e 5 = .ptr 5 0)(h11:Gs.get e 11 = .fz false 1 [int 0,int 2,int 3])(h12:Gs.get e 12=int 3)(h13:Gs.get e 13=int (0:Nat))
   (H2:hget H 2=some (.box (rockc s nz l) false)) (H3:hget H 3=some (.box (Box.enc' b) false)) (H4:hget H 4=some (.box (witc zW) false)) (H5:hget H 5=some (.box (witc zW) false)) :
   Ends T 76003 e H (fun X e' H'=>X = .ex 0∧Gs.get e' 2 = .ptr 2 0∧Gs.get e' 3 = .ptr 3 0∧Gs.get e' 4 = .ptr 4 0∧Gs.get e' 5 = .ptr 5 0∧H'=[(2,.box (rockc s nz l) false),(3,.box (Box.enc' b) false),(4,.box (witc zW) false),(5,.box (witc (cellR l b)) false)]):=by
 refine loop_fold (T:=T) (key:=76003) (li:=l76003.1) rfl [(0:Int),2,3] (cellStep l b) (fun i w e H=>Gs.get e 2 = .ptr 2 0∧Gs.get e 3 = .ptr 3 0∧Gs.get e 4 = .ptr 4 0∧Gs.get e 5 = .ptr 5 0∧Gs.get e 11 = .fz false 1 [int 0,int 2,int 3]∧Gs.get e 12=int 3∧Gs.get e 13=int i∧hget H 2=some (.box (rockc s nz l) false)∧hget H 3=some (.box (Box.enc' b) false)∧hget H 4=some (.box (witc zW) false)∧hget H 5=some (.box (witc w) false))
   (fun w X e' H'=>X = .ex 0∧Gs.get e' 2 = .ptr 2 0∧Gs.get e' 3 = .ptr 3 0∧Gs.get e' 4 = .ptr 4 0∧Gs.get e' 5 = .ptr 5 0∧H'=[(2,.box (rockc s nz l) false),(3,.box (Box.enc' b) false),(4,.box (witc zW) false),(5,.box (witc w) false)]) ?_ ?_ zW e H ⟨h2,h3,h4,h5,h11,h12,h13,H2,H3,H4,H5⟩
 · rintro i n w e H hi hlt ⟨h2,h3,h4,h5,h11,h12,h13,H2,H3,H4,H5⟩
   have hlt2:i < 3:=by simpa using hlt
   have hd:decide ((i:Int) < 3)=true:=by simp; omega
   have hxi:([int 0,int 2,int 3]:List D)[i]?=some (int n):=by
     have:([(0:Int),2,3].map int)[i]?=some (int n):=by simp only [List.getElem?_map,hi,Option.map_some]
     exact this
   have hin:inb (i:Int) 3=true:=by rw [inb_ofNat]; exact decide_eq_true hlt2
   have hn:0≤n∧n≤3:=by
     have:=List.mem_of_getElem? hi
     simp at this
     omega
   have hf:=e_mFirst nz l hl b n he hb hn
   have hs:cellStep l b w n=cw1 n w (firstO l b n):=rfl
   rw [hs]
   unfold firstO
   generalize firstS l b n=st at hf ⊢
   obtain ⟨f,m⟩:=st
   cases f with
   | false=>
     simp only [↓eA,eB,seval,l76003,h2,h3,h4,h5,h11,h12,h13,H2,H3,H4,H5,hd,hxi,hin,hf,killE_nil,wrap_succ (show i < 4611686018427387904 by omega)]
     and_intros<;>first | trivial | rfl
   | true=>
     have hc:=e_compare m w.cell
     cases hk:decide (w.kind=0) with
     | true=>
       simp only [↓eA,eB,seval,l76003,h2,h3,h4,h5,h11,h12,h13,H2,H3,H4,H5,hd,hxi,hin,hf,hk,killE_nil,wrap_succ (show i < 4611686018427387904 by omega)]
       have hr:cw1 n w (optF (true,m))=⟨1,.empty,m,n⟩:=by show (bif decide (w.kind=0) || bef m w.cell then _ else _)=_; rw [hk]; rfl
       rw [hr]
       and_intros<;>first | trivial | rfl
     | false=>
       have hr:cw1 n w (optF (true,m))=bif bef m w.cell then ⟨1,.empty,m,n⟩ else w:=by show (bif decide (w.kind=0) || bef m w.cell then _ else _)=_; rw [hk,Bool.false_or]
       have hm:=cmpV_neg m w.cell
       rw [hr]
       cases hbf:bef m w.cell with
       | true=>
         rw [hbf] at hm
         simp only [↓eA,eB,seval,l76003,h2,h3,h4,h5,h11,h12,h13,H2,H3,H4,H5,hd,hxi,hin,hf,hk,hc,hm,killE_nil,wrap_succ (show i < 4611686018427387904 by omega)]
         and_intros<;>first | trivial | rfl
       | false=>
         rw [hbf] at hm
         simp only [↓eA,eB,seval,l76003,h2,h3,h4,h5,h11,h12,h13,H2,H3,H4,H5,hd,hxi,hin,hf,hk,hc,hm,killE_nil,wrap_succ (show i < 4611686018427387904 by omega)]
         and_intros<;>first | trivial | rfl
 · rintro w e H ⟨h2,h3,h4,h5,h11,h12,h13,H2,H3,H4,H5⟩
   have hd:decide ((([(0:Int),2,3]).length:Int) < 3)=false:=rfl
   simp only [↓eA,eB,seval,l76003,h2,h3,h4,h5,h11,h12,h13,H2,H3,H4,H5,hd]
   and_intros<;>first | trivial | rfl
theorem e_rCell (s:Survey)(nz:Bool)(l:List Ev)(hl:l.length < 1000000)(b:Box)(he:evErr l=0)(hb:boxErr b=0):L.call 76 [.agg (rockc s nz l),b.enc] []=some (.agg (witc (cellR l b)),[]):=
 call_eq rfl rfl (by
   simp only [↓eA,eB,seval,c76]
   generalize hE:(lim T).loop 76003 _ _=R
   obtain ⟨X,e',H',rfl,rfl,k2,k3,k4,k5,rfl⟩:=Ends.at hE (lp_cell s nz l hl b he hb _ _ (by simp only [↓eA,eB,seval]) (by simp only [↓eA,eB,seval]) (by simp only [↓eA,eB,seval]) (by simp only [↓eA,eB,seval]) (by simp only [↓eA,eB,seval]) (by simp only [↓eA,eB,seval]) (by simp only [↓eA,eB,seval]) rfl rfl rfl rfl)
   simp only [↓eA,eB,seval,k2,k3,k4,k5])
end Tz.C18
set_option maxRecDepth 100000
open Gs Go
namespace Tz.C18
abbrev strz' (nz:Bool)(l:List ByteArray):D:=.fz nz 1 (l.map .str)
theorem e_thr1 (n:ByteArray)(x:Bed):L.call 92 [x.enc,.fp [.str n] 0] []=some (.bool (seq x.name n),[]):=call_eq rfl rfl (by simp only [↓eA,eB,seval,c92])
def thStep (s:Survey)(a:List ByteArray×List ByteArray)(n:ByteArray):List ByteArray×List ByteArray:=bif isBed s n then (a.1 ++ [n],a.2) else (a.1,a.2 ++ [n])
theorem th_fold (s:Survey):∀ (l:List ByteArray) (a:List ByteArray×List ByteArray),l.foldl (thStep s) a=(a.1 ++ l.filter (isBed s),a.2 ++ l.filter fun n=>!isBed s n)
 | [],a=>by simp
 | x :: l,a=>by
   rw [List.foldl_cons,th_fold s l]
   unfold thStep
   cases h:isBed s x<;>simp [h]
theorem lp_thr (s:Survey)(hF:s.Fit)(nz:Bool)(l:List Ev)(all:List ByteArray)(hal:all.length < 1000000000000)(e:Env)(H:Heap)(h2:Gs.get e 2 = .ptr 2 0)(h6:Gs.get e 6 = .ow 1006)(h7:Gs.get e 7 = .ow 1007)(h19:Gs.get e 19=strz' true all)(h20:Gs.get e 20=int all.length)(h21:Gs.get e 21=int (0:Nat))
   (H2:hget H 2=some (.box (rockc s nz l) false)) (H6:hget H 1006=some (.row true 1 [] 0 true)) (H7:hget H 1007=some (.row true 1 [] 0 true)) :
   Ends T 54004 e H (fun X e' H'=>X = .ex 0∧Gs.get e' 6 = .ow 1006∧Gs.get e' 7 = .ow 1007∧H'=[(2,.box (rockc s nz l) false),(1006,.row true 1 ((all.filter (isBed s)).map .str) 0 true),(1007,.row true 1 ((all.filter fun n=>!isBed s n).map .str) 0 true)]):=by
 have hfold:=th_fold s all ([],[])
 simp only [List.nil_append] at hfold
 have hP:(fun (Y:X) (e':Env) (H':Heap)=>Y = .ex 0∧Gs.get e' 6 = .ow 1006∧Gs.get e' 7 = .ow 1007∧H'=[(2,.box (rockc s nz l) false),(1006,.row true 1 ((all.filter (isBed s)).map .str) 0 true),(1007,.row true 1 ((all.filter fun n=>!isBed s n).map .str) 0 true)])
   = (fun Z e' H'=>(fun (a:List ByteArray×List ByteArray) (Y:X) (e':Env) (H':Heap)=>Y = .ex 0∧Gs.get e' 6 = .ow 1006∧Gs.get e' 7 = .ow 1007∧H'=[(2,.box (rockc s nz l) false),(1006,.row true 1 (a.1.map .str) 0 true),(1007,.row true 1 (a.2.map .str) 0 true)]) (all.foldl (thStep s) ([],[])) Z e' H'):=by rw [hfold]
 rw [hP]
 refine loop_fold (T:=T) (key:=54004) (li:=l54004.1) rfl all (thStep s) (fun i a e H=>a.1.length + a.2.length≤i∧Gs.get e 2 = .ptr 2 0∧Gs.get e 6 = .ow 1006∧Gs.get e 7 = .ow 1007∧Gs.get e 19=strz' true all∧Gs.get e 20=int all.length∧Gs.get e 21=int i∧hget H 2=some (.box (rockc s nz l) false)∧hget H 1006=some (.row true 1 (a.1.map .str) 0 true)∧hget H 1007=some (.row true 1 (a.2.map .str) 0 true))
   (fun a X e' H'=>X = .ex 0∧Gs.get e' 6 = .ow 1006∧Gs.get e' 7 = .ow 1007∧H'=[(2,.box (rockc s nz l) false),(1006,.row true 1 (a.1.map .str) 0 true),(1007,.row true 1 (a.2.map .str) 0 true)]) ?_ ?_ ([],[]) e H ⟨by simp,h2,h6,h7,h19,h20,h21,H2,H6,H7⟩
 · rintro i n ⟨a1,a2⟩ e H hi hlt ⟨hal',h2,h6,h7,h19,h20,h21,H2,H6,H7⟩
   have hxi:(all.map D.str)[i]?=some (.str n):=by simp [hi]
   have hc:=e_con_bed (fun x=>seq x.name n) 92 [.fp [.str n] 0] false s.beds hF.bl rfl (fun x _=>e_thr1 n x)
   simp only at hal' H6 H7
   have hf1:fits (a1.length + 1) 16=true:=fits_of (by omega)
   have hf2:fits (a2.length + 1) 16=true:=fits_of (by omega)
   unfold thStep isBed
   cases hb:s.beds.any (fun x=>seq x.name n) with
   | true=>
     simp only [↓eA,eB,seval,l54004,h2,h6,h7,h19,h20,h21,H2,H6,H7,hlt,hxi,hc,hb,hf1,hf2,List.length_map,killE_nil,wrap_succ (show i < 4611686018427387904 by omega)]
     refine ⟨trivial,by simp; omega,?_⟩
     and_intros<;>first | trivial | rfl | (simp [hget]; done)
   | false=>
     simp only [↓eA,eB,seval,l54004,h2,h6,h7,h19,h20,h21,H2,H6,H7,hlt,hxi,hc,hb,hf1,hf2,List.length_map,killE_nil,wrap_succ (show i < 4611686018427387904 by omega)]
     refine ⟨trivial,by simp; omega,?_⟩
     and_intros<;>first | trivial | rfl | (simp [hget]; done)
 · rintro ⟨a1,a2⟩ e H ⟨hal',h2,h6,h7,h19,h20,h21,H2,H6,H7⟩
   simp only at H6 H7
   simp only [↓eA,eB,seval,l54004,h2,h6,h7,h19,h20,h21,H2,H6,H7,Nat.lt_irrefl]
   and_intros<;>first | trivial | rfl
theorem e_rThr (s:Survey)(hF:s.Fit)(nz:Bool)(l:List Ev)(b:Box):L.call 54 [.agg (rockc s nz l),b.enc] []=some (.tup [strz' true (bedsT s b),strz' true (jntsT s b)],[]):=
 call_eq rfl rfl (by
   have ht:=e_through s hF b
   have hlen:(thrR s b).length < 1000000000000:=by
     have h1:=thrL_len s b
     have h2:=hF.bl; have h3:=hF.jl
     have h4:=(sortB_perm (thrL s b)).length_eq
     unfold thrR
     cases decide (sbErr s b=0) with
     | false=>exact (by decide:([]:List ByteArray).length < 1000000000000)
     | true=>show (sortB (thrL s b)).length < _; omega
   simp only [↓eA,eB,seval,c54,ht]
   generalize hE:(lim T).loop 54004 _ _=R
   obtain ⟨X,e',H',rfl,rfl,k6,k7,rfl⟩:=Ends.at hE (lp_thr s hF nz l (thrR s b) hlen _ _ (by simp only [↓eA,eB,seval]) (by simp only [↓eA,eB,seval]) (by simp only [↓eA,eB,seval]) (by simp only [↓eA,eB,seval]) (by simp only [↓eA,eB,seval,List.length_map]) (by simp only [↓eA,eB,seval]) rfl rfl rfl)
   simp only [↓eA,eB,seval,k6,k7]
   rfl)
theorem out_inside (b p:Box):outOf b p = !insideB b p:=by
 unfold outOf insideB
 cases decide (b.x0 < p.x0)<;>cases decide (b.y0 < p.y0)<;>cases decide (b.z0 < p.z0)<;>cases decide (p.x1 < b.x1)<;>cases decide (p.y1 < b.y1)<;>cases decide (p.z1 < b.z1)<;>rfl
structure HeadOf (l:List ByteArray) (a:ByteArray):Prop where
 p:decide ((0:Int) < (l.length:Int))=true
 x:(l.map D.str)[0]?=some (.str a)
 i:inb 0 l.length=true
theorem head_of {l:List ByteArray}{a:ByteArray}{r:List ByteArray}(h:l=a :: r):HeadOf l a:=by
 subst h
 exact ⟨by simp,rfl,by simp [inb]⟩
theorem head_no {l:List ByteArray}(h:l=[]):decide ((0:Int) < (l.length:Int))=false:=by subst h; rfl
def findR' (s:Survey)(l:List Ev)(b:Box):Wit:=findW s (cellR l b) b
theorem e_rFind (s:Survey)(hF:s.Fit)(nz:Bool)(l:List Ev)(hl:l.length < 1000000)(b:Box)(he:evErr l=0)(hb:boxErr b=0):L.call 37 [.agg (rockc s nz l),b.enc] []=some (.agg (witc (findR' s l b)),[]):=
 call_eq rfl rfl (by
   have h1:L.call 47 [b.enc,.agg [int s.pit.x0,int s.pit.y0,int s.pit.z0,int s.pit.x1,int s.pit.y1,int s.pit.z1]] []=some (.bool (insideB b s.pit),[]):=e_bInside b s.pit
   have h2:=e_rCell s nz l hl b he hb
   have h3:=e_flaws' s hF b
   have h4:=e_rThr s hF nz l b
   unfold findR' findW
   rw [out_inside]
   cases hi:insideB b s.pit with
   | false=>simp only [↓eA,eB,seval,c37,h1,hi]<;>rfl
   | true=>
   generalize cellR l b=cw at h2 ⊢
   cases hk:decide (cw.kind=0) with
   | false=>simp only [↓eA,eB,seval,c37,h1,hi,h2,hk]
   | true=>
   cases hfl:flawsR s b with
   | cons a r=>
     obtain ⟨p1,p2,p3⟩:=head_of hfl
     simp only [↓eA,eB,seval,c37,h1,hi,h2,hk,h3,List.length_map,p1,p2,p3]<;>rfl
   | nil=>
   have p1:=head_no hfl
   cases hbd:bedsT s b with
   | cons a r=>
     obtain ⟨q1,q2,q3⟩:=head_of hbd
     simp only [↓eA,eB,seval,c37,h1,hi,h2,hk,h3,h4,List.length_map,p1,q1,q2,q3]<;>rfl
   | nil=>
   have q1:=head_no hbd
   cases hjn:jntsT s b with
   | cons a r=>
     obtain ⟨r1,r2,r3⟩:=head_of hjn
     simp only [↓eA,eB,seval,c37,h1,hi,h2,hk,h3,h4,List.length_map,p1,q1,r1,r2,r3]<;>rfl
   | nil=>
     have r1:=head_no hjn
     simp only [↓eA,eB,seval,c37,h1,hi,h2,hk,h3,h4,List.length_map,p1,q1,r1]<;>rfl)
end Tz.C18
set_option maxRecDepth 100000
open Gs Go
namespace Tz.C18
theorem small13' (s:Survey):∃ v,L.call 33 [s.enc] []=some (.bool v,[])∧(v=true→s.Fit):=by
 cases h0:Tz.sizeOver s with
 | true=>exact ⟨false,Tz.e_small_over s h0,fun h=>by cases h⟩
 | false=>
   have h1:=h0
   simp only [Tz.sizeOver,Bool.or_eq_false_iff,decide_eq_false_iff_not] at h1
   exact ⟨_,e_small s ⟨by omega,by omega,by omega⟩,fun h=>Tz.small_fit h0 h⟩
def longEv (x:Ev):Bool:=decide (60 < (x.src.size:Int))
theorem lp_sm15 (nz:Bool)(l:List Ev)(hl:l.length < 1000000)(e:Env)(H:Heap)(h0:Gs.get e 0=evs nz l)(h5:Gs.get e 5=int 0) :
   Ends T 34004 e H (fun X e' H'=>match l.any longEv with | true=>X = .ret∧Gs.get e' 4 = .bool false | false=>X = .ex 0):=by
 refine (loop_anyH (T:=T) (key:=34004) (li:=l34004.1) rfl l longEv (fun i e H=>Gs.get e 0=evs nz l∧Gs.get e 5=int i)
   (fun X e' H'=>X = .ret∧Gs.get e' 4 = .bool false) (fun X e' H'=>X = .ex 0) ?_ ?_ e H ⟨h0,h5⟩).mono fun X e' H' h=>by cases hf:l.any longEv<;>rw [hf] at h<;>exact h
 · rintro i x e H hx hi ⟨h0,h5⟩
   have hx':(l.map Ev.enc)[i]?=some x.enc:=by simp [hx]
   cases hp:longEv x<;>unfold longEv at hp<;>simp only [↓eA,eB,seval,l34004,h0,h5,hi,hx',hp,List.length_map,wrap_succ (show i < 4611686018427387904 by omega)]<;>and_intros<;>first | trivial | rfl
 · rintro e H ⟨h0,h5⟩
   simp only [↓eA,eB,seval,l34004,h0,h5,List.length_map,Nat.lt_irrefl]
   and_intros<;>first | trivial | rfl
theorem small15 (nz:Bool)(l:List Ev):∃ v,L.call 34 [evs nz l,int 8] []=some (.bool v,[])∧(v=true→l.length≤8):=by
 cases h:decide (8 < (l.length:Int)) with
 | true=>exact ⟨false,call_eq rfl rfl (by simp only [↓eA,eB,seval,c34,h,List.length_map]),fun h=>by cases h⟩
 | false=>
   have hl:l.length≤8:=by simp only [decide_eq_false_iff_not] at h; omega
   refine ⟨!l.any longEv,call_eq rfl rfl ?_,fun _=>hl⟩
   simp only [↓eA,eB,seval,c34,h,List.length_map]
   generalize hE:(lim T).loop 34004 _ _=R
   obtain ⟨X,e',H',rfl,hp⟩:=Ends.at hE (lp_sm15 nz l (by omega) _ _ (by simp only [↓eA,eB,seval]) (by simp only [↓eA,eB,seval]))
   cases ha:l.any longEv with
   | true=>rw [ha] at hp; obtain ⟨rfl,g⟩:=hp; simp only [↓eA,eB,seval,g]
   | false=>rw [ha] at hp; subst hp; simp only [↓eA,eB,seval]
theorem small16 (s:Survey)(nz:Bool)(l:List Ev)(b:Box):∃ v,L.call 11 [s.enc,evs nz l,b.enc] []=some (.bool v,[])∧(v=true→s.Fit∧l.length≤8):=by
 obtain ⟨w,e1,hw⟩:=small13' s
 obtain ⟨u,e2,hu⟩:=small15 nz l
 cases w with
 | false=>exact ⟨false,call_eq rfl rfl (by simp only [↓eA,eB,seval,c11,e1]),fun h=>by cases h⟩
 | true=>
 cases h1:decide ((s.beds.length:Int)≤8) with
 | false=>exact ⟨false,call_eq rfl rfl (by simp only [↓eA,eB,seval,c11,e1,List.length_map,h1]),fun h=>by cases h⟩
 | true=>
 cases h2:decide ((s.joints.length:Int)≤8) with
 | false=>exact ⟨false,call_eq rfl rfl (by simp only [↓eA,eB,seval,c11,e1,List.length_map,h1,h2]),fun h=>by cases h⟩
 | true=>
 cases h3:decide ((s.flaws.length:Int)≤6) with
 | false=>exact ⟨false,call_eq rfl rfl (by simp only [↓eA,eB,seval,c11,e1,List.length_map,h1,h2,h3]),fun h=>by cases h⟩
 | true=>exact ⟨u,call_eq rfl rfl (by simp only [↓eA,eB,seval,c11,e1,List.length_map,h1,h2,h3,e2]),fun h=>⟨hw rfl,hu h⟩⟩
def legalErr (s:Survey)(l:List Ev)(b:Box):Int:=bif decide (surveyErr s=0) then bif decide (evErr l=0) then boxErr b else evErr l else surveyErr s
theorem legal_ok {s:Survey}{l:List Ev}{b:Box}(h:legalErr s l b=0):surveyErr s=0∧evErr l=0∧boxErr b=0:=by
 unfold legalErr at h
 cases h1:decide (surveyErr s=0) with
 | false=>rw [h1] at h; exact absurd h (of_decide_eq_false h1)
 | true=>
 cases h2:decide (evErr l=0) with
 | false=>rw [h1,h2] at h; exact absurd h (of_decide_eq_false h2)
 | true=>rw [h1,h2] at h; exact ⟨of_decide_eq_true h1,of_decide_eq_true h2,h⟩
theorem ok_legal {s:Survey}{l:List Ev}{b:Box}(h1:surveyErr s=0)(h2:evErr l=0)(h3:boxErr b=0):legalErr s l b=0:=by
 unfold legalErr
 rw [h1,h2,h3]
 rfl
theorem e_rkCheck (s:Survey)(hF:s.Fit)(nz:Bool)(l:List Ev)(hl:l.length < 1000000)(b:Box):L.call 36 [.agg (rockc s nz l),b.enc] []=some (int (legalErr s l b),[]):=
 call_eq rfl rfl (by
   have h1:=e_pCheck s hF
   have h2:=e_mCheck nz l hl
   have h3:=e_bCheck b
   unfold legalErr
   cases hc:decide (surveyErr s=0) with
   | false=>simp only [↓eA,eB,seval,c36,h1,hc]
   | true=>
   cases hd:decide (evErr l=0) with
   | false=>simp only [↓eA,eB,seval,c36,h1,hc,h2,hd]
   | true=>simp only [↓eA,eB,seval,c36,h1,hc,h2,hd,h3])
def sfW (s:Survey)(l:List Ev)(b:Box):Wit:=bif decide (legalErr s l b=0) then findR' s l b else zW
theorem e_sFind (s:Survey)(hF:s.Fit)(nz:Bool)(l:List Ev)(hl:l.length < 1000000)(b:Box):L.call 13 [s.enc,evs nz l,b.enc] []=some (.tup [.agg (witc (sfW s l b)),int (legalErr s l b)],[]):=
 call_eq rfl rfl (by
   have h1:=e_rkCheck s hF nz l hl b
   unfold sfW
   cases hc:decide (legalErr s l b=0) with
   | false=>simp only [↓eA,eB,seval,c13,h1,hc]<;>rfl
   | true=>
     obtain ⟨_,g2,g3⟩:=legal_ok (of_decide_eq_true hc)
     have h2:=e_rFind s hF nz l hl b g2 g3
     rw [of_decide_eq_true hc] at h1 ⊢
     simp only [↓eA,eB,seval,c13,h1,h2]<;>rfl)
def isB (s:Survey)(l:List Ev)(b:Box):Bool:=decide (legalErr s l b=0) && decide ((sfW s l b).kind=0)
theorem e_sIs (s:Survey)(hF:s.Fit)(nz:Bool)(l:List Ev)(hl:l.length < 1000000)(b:Box):L.call 14 [s.enc,evs nz l,b.enc] []=some (.tup [.bool (isB s l b),int (legalErr s l b)],[]):=
 call_eq rfl rfl (by
   have h1:=e_sFind s hF nz l hl b
   unfold isB
   cases hc:decide (legalErr s l b=0) with
   | false=>simp only [↓eA,eB,seval,c14,h1,hc]
   | true=>simp only [↓eA,eB,seval,c14,h1,hc])
def unsV (s:Survey)(l:List Ev)(b:Box):Int:=bif decide (legalErr s l b=0) then volS l b 0 else 0
theorem e_sUnseen (s:Survey)(hF:s.Fit)(nz:Bool)(l:List Ev)(hl:l.length < 1000000)(b:Box):L.call 24 [s.enc,evs nz l,b.enc] []=some (.tup [int (unsV s l b),int (legalErr s l b)],[]):=
 call_eq rfl rfl (by
   have h1:=e_rkCheck s hF nz l hl b
   unfold unsV
   cases hc:decide (legalErr s l b=0) with
   | false=>simp only [↓eA,eB,seval,c24,h1,hc]
   | true=>
     obtain ⟨_,g2,g3⟩:=legal_ok (of_decide_eq_true hc)
     have h2:=e_mVolume nz l hl b 0 g2 g3 ⟨by decide,by decide⟩
     rw [of_decide_eq_true hc] at h1 ⊢
     simp only [↓eA,eB,seval,c24,h1,h2])
theorem ev_st {l:List Ev}(h:evErr l=0):evSt l:=by
 unfold evErr at h
 cases h1:decide (256 < (l.length:Int)) with
 | true=>rw [h1] at h; cases h
 | false=>
 cases h2:l.any (fun x=>!labelB x.src) with
 | true=>rw [h1,h2] at h; cases h
 | false=>
 rw [h1,h2] at h
 cases h3:l.find? evBox with
 | some x=>
   rw [h3] at h
   have:=List.find?_some h3
   simp only [evBox,Bool.not_eq_true',decide_eq_false_iff_not] at this
   exact absurd h this
 | none=>
   rw [h3] at h
   cases h4:l.any evBad with
   | true=>rw [h4] at h; cases h
   | false=>
     intro e he
     have:=List.any_eq_false.1 h4 e he
     simp only [evBad,Bool.and_eq_true,Bool.not_eq_true',decide_eq_false_iff_not] at this
     omega
theorem box3 {b:Box}(h:boxErr b=0):b.x0 < b.x1∧b.y0 < b.y1∧b.z0 < b.z1:=by
 have:=boxErr_in h
 omega
theorem cellR_ok {l:List Ev}(hl:evErr l=0){b:Box}(hb:boxErr b=0):CellW l b (cellR l b):=cellF_ok (ev_st hl) fun n=>first_least (box3 hb) l n
theorem find_sound {s:Survey}{l:List Ev}{b:Box}(h:legalErr s l b=0):(sfW s l b).kind=0↔SoundOk s l b:=by
 obtain ⟨_,h2,h3⟩:=legal_ok h
 unfold sfW
 rw [decide_eq_true h]
 exact find_zero (cellR_ok h2 h3)
theorem uns_eq {s:Survey}{l:List Ev}{b:Box}(h:legalErr s l b=0):unsV s l b=cellsN (stAt l) 0 b:=by
 unfold unsV
 rw [decide_eq_true h]
 exact vol_cellsN (legal_ok h).2.2 l 0
end Tz.C18
set_option maxRecDepth 100000
open Gs Go
namespace Tz.C18
theorem lp_sidx (nz:Bool)(l:List ByteArray)(hl:l.length < 1000000000000)(n:ByteArray)(e:Env)(H:Heap)(h0:Gs.get e 0=strz' nz l)(h1:Gs.get e 1 = .str n)(h7:Gs.get e 7=int l.length)(h8:Gs.get e 8=int 0)(hH:H=[]) :
   Ends T 93002 e H (fun X e' H'=>match l.findIdx? (seq n) with | some j=>X = .ret∧Gs.get e' 4=int j | none=>X = .ex 0):=by
 refine (loop_thru (T:=T) (key:=93002) (li:=l93002.1) rfl (fun (i:Nat) x=>bif seq n x then .inl i else .inr (i + 1)) l
   (fun i t e H=>t=i∧Gs.get e 0=strz' nz l∧Gs.get e 1 = .str n∧Gs.get e 7=int l.length∧Gs.get e 8=int i∧H=[])
   (fun i X e' H'=>X = .ret∧Gs.get e' 4=int i) (fun _ X e' H'=>X = .ex 0) ?_ ?_ ?_ l [] 0 e H rfl ⟨rfl,h0,h1,h7,h8,hH⟩).mono fun X e' H' h=>?_
 · rintro i x t t' e H hx ⟨rfl,h0,h1,h7,h8,rfl⟩ hf
   have hi:=(List.getElem?_eq_some_iff.1 hx).1
   have hx':(l.map D.str)[t]?=some (.str x):=by simp [hx]
   have hn:seq n x=false:=by cases hb:seq n x<;>simp_all
   rw [hn] at hf
   injection hf with hf; subst hf
   simp only [↓eA,eB,seval,l93002,h0,h1,h7,h8,hi,hx',hn,List.length_map,wrap_succ (show t < 4611686018427387904 by omega)]
   and_intros<;>first | trivial | rfl
 · rintro i x t r e H hx ⟨rfl,h0,h1,h7,h8,rfl⟩ hf
   have hi:=(List.getElem?_eq_some_iff.1 hx).1
   have hx':(l.map D.str)[t]?=some (.str x):=by simp [hx]
   have hn:seq n x=true:=by cases hb:seq n x<;>simp_all
   rw [hn] at hf
   injection hf with hf; subst hf
   simp only [↓eA,eB,seval,l93002,h0,h1,h7,h8,hi,hx',hn,List.length_map]
   and_intros<;>first | trivial | rfl
 · rintro t e H ⟨rfl,h0,h1,h7,h8,rfl⟩
   simp only [↓eA,eB,seval,l93002,h0,h1,h7,h8,Nat.lt_irrefl]
   and_intros<;>first | trivial | rfl
 · rw [thru_idx] at h
   cases hd:l.findIdx? (seq n)<;>rw [hd] at h
   · exact h
   · simpa using h
theorem e_sidx (nz:Bool)(l:List ByteArray)(hl:l.length < 1000000000000)(n:ByteArray):L.call 93 [strz' nz l,.str n] []=some (int (idxOf (seq n) l),[]):=
 call_eq rfl rfl (by
   simp only [↓eA,eB,seval,c93,List.length_map]
   generalize hE:(lim T).loop 93002 _ _=R
   obtain ⟨X,e',H',rfl,hp⟩:=Ends.at hE (lp_sidx nz l hl n _ _ (by simp only [↓eA,eB,seval]) (by simp only [↓eA,eB,seval]) (by simp only [↓eA,eB,seval]) (by simp only [↓eA,eB,seval]) rfl)
   unfold idxOf
   cases hf:l.findIdx? (seq n) with
   | some j=>rw [hf] at hp; obtain ⟨rfl,g4⟩:=hp; simp only [↓eA,eB,seval,g4]
   | none=>rw [hf] at hp; subst hp; simp only [↓eA,eB,seval])
theorem e_scon (nz:Bool)(l:List ByteArray)(hl:l.length < 1000000000000)(n:ByteArray):L.call 55 [strz' nz l,.str n] []=some (.bool (l.any (seq n)),[]):=
 call_eq rfl rfl (by simp only [↓eA,eB,seval,c55,e_sidx nz l hl n,idxOf_ge])
end Tz.C18
set_option maxRecDepth 100000
open Gs Go
namespace Tz.C18
theorem e_awake16:L.call 12 [] []=some (.bool true,[]):=Aw.aw_run
end Tz.C18
set_option maxRecDepth 100000
open Gs Go
namespace Tz.C18
theorem in_out {b p:Box} : insideB b p=true↔outOf b p=false:=by rw [out_inside]; cases insideB b p<;>simp
inductive FindIs (s:Survey) (l:List Ev) (b:Box):Wit→Prop
 | cell (w:Wit) (h1:w.kind=1) (h2:w=⟨1,.empty,w.cell,w.st⟩) (h3:b.has w.cell=true) (h4:stAt l w.cell=w.st) (h5:w.st≠1):FindIs s l b w
 | flaw (a:ByteArray) (r:List ByteArray) (h:flawsR s b=a :: r):FindIs s l b ⟨2,a,⟨0,0,0⟩,0⟩
 | bed (a:ByteArray) (r:List ByteArray) (h:bedsT s b=a :: r):FindIs s l b ⟨3,a,⟨0,0,0⟩,0⟩
 | joint (a:ByteArray) (r:List ByteArray) (h:jntsT s b=a :: r):FindIs s l b ⟨4,a,⟨0,0,0⟩,0⟩
 | none:FindIs s l b zW
theorem sf_find {s:Survey}{l:List Ev}{b:Box}(h:legalErr s l b=0):sfW s l b=findR' s l b:=by
 unfold sfW
 rw [decide_eq_true h]
 rfl
end Tz.C18
set_option maxRecDepth 100000
open Gs Go
namespace Tz.C18
theorem e_rSound (s:Survey)(hF:s.Fit)(nz:Bool)(l:List Ev)(hl:l.length < 1000000)(b:Box)(he:evErr l=0)(hb:boxErr b=0):L.call 51 [.agg (rockc s nz l),b.enc] []=some (.bool (decide ((findR' s l b).kind=0)),[]):=
 call_eq rfl rfl (by
   have h1:=e_rFind s hF nz l hl b he hb
   simp only [↓eA,eB,seval,c51,h1]<;>rfl)
def sndB (s:Survey)(l:List Ev)(b:Box):Bool:=decide ((findR' s l b).kind=0)
end Tz.C18
set_option maxRecDepth 100000
open Gs Go
namespace Tz.C18
end Tz.C18
set_option maxRecDepth 100000
open Gs Go
namespace Tz.C18
theorem e_at0 (x y z:Int):L.call 22 [.agg [int x,int y,int z],int 0] []=some (int x,[]):=e_rAt x y z 0
theorem e_at1 (x y z:Int):L.call 22 [.agg [int x,int y,int z],int 1] []=some (int y,[]):=e_rAt x y z 1
theorem e_at2 (x y z:Int):L.call 22 [.agg [int x,int y,int z],int 2] []=some (int z,[]):=e_rAt x y z 2
theorem snd_legal {s:Survey}{l:List Ev}{b c:Box}(h:legalErr s l b=0)(hc:boxErr c=0):legalErr s l c=0:=ok_legal (legal_ok h).1 (legal_ok h).2.1 hc
end Tz.C18
