/- Lists of intervals; span.Normalize; survey.Open; survey.Jointed; Boxes that are clear of each other; Boxes and their errors; support.find; support.LeansOn and Carries; no conditions. -/
import Derived.Test.YtboigolndjinhaaGreatS8toS12
import Derived.Sort.AssemblyPlain
import Derived.Test.YtboigolndjinhaaGreatGsF
set_option linter.all false
set_option maxRecDepth 100000
open Gs Go
namespace Tz
def ivFar (x:Int×Int):Bool:=!(decide (-1000000000000≤x.1) && decide (x.1≤1000000000000)) || !(decide (-1000000000000≤x.2) && decide (x.2≤1000000000000))
def ivRev (x:Int×Int):Bool:=decide (x.2 < x.1)
def ivErr (l:List (Int×Int)):Int:=bif l.any ivFar then 6 else bif l.any ivRev then 1 else 0
theorem e_spanNear (n:Int):L.call 265 [int n] []=some (.bool (decide (-1000000000000≤n) && decide (n≤1000000000000)),[]):=
 call_eq rfl rfl (by simp only [↓eA,eB,reduceIte,Nat.reduceBEq,Int.reduceNeg,Int.reduceLT,Int.reduceLE,Int.reduceAdd,Int.reduceSub,Int.reduceMul,Int.reduceEq,Int.reduceToNat,Nat.reduceLT,Nat.reduceAdd,Nat.reduceMul,Nat.reduceSub,c265])
theorem lp_sc1 (nz:Bool)(l:List (Int×Int))(hb:l.length < 4000000000)(e:Env)(H:Heap)(h0:Gs.get e 0 = .fz nz 2 (l.map ivD))(h7:Gs.get e 7 = .fz nz 2 (l.map ivD))(h8:Gs.get e 8=int l.length)(h9:Gs.get e 9=int 0) :
   Ends T 254002 e H (fun X e' H'=>match l.any ivFar with | true=>X = .ret∧Gs.get e' 2=int 6 | false=>X = .ex 0∧Gs.get e' 0 = .fz nz 2 (l.map ivD)∧H'=[]):=by
 refine loop_anyH (T:=T) (key:=254002) (li:=l254002.1) rfl l ivFar (fun i e H=>Gs.get e 0 = .fz nz 2 (l.map ivD)∧Gs.get e 7 = .fz nz 2 (l.map ivD)∧Gs.get e 8=int l.length∧Gs.get e 9=int i) (fun X e' H'=>X = .ret∧Gs.get e' 2=int 6) (fun X e' H'=>X = .ex 0∧Gs.get e' 0 = .fz nz 2 (l.map ivD)∧H'=[]) ?_ ?_ e H ⟨h0,h7,h8,h9⟩
 · rintro i x e H hx hi ⟨h0,h7,h8,h9⟩
   have hx':(l.map ivD)[i]?=some (.agg [int x.1,int x.2]):=by simp [hx,ivD]
   simp only [↓eA,eB,reduceIte,Nat.reduceBEq,Int.reduceNeg,Int.reduceLT,Int.reduceLE,Int.reduceAdd,Int.reduceSub,Int.reduceMul,Int.reduceEq,Int.reduceToNat,Nat.reduceLT,Nat.reduceAdd,Nat.reduceMul,Nat.reduceSub,l254002,h0,h7,h8,h9,hi,hx',e_spanNear,wrap_succ (show i < 4611686018427387904 by omega)]
   cases hc:ivFar x<;>simp only [ivFar] at hc<;>simp only [↓eA,eB,reduceIte,Nat.reduceBEq,Int.reduceNeg,Int.reduceLT,Int.reduceLE,Int.reduceAdd,Int.reduceSub,Int.reduceMul,Int.reduceEq,Int.reduceToNat,Nat.reduceLT,Nat.reduceAdd,Nat.reduceMul,Nat.reduceSub,hc]<;>and_intros<;>first | trivial | rfl
 · rintro e H ⟨h0,h7,h8,h9⟩
   simp only [↓eA,eB,reduceIte,Nat.reduceBEq,Int.reduceNeg,Int.reduceLT,Int.reduceLE,Int.reduceAdd,Int.reduceSub,Int.reduceMul,Int.reduceEq,Int.reduceToNat,Nat.reduceLT,Nat.reduceAdd,Nat.reduceMul,Nat.reduceSub,l254002,h0,h7,h8,h9,Nat.lt_irrefl]
   and_intros<;>first | trivial | rfl
theorem lp_sc2 (nz:Bool)(l:List (Int×Int))(hb:l.length < 4000000000)(e:Env)(H:Heap)(h7:Gs.get e 24 = .fz nz 2 (l.map ivD))(h8:Gs.get e 25=int l.length)(h9:Gs.get e 26=int 0) :
   Ends T 254008 e H (fun X e' H'=>match l.any ivRev with | true=>X = .ret∧Gs.get e' 2=int 1 | false=>X = .ex 2):=by
 refine loop_anyH (T:=T) (key:=254008) (li:=l254008.1) rfl l ivRev (fun i e H=>Gs.get e 24 = .fz nz 2 (l.map ivD)∧Gs.get e 25=int l.length∧Gs.get e 26=int i) (fun X e' H'=>X = .ret∧Gs.get e' 2=int 1) (fun X e' H'=>X = .ex 2) ?_ ?_ e H ⟨h7,h8,h9⟩
 · rintro i x e H hx hi ⟨h7,h8,h9⟩
   have hx':(l.map ivD)[i]?=some (.agg [int x.1,int x.2]):=by simp [hx,ivD]
   simp only [↓eA,eB,reduceIte,Nat.reduceBEq,Int.reduceNeg,Int.reduceLT,Int.reduceLE,Int.reduceAdd,Int.reduceSub,Int.reduceMul,Int.reduceEq,Int.reduceToNat,Nat.reduceLT,Nat.reduceAdd,Nat.reduceMul,Nat.reduceSub,l254008,h7,h8,h9,hi,hx',wrap_succ (show i < 4611686018427387904 by omega)]
   cases hc:ivRev x<;>simp only [ivRev] at hc<;>simp only [↓eA,eB,reduceIte,Nat.reduceBEq,Int.reduceNeg,Int.reduceLT,Int.reduceLE,Int.reduceAdd,Int.reduceSub,Int.reduceMul,Int.reduceEq,Int.reduceToNat,Nat.reduceLT,Nat.reduceAdd,Nat.reduceMul,Nat.reduceSub,hc]<;>and_intros<;>first | trivial | rfl
 · rintro e H ⟨h7,h8,h9⟩
   simp only [↓eA,eB,reduceIte,Nat.reduceBEq,Int.reduceNeg,Int.reduceLT,Int.reduceLE,Int.reduceAdd,Int.reduceSub,Int.reduceMul,Int.reduceEq,Int.reduceToNat,Nat.reduceLT,Nat.reduceAdd,Nat.reduceMul,Nat.reduceSub,l254008,h7,h8,h9,Nat.lt_irrefl]
   and_intros<;>first | trivial | rfl
theorem e_spanCheck (nz:Bool)(l:List (Int×Int))(hb:l.length < 4000000000):L.call 254 [.fz nz 2 (l.map ivD)] []=some (int (ivErr l),[]):=
 call_eq rfl rfl (by
   unfold ivErr
   simp only [↓eA,eB,reduceIte,Nat.reduceBEq,Int.reduceNeg,Int.reduceLT,Int.reduceLE,Int.reduceAdd,Int.reduceSub,Int.reduceMul,Int.reduceEq,Int.reduceToNat,Nat.reduceLT,Nat.reduceAdd,Nat.reduceMul,Nat.reduceSub,c254]
   generalize hE:(lim T).loop 254002 _ _=R
   obtain ⟨X,e',H',rfl,hP⟩:=Ends.at hE (lp_sc1 nz l hb _ _ rfl rfl rfl rfl)
   cases hc:l.any ivFar with
   | true=>rw [hc] at hP; obtain ⟨rfl,g⟩:=hP; simp only [↓eA,eB,reduceIte,Nat.reduceBEq,Int.reduceNeg,Int.reduceLT,Int.reduceLE,Int.reduceAdd,Int.reduceSub,Int.reduceMul,Int.reduceEq,Int.reduceToNat,Nat.reduceLT,Nat.reduceAdd,Nat.reduceMul,Nat.reduceSub,g]
   | false=>
     rw [hc] at hP; obtain ⟨rfl,g0,rfl⟩:=hP
     simp only [↓eA,eB,reduceIte,Nat.reduceBEq,Int.reduceNeg,Int.reduceLT,Int.reduceLE,Int.reduceAdd,Int.reduceSub,Int.reduceMul,Int.reduceEq,Int.reduceToNat,Nat.reduceLT,Nat.reduceAdd,Nat.reduceMul,Nat.reduceSub,g0]
     generalize hE:(lim T).loop 254008 _ _=R
     obtain ⟨X,e',H',rfl,hP⟩:=Ends.at hE (lp_sc2 nz l hb _ _ (by simp only [↓eA,eB,reduceIte,Nat.reduceBEq,Int.reduceNeg,Int.reduceLT,Int.reduceLE,Int.reduceAdd,Int.reduceSub,Int.reduceMul,Int.reduceEq,Int.reduceToNat,Nat.reduceLT,Nat.reduceAdd,Nat.reduceMul,Nat.reduceSub]) (by simp only [↓eA,eB,reduceIte,Nat.reduceBEq,Int.reduceNeg,Int.reduceLT,Int.reduceLE,Int.reduceAdd,Int.reduceSub,Int.reduceMul,Int.reduceEq,Int.reduceToNat,Nat.reduceLT,Nat.reduceAdd,Nat.reduceMul,Nat.reduceSub]) (by simp only [↓eA,eB,reduceIte,Nat.reduceBEq,Int.reduceNeg,Int.reduceLT,Int.reduceLE,Int.reduceAdd,Int.reduceSub,Int.reduceMul,Int.reduceEq,Int.reduceToNat,Nat.reduceLT,Nat.reduceAdd,Nat.reduceMul,Nat.reduceSub]))
     cases hc:l.any ivRev with
     | true=>rw [hc] at hP; obtain ⟨rfl,g⟩:=hP; simp only [↓eA,eB,reduceIte,Nat.reduceBEq,Int.reduceNeg,Int.reduceLT,Int.reduceLE,Int.reduceAdd,Int.reduceSub,Int.reduceMul,Int.reduceEq,Int.reduceToNat,Nat.reduceLT,Nat.reduceAdd,Nat.reduceMul,Nat.reduceSub,g]
     | false=>rw [hc] at hP; subst hP; simp only [↓eA,eB,reduceIte,Nat.reduceBEq,Int.reduceNeg,Int.reduceLT,Int.reduceLE,Int.reduceAdd,Int.reduceSub,Int.reduceMul,Int.reduceEq,Int.reduceToNat,Nat.reduceLT,Nat.reduceAdd,Nat.reduceMul,Nat.reduceSub])
theorem lt0 (n:Nat):decide ((n:Int) < 0)=false:=by simp
theorem e_grow (n:Nat)(hn:n < 4000000000):L.call 266 [.fz true 2 [],int n] []=some (if 0 < n then (.ow 600000,[(600000,.row false 2 [] 0 true)]) else (.fz true 2 [],[])):=
 call_eq rfl rfl (by
   by_cases hz:0 < n
   · have hz':decide ((0:Int) < n)=true:=by simpa using hz
     have hfit:fits n 16=true:=by simp [fits]; omega
     have hw:IntKind.i64.wrap ((n:Int) - 0)=n:=by simp only [Int.sub_zero]; exact wrap_nat (by omega)
     have h00:inc 0 0=true:=rfl
     have h0n:inc 0 n=true:=by simp [inc]
     have hc0:cut ([]:List D) 0 0=[]:=rfl
     have hcr:cut (List.replicate n (D.agg [.int .i64 0,.int .i64 0])) 0 0=[]:=by simp [cut]
     simp only [↓eA,eB,reduceIte,Nat.reduceBEq,Int.reduceNeg,Int.reduceLT,Int.reduceLE,Int.reduceAdd,Int.reduceSub,Int.reduceMul,Int.reduceEq,Int.reduceToNat,Nat.reduceLT,Nat.reduceAdd,Nat.reduceMul,Nat.reduceSub,c266,lt0,hw,hz',hfit,h00,h0n,hc0,hcr,List.isEmpty_nil,Int.toNat_natCast,List.length_replicate,Nat.zero_le,Nat.zero_add,Nat.sub_zero,Nat.zero_sub]
     rw [if_pos hz]
   · have hz':decide ((0:Int) < n)=false:=by simp; omega
     have hn0:n=0:=by omega
     subst hn0
     simp only [↓eA,eB,reduceIte,Nat.reduceBEq,Int.reduceNeg,Int.reduceLT,Int.reduceLE,Int.reduceAdd,Int.reduceSub,Int.reduceMul,Int.reduceEq,Int.reduceToNat,Nat.reduceLT,Nat.reduceAdd,Nat.reduceMul,Nat.reduceSub,c266])
abbrev encL (p:Bool×List (Int×Int)):D:=.fz p.1 2 (p.2.map ivD)
def total:List (Bool×List (Int×Int))→Nat
 | []=>0
 | p :: r=>p.2.length + total r
theorem foldl_total:∀ (l:List (Bool×List (Int×Int))) (a:Nat),l.foldl (fun s p=>s + p.2.length) a=a + total l
 | [],a=>rfl
 | p :: r,a=>by simp only [List.foldl_cons,foldl_total r,total]; omega
theorem total_take (l:List (Bool×List (Int×Int))):∀ i p,l[i]?=some p→total (l.take i) + p.2.length≤total l:=by
 induction l with
 | nil=>intro i p h; simp at h
 | cons q r ih=>
   intro i p h
   cases i with
   | zero=>simp at h; subst h; simp [total]
   | succ i=>simp at h; have:=ih i p h; simp only [List.take_succ_cons,total]; omega
theorem total_take_succ (l:List (Bool×List (Int×Int))):∀ i p,l[i]?=some p→total (l.take (i + 1))=total (l.take i) + p.2.length:=by
 induction l with
 | nil=>intro i p h; simp at h
 | cons q r ih=>
   intro i p h
   cases i with
   | zero=>simp at h; subst h; simp [total]
   | succ i=>simp at h; have:=ih i p h; simp only [List.take_succ_cons,total,this]; omega
theorem lp_cc1 (nz:Bool)(xss:List (Bool×List (Int×Int)))(hb:xss.length < 1000000000)(ht:total xss < 4000000000)(e:Env)(H:Heap)(h0:Gs.get e 0 = .fz nz 1 (xss.map encL))(h3:Gs.get e 3=int (0:Nat))(h9:Gs.get e 9 = .fz nz 1 (xss.map encL))(h10:Gs.get e 10=int xss.length)(h11:Gs.get e 11=int 0) :
   Ends T 255003 e H (fun X e' H'=>X = .ex 0∧Gs.get e' 0 = .fz nz 1 (xss.map encL)∧Gs.get e' 3=int (total xss)∧H'=[]):=by
 refine (loop_fold (T:=T) (key:=255003) (li:=l255003.1) rfl xss (fun s p=>s + p.2.length) (fun i a e H=>a=total (xss.take i)∧Gs.get e 0 = .fz nz 1 (xss.map encL)∧Gs.get e 3=int a∧Gs.get e 9 = .fz nz 1 (xss.map encL)∧Gs.get e 10=int xss.length∧Gs.get e 11=int i) (fun a X e' H'=>X = .ex 0∧Gs.get e' 0 = .fz nz 1 (xss.map encL)∧Gs.get e' 3=int a∧H'=[]) ?_ ?_ 0 e H ⟨rfl,h0,h3,h9,h10,h11⟩).mono ?_
 · rintro i p a e H hx hi ⟨ha,h0,h3,h9,h10,h11⟩
   have hx':(xss.map encL)[i]?=some (encL p):=by simp [hx]
   have htt:=total_take xss i p hx
   have hts:=total_take_succ xss i p hx
   have hw:IntKind.i64.wrap ((a:Int) + (p.2.length:Int))=((a + p.2.length:Nat):Int):=by
     rw [←Int.natCast_add]; exact wrap_nat (by omega)
   simp only [↓eA,eB,reduceIte,Nat.reduceBEq,Int.reduceNeg,Int.reduceLT,Int.reduceLE,Int.reduceAdd,Int.reduceSub,Int.reduceMul,Int.reduceEq,Int.reduceToNat,Nat.reduceLT,Nat.reduceAdd,Nat.reduceMul,Nat.reduceSub,l255003,h0,h3,h9,h10,h11,hi,hx',hw,lt0,wrap_succ (show i < 4611686018427387904 by omega)]
   refine ⟨trivial,by omega,?_⟩
   and_intros<;>first | trivial | rfl
 · rintro a e H ⟨ha,h0,h3,h9,h10,h11⟩
   simp only [↓eA,eB,reduceIte,Nat.reduceBEq,Int.reduceNeg,Int.reduceLT,Int.reduceLE,Int.reduceAdd,Int.reduceSub,Int.reduceMul,Int.reduceEq,Int.reduceToNat,Nat.reduceLT,Nat.reduceAdd,Nat.reduceMul,Nat.reduceSub,l255003,h0,h3,h9,h10,h11,Nat.lt_irrefl]
   and_intros<;>first | trivial | rfl
 · rintro X e' H' ⟨hX,g0,g3,hH⟩
   refine ⟨hX,g0,?_,hH⟩
   rw [g3,foldl_total,Nat.zero_add]
theorem lp_cc2 (nz b:Bool)(xss:List (Bool×List (Int×Int)))(hb:xss.length < 1000000000)(ht:total xss < 4000000000)(e:Env)(H:Heap)(h6:Gs.get e 6 = .ow 1006)(h9:Gs.get e 25 = .fz nz 1 (xss.map encL))(h10:Gs.get e 26=int xss.length)(h11:Gs.get e 27=int 0)(hH:hget H 1006=some (.row b 2 [] 0 true))(hH1:hget H 10480=none)(hH2:hget H 10481=none) :
   Ends T 255011 e H (fun X e' H'=>X = .ex 2∧Gs.get e' 6 = .ow 1006∧H'=[(1006,.row b 2 (((xss.map Prod.snd).flatten).map ivD) 0 true)]):=by
 refine (loop_fold (T:=T) (key:=255011) (li:=l255011.1) rfl xss (fun s p=>s ++ p.2) (fun i a e H=>a.length=total (xss.take i)∧Gs.get e 6 = .ow 1006∧Gs.get e 25 = .fz nz 1 (xss.map encL)∧Gs.get e 26=int xss.length∧Gs.get e 27=int i∧hget H 1006=some (.row b 2 (a.map ivD) 0 true)∧hget H 10480=none∧hget H 10481=none) (fun a X e' H'=>X = .ex 2∧Gs.get e' 6 = .ow 1006∧H'=[(1006,.row b 2 (a.map ivD) 0 true)]) ?_ ?_ [] e H ⟨rfl,h6,h9,h10,h11,hH,hH1,hH2⟩).mono ?_
 · rintro i p a e H hx hi ⟨ha,h6,h9,h10,h11,hH,hH1,hH2⟩
   have hx':(xss.map encL)[i]?=some (encL p):=by simp [hx]
   have htt:=total_take xss i p hx
   have hts:=total_take_succ xss i p hx
   have hfit:fits (a.length + p.2.length) 16=true:=by simp [fits]; omega
   have hlen:(a ++ p.2).length=total (xss.take (i + 1)):=by simp; omega
   simp only [↓eA,eB,reduceIte,Nat.reduceBEq,Int.reduceNeg,Int.reduceLT,Int.reduceLE,Int.reduceAdd,Int.reduceSub,Int.reduceMul,Int.reduceEq,Int.reduceToNat,Nat.reduceLT,Nat.reduceAdd,Nat.reduceMul,Nat.reduceSub,l255011,h6,h9,h10,h11,hH,hH1,hH2,hi,hx',hfit,wrap_succ (show i < 4611686018427387904 by omega),List.map_append]
   refine ⟨trivial,hlen,?_⟩
   and_intros<;>first | trivial | rfl
 · rintro a e H ⟨ha,h6,h9,h10,h11,hH,hH1,hH2⟩
   simp only [↓eA,eB,reduceIte,Nat.reduceBEq,Int.reduceNeg,Int.reduceLT,Int.reduceLE,Int.reduceAdd,Int.reduceSub,Int.reduceMul,Int.reduceEq,Int.reduceToNat,Nat.reduceLT,Nat.reduceAdd,Nat.reduceMul,Nat.reduceSub,l255011,h6,h9,h10,h11,hH,hH1,hH2,Nat.lt_irrefl]
   and_intros<;>first | trivial | rfl
 · rintro X e' H' ⟨hX,g6,hH⟩
   refine ⟨hX,g6,?_⟩
   have:∀ (l:List (Bool×List (Int×Int))) (a:List (Int×Int)),l.foldl (fun s p=>s ++ p.2) a=a ++ (l.map Prod.snd).flatten:=by
     intro l
     induction l with
     | nil=>intro a; simp
     | cons q r ih=>intro a; simp [ih]
   rw [hH,this,List.nil_append]
theorem e_concat (nz:Bool)(xss:List (Bool×List (Int×Int)))(hb:xss.length < 1000000000)(ht:total xss < 4000000000) :
   L.call 255 [.fz nz 1 (xss.map encL)] []=some (.fz (decide (total xss=0)) 2 (((xss.map Prod.snd).flatten).map ivD),[]):=
 call_eq rfl rfl (by
   simp only [↓eA,eB,reduceIte,Nat.reduceBEq,Int.reduceNeg,Int.reduceLT,Int.reduceLE,Int.reduceAdd,Int.reduceSub,Int.reduceMul,Int.reduceEq,Int.reduceToNat,Nat.reduceLT,Nat.reduceAdd,Nat.reduceMul,Nat.reduceSub,c255]
   generalize hE:(lim T).loop 255003 _ _=R
   obtain ⟨X,e',H',rfl,rfl,g0,g3,rfl⟩:=Ends.at hE (lp_cc1 nz xss hb ht _ _ rfl rfl rfl rfl rfl)
   by_cases hz:0 < total xss
   · have hg:=e_grow (total xss) ht
     rw [if_pos hz] at hg
     simp only [↓eA,eB,reduceIte,Nat.reduceBEq,Int.reduceNeg,Int.reduceLT,Int.reduceLE,Int.reduceAdd,Int.reduceSub,Int.reduceMul,Int.reduceEq,Int.reduceToNat,Nat.reduceLT,Nat.reduceAdd,Nat.reduceMul,Nat.reduceSub,g0,g3,hg,killE_nil]
     generalize hE2:(lim T).loop 255011 _ _=R
     obtain ⟨X,e2,H',rfl,rfl,g6,rfl⟩:=Ends.at hE2 (lp_cc2 nz false xss hb ht _ _ (by simp only [↓eA,eB,reduceIte,Nat.reduceBEq,Int.reduceNeg,Int.reduceLT,Int.reduceLE,Int.reduceAdd,Int.reduceSub,Int.reduceMul,Int.reduceEq,Int.reduceToNat,Nat.reduceLT,Nat.reduceAdd,Nat.reduceMul,Nat.reduceSub]) (by simp only [↓eA,eB,reduceIte,Nat.reduceBEq,Int.reduceNeg,Int.reduceLT,Int.reduceLE,Int.reduceAdd,Int.reduceSub,Int.reduceMul,Int.reduceEq,Int.reduceToNat,Nat.reduceLT,Nat.reduceAdd,Nat.reduceMul,Nat.reduceSub,get_killE,killD]) (by simp only [↓eA,eB,reduceIte,Nat.reduceBEq,Int.reduceNeg,Int.reduceLT,Int.reduceLE,Int.reduceAdd,Int.reduceSub,Int.reduceMul,Int.reduceEq,Int.reduceToNat,Nat.reduceLT,Nat.reduceAdd,Nat.reduceMul,Nat.reduceSub,get_killE,killD]) (by simp only [↓eA,eB,reduceIte,Nat.reduceBEq,Int.reduceNeg,Int.reduceLT,Int.reduceLE,Int.reduceAdd,Int.reduceSub,Int.reduceMul,Int.reduceEq,Int.reduceToNat,Nat.reduceLT,Nat.reduceAdd,Nat.reduceMul,Nat.reduceSub,get_killE,killD]) rfl rfl rfl)
     have hd:decide (total xss=0)=false:=by simp; omega
     simp only [↓eA,eB,reduceIte,Nat.reduceBEq,Int.reduceNeg,Int.reduceLT,Int.reduceLE,Int.reduceAdd,Int.reduceSub,Int.reduceMul,Int.reduceEq,Int.reduceToNat,Nat.reduceLT,Nat.reduceAdd,Nat.reduceMul,Nat.reduceSub,g6,hd]
   · have hg:=e_grow (total xss) ht
     rw [if_neg hz] at hg
     simp only [↓eA,eB,reduceIte,Nat.reduceBEq,Int.reduceNeg,Int.reduceLT,Int.reduceLE,Int.reduceAdd,Int.reduceSub,Int.reduceMul,Int.reduceEq,Int.reduceToNat,Nat.reduceLT,Nat.reduceAdd,Nat.reduceMul,Nat.reduceSub,g0,g3,hg,killE_nil]
     generalize hE2:(lim T).loop 255011 _ _=R
     obtain ⟨X,e2,H',rfl,rfl,g6,rfl⟩:=Ends.at hE2 (lp_cc2 nz true xss hb ht _ _ (by simp only [↓eA,eB,reduceIte,Nat.reduceBEq,Int.reduceNeg,Int.reduceLT,Int.reduceLE,Int.reduceAdd,Int.reduceSub,Int.reduceMul,Int.reduceEq,Int.reduceToNat,Nat.reduceLT,Nat.reduceAdd,Nat.reduceMul,Nat.reduceSub]) (by simp only [↓eA,eB,reduceIte,Nat.reduceBEq,Int.reduceNeg,Int.reduceLT,Int.reduceLE,Int.reduceAdd,Int.reduceSub,Int.reduceMul,Int.reduceEq,Int.reduceToNat,Nat.reduceLT,Nat.reduceAdd,Nat.reduceMul,Nat.reduceSub]) (by simp only [↓eA,eB,reduceIte,Nat.reduceBEq,Int.reduceNeg,Int.reduceLT,Int.reduceLE,Int.reduceAdd,Int.reduceSub,Int.reduceMul,Int.reduceEq,Int.reduceToNat,Nat.reduceLT,Nat.reduceAdd,Nat.reduceMul,Nat.reduceSub]) (by simp only [↓eA,eB,reduceIte,Nat.reduceBEq,Int.reduceNeg,Int.reduceLT,Int.reduceLE,Int.reduceAdd,Int.reduceSub,Int.reduceMul,Int.reduceEq,Int.reduceToNat,Nat.reduceLT,Nat.reduceAdd,Nat.reduceMul,Nat.reduceSub]) rfl rfl rfl)
     have hd:decide (total xss=0)=true:=by simp; omega
     simp only [↓eA,eB,reduceIte,Nat.reduceBEq,Int.reduceNeg,Int.reduceLT,Int.reduceLE,Int.reduceAdd,Int.reduceSub,Int.reduceMul,Int.reduceEq,Int.reduceToNat,Nat.reduceLT,Nat.reduceAdd,Nat.reduceMul,Nat.reduceSub,g6,hd])
theorem e_clone (l:List (Int×Int))(hb:l.length < 4000000000):L.call 256 [.fz true 2 (l.map ivD)] []=some (if l=[] then (.fz true 2 [],[]) else (.ow 600001,[(600001,.row false 2 (l.map ivD) 0 true)])):=
 call_eq rfl rfl (by
   cases l with
   | nil=>simp only [↓eA,eB,reduceIte,Nat.reduceBEq,Int.reduceNeg,Int.reduceLT,Int.reduceLE,Int.reduceAdd,Int.reduceSub,Int.reduceMul,Int.reduceEq,Int.reduceToNat,Nat.reduceLT,Nat.reduceAdd,Nat.reduceMul,Nat.reduceSub,c256]; rfl
   | cons x r=>
     have hfit:fits (0 + (r.length + 1)) 16=true:=by simp only [List.length_cons] at hb; simp [fits]; omega
     have hne:(List.map ivD (x :: r)).isEmpty=false:=rfl
     simp only [↓eA,eB,reduceIte,Nat.reduceBEq,Int.reduceNeg,Int.reduceLT,Int.reduceLE,Int.reduceAdd,Int.reduceSub,Int.reduceMul,Int.reduceEq,Int.reduceToNat,Nat.reduceLT,Nat.reduceAdd,Nat.reduceMul,Nat.reduceSub,c256,hfit,hne]
     simp)
theorem e_lists1 (l:List (Int×Int))(b:Bool)(hb:l.length < 4000000000):L.call 243 [.fz false 1 [.fz b 2 (l.map ivD)]] []=some (int (bif decide (10000 < (l.length:Int)) then 7 else ivErr l),[]):=
 call_eq rfl rfl (by
   have hc:=e_concat false [(b,l)] (by simp) (by simpa [total] using hb)
   have hc':∃ z,L.call 255 [.fz false 1 [.fz b 2 (l.map ivD)]] []=some (.fz z 2 (l.map ivD),[]):=⟨_,by simpa using hc⟩
   obtain ⟨z,hc⟩:=hc'
   have h01:inb 0 1=true:=rfl
   have hz0:∀ d:D,[d][0]?=some d:=fun _=>rfl
   simp only [↓eA,eB,reduceIte,Nat.reduceBEq,Int.reduceNeg,Int.reduceLT,Int.reduceLE,Int.reduceAdd,Int.reduceSub,Int.reduceMul,Int.reduceEq,Int.reduceToNat,Nat.reduceLT,Nat.reduceAdd,Nat.reduceMul,Nat.reduceSub,c243]
   rw [loop_unfold_c (T:=T) (k:=243002) rfl]
   cases h1:decide (10000 < (l.length:Int)) with
   | true=>simp only [↓eA,eB,reduceIte,Nat.reduceBEq,Int.reduceNeg,Int.reduceLT,Int.reduceLE,Int.reduceAdd,Int.reduceSub,Int.reduceMul,Int.reduceEq,Int.reduceToNat,Nat.reduceLT,Nat.reduceAdd,Nat.reduceMul,Nat.reduceSub,l243002,h1,h01,hz0]
   | false=>
     simp only [↓eA,eB,reduceIte,Nat.reduceBEq,Int.reduceNeg,Int.reduceLT,Int.reduceLE,Int.reduceAdd,Int.reduceSub,Int.reduceMul,Int.reduceEq,Int.reduceToNat,Nat.reduceLT,Nat.reduceAdd,Nat.reduceMul,Nat.reduceSub,l243002,h1,h01,hz0]
     rw [loop_unfold_c (T:=T) (k:=243002) rfl]
     simp only [↓eA,eB,reduceIte,Nat.reduceBEq,Int.reduceNeg,Int.reduceLT,Int.reduceLE,Int.reduceAdd,Int.reduceSub,Int.reduceMul,Int.reduceEq,Int.reduceToNat,Nat.reduceLT,Nat.reduceAdd,Nat.reduceMul,Nat.reduceSub,l243002,h01,hz0,hc,e_spanCheck z l hb])
end Tz
set_option maxRecDepth 100000
open Gs Go
namespace Tz
def mstep (acc:List (Int×Int))(x:Int×Int):List (Int×Int):=match acc.getLast? with
  | none=>acc ++ [x]
  | some p=>bif decide (x.1≤p.2 + 1) then acc.dropLast ++ [(p.1,max p.2 x.2)] else acc ++ [x]
def inB (x:Int×Int):Prop:=-1000000000000≤x.1∧x.1≤1000000000000∧-1000000000000≤x.2∧x.2≤1000000000000
theorem mstep_in {acc:List (Int×Int)}{x:Int×Int}(h:∀ p∈acc,inB p)(hx:inB x):∀ p∈mstep acc x,inB p:=by
 unfold mstep
 cases hl:acc.getLast? with
 | none=>intro p hp; simp at hp; rcases hp with hp | rfl; exact h p hp; exact hx
 | some q=>
   have hq:=h q (List.mem_of_getLast? hl)
   simp only
   cases hc:decide (x.1≤q.2 + 1) with
   | false=>intro p hp; simp at hp; rcases hp with hp | rfl; exact h p hp; exact hx
   | true=>
     intro p hp
     simp only [cond_true,List.mem_append,List.mem_singleton] at hp
     rcases hp with hp | rfl
     · exact h p (List.dropLast_subset acc hp)
     · obtain ⟨a,b,c,d⟩:=hq; obtain ⟨a',b',c',d'⟩:=hx
       exact ⟨a,b,by simp only; omega,by simp only; omega⟩
theorem mstep_len {acc:List (Int×Int)}{x:Int×Int} : (mstep acc x).length≤acc.length + 1:=by
 unfold mstep
 cases acc.getLast? with
 | none=>simp
 | some q=>
   simp only
   cases decide (x.1≤q.2 + 1)
   · simp
   · simp
theorem lp_nm (nz dy:Bool)(xs:List (Int×Int))(hb:xs.length < 4000000000)(hin:∀ p∈xs,inB p)(e:Env)(H:Heap)(h4:Gs.get e 4 = .ow 1004)(h12:Gs.get e 12 = .ow 10181)(h13:Gs.get e 13=int xs.length)(h14:Gs.get e 14=int 0)(hH:hget H 1004=some (.row true 2 [] 0 true))(hH1:hget H 10180=none)(hH2:hget H 10181=some (.row nz 2 (xs.map ivD) 0 dy)) :
   Ends T 244005 e H (fun X e' H'=>X = .ex 0∧Gs.get e' 4 = .ow 1004∧hget H' 1004=some (.row true 2 ((xs.foldl mstep []).map ivD) 0 true)):=by
 refine (loop_fold (T:=T) (key:=244005) (li:=l244005.1) rfl xs mstep (fun i a e H=>a.length≤i∧(∀ p∈a,inB p)∧Gs.get e 4 = .ow 1004∧Gs.get e 12 = .ow 10181∧Gs.get e 13=int xs.length∧Gs.get e 14=int i∧hget H 1004=some (.row true 2 (a.map ivD) 0 true)∧hget H 10180=none∧hget H 10181=some (.row nz 2 (xs.map ivD) 0 dy)) (fun a X e' H'=>X = .ex 0∧Gs.get e' 4 = .ow 1004∧hget H' 1004=some (.row true 2 (a.map ivD) 0 true)) ?_ ?_ [] e H ⟨Nat.le_refl _,by simp,h4,h12,h13,h14,hH,hH1,hH2⟩)
 · rintro i x a e H hx hi ⟨hal,hain,h4,h12,h13,h14,hH,hH1,hH2⟩
   have hx':(xs.map ivD)[i]?=some (.agg [int x.1,int x.2]):=by simp [hx,ivD]
   have hxin:=hin x (List.mem_of_getElem? hx)
   have hm1:=mstep_in hain hxin
   have hm2:=mstep_len (acc:=a) (x:=x)
   cases hl:a.getLast? with
   | none=>
     have ha:a=[]:=by simpa using hl
     subst ha
     simp only [↓eA,eB,seval,l244005,h4,h12,h13,h14,hH,hH1,hH2,hi,hx',show fits 1 16=true from rfl,wrap_succ (show i < 4611686018427387904 by omega)]
     refine ⟨trivial,by omega,hm1,?_⟩
     and_intros<;>first | trivial | rfl
   | some p=>
     obtain ⟨pre,rfl⟩:∃ pre,a=pre ++ [p]:=by
       exact List.getLast?_eq_some_iff.1 hl
     have hpin:=hain p (by simp)
     obtain ⟨hp1,hp2,hp3,hp4⟩:=hpin
     have hlen:(pre ++ [p]).length=pre.length + 1:=by simp
     have hg:(List.map ivD (pre ++ [p]))[pre.length]?=some (.agg [int p.1,int p.2]):=by simp [ivD]
     have hw:IntKind.i64.wrap (p.2 + 1)=p.2 + 1:=wrap_in (by omega) (by omega)
     have hgt:decide ((0:Int) < ((pre.length + 1:Nat):Int))=true:=by rw [decide_eq_true_eq]; omega
     have hlt:pre.length < pre.length + 1:=by omega
     have hwp:=wrap_pred (show 0 < pre.length + 1 by omega) (show pre.length + 1 < 4611686018427387904 by omega)
     rw [Nat.add_sub_cancel] at hwp
     cases hc:decide (x.1≤p.2 + 1) with
     | true=>
       have hms:mstep (pre ++ [p]) x=pre ++ [(p.1,max p.2 x.2)]:=by simp [mstep,hc]
       have hset:List.set (List.map ivD (pre ++ [p])) pre.length (.agg [int p.1,int (max p.2 x.2)])=List.map ivD (mstep (pre ++ [p]) x):=by
         rw [hms]; simp [ivD]
       simp only [↓eA,eB,seval,l244005,h4,h12,h13,h14,hH,hH1,hH2,hi,hx',hlen,hg,hw,hgt,hlt,hwp,hc,hset,Nat.zero_le,wrap_succ (show i < 4611686018427387904 by omega)]
       refine ⟨trivial,by omega,hm1,?_⟩
       and_intros<;>first | trivial | rfl
     | false=>
       have hms:mstep (pre ++ [p]) x=pre ++ [p] ++ [x]:=by simp [mstep,hc]
       have hmp:List.map ivD (pre ++ [p]) ++ [.agg [int x.1,int x.2]]=List.map ivD (mstep (pre ++ [p]) x):=by rw [hms]; simp [ivD]
       have hfit:fits (pre.length + 1 + 1) 16=true:=by simp [fits]; omega
       simp only [↓eA,eB,seval,l244005,h4,h12,h13,h14,hH,hH1,hH2,hi,hx',hlen,hg,hw,hgt,hlt,hwp,hc,hfit,hmp,Nat.zero_le,wrap_succ (show i < 4611686018427387904 by omega)]
       refine ⟨trivial,by omega,hm1,?_⟩
       and_intros<;>first | trivial | rfl
 · rintro a e H ⟨hal,hain,h4,h12,h13,h14,hH,hH1,hH2⟩
   simp only [↓eA,eB,seval,l244005,h4,h12,h13,h14,hH,hH1,hH2,Nat.lt_irrefl]
   and_intros<;>first | trivial | rfl
def merged (l:List (Int×Int)):List (Int×Int):=(sortIv l).foldl mstep []
theorem e_sortFunc (nz:Bool)(l:List (Int×Int))(hb:l.length < 4611686018427387904):L.call 257 [.ow 500001,.fn 258 []] [(500001,.row nz 2 (l.map ivD) 0 false)]=some (.tup [],[(500001,.row nz 2 ((sortIv l).map ivD) 0 false)]):=
 ext_eq (s:=sortIvX 258) rfl (by simp [sortIvX,hget,ivs_map,hset,hb])
theorem e_sortFunc0:L.call 257 [.fz true 2 [],.fn 258 []] []=some (.tup [],[]):=
 ext_eq (s:=sortIvX 258) rfl rfl
theorem e_normal (l:List (Int×Int))(hb:l.length < 4000000000)(hin:∀ p∈sortIv l,inB p)(hsl:(sortIv l).length=l.length):L.call 244 [.fz true 2 (l.map ivD)] []=some (.fz true 2 ((merged l).map ivD),[]):=
 call_eq rfl rfl (by
   have hc:=e_clone l hb
   by_cases hl:l=[]
   · subst hl
     rw [if_pos rfl] at hc
     simp only [↓eA,eB,seval,c244,hc,e_sortFunc0]
     rw [loop_unfold_c (T:=T) (k:=244005) rfl]
     have hs0:sortIv []=[]:=List.eq_nil_of_length_eq_zero (by simpa using hsl)
     simp only [↓eA,eB,seval,l244005]
     simp [merged,hs0]
   · rw [if_neg hl] at hc
     have hsort:=e_sortFunc false l (by omega)
     simp only [↓eA,eB,seval,c244,hc,hsort]
     generalize hE:(lim T).loop 244005 _ _=R
     obtain ⟨X,e',H',rfl,rfl,g4,gH⟩:=Ends.at hE (lp_nm false true (sortIv l) (by omega) hin _ _ rfl rfl rfl rfl rfl rfl rfl)
     simp only [↓eA,eB,seval,g4,gH]
     rfl)
theorem ltIv_swo:Sort.SWO ltIv:=⟨fun x=>by simp [ltIv],fun x y z h h'=>by simp only [ltIv,decide_eq_true_eq] at *; omega,fun x y z h h'=>by simp only [ltIv,decide_eq_false_iff_not] at *; omega⟩
theorem sortIv_all (l:List (Int×Int)):(sortIv l).Perm l∧(sortIv l).Pairwise fun a b=>a.1≤b.1:=by
 have h:=Sort.pdq_sorts ltIv ltIv_swo l.toArray 0 l.length (Lib.bitLen l.length) true true (Nat.zero_le _) (by simp) (Or.inl rfl)
 obtain ⟨⟨hsz,_,hp⟩,hs⟩:=h
 have hsz':(Sort.pdq ltIv l.toArray 0 l.length (Lib.bitLen l.length) true true).size=l.length:=by simpa using hsz
 refine ⟨?_,?_⟩
 · have e1:∀ a:Array (Int×Int),a.size=l.length→a.extract 0 l.length=a:=fun a ha=>by rw [←ha]; exact Array.extract_size
   rw [e1 _ hsz',e1 _ (by simp)] at hp
   simpa [sortIv] using hp
 · unfold sortIv
   rw [List.pairwise_iff_getElem]
   intro i j hi hj hij
   simp only [Array.length_toList] at hi hj
   have h:=hs i j (Nat.zero_le _) hij (by omega)
   simp only [ltIv,decide_eq_false_iff_not] at h
   rw [getElem!_pos _ j hj,getElem!_pos _ i hi] at h
   simp only [Array.getElem_toList]
   omega
theorem ivErr_in {l:List (Int×Int)}(h:ivErr l=0):∀ p∈l,inB p:=by
 intro p hp
 unfold ivErr at h
 cases hc:l.any ivFar with
 | true=>rw [hc] at h; cases h
 | false=>
   have:=List.any_eq_false.1 hc p hp
   simp only [ivFar,Bool.or_eq_true,Bool.not_eq_true',Bool.and_eq_false_iff,decide_eq_false_iff_not,not_or] at this
   unfold inB; omega
def nrmErr (l:List (Int×Int)):Int:=bif decide (10000 < (l.length:Int)) then 7 else ivErr l
theorem e_normalize (l:List (Int×Int))(hb:l.length < 4000000000):L.call 222 [.fz true 2 (l.map ivD)] []=some (.tup [.fz true 2 ((bif decide (nrmErr l=0) then merged l else []).map ivD),int (nrmErr l)],[]):=
 call_eq rfl rfl (by
   have hl:=e_lists1 l true hb
   have hle:L.call 243 [.fz false 1 [.fz true 2 (l.map ivD)]] []=some (int (nrmErr l),[]):=hl
   have hperm:=sortIv_all l
   cases he:decide (nrmErr l=0) with
   | false=>simp only [↓eA,eB,seval,c222,hle,he]; rfl
   | true=>
     have he0:ivErr l=0:=by
       have:=of_decide_eq_true he
       unfold nrmErr at this
       cases hc:decide (10000 < (l.length:Int)) with
       | true=>rw [hc] at this; cases this
       | false=>rw [hc] at this; exact this
     have hin:=ivErr_in he0
     have hn:=e_normal l hb (fun p hp=>hin p (hperm.1.mem_iff.1 hp)) hperm.1.length_eq
     simp only [↓eA,eB,seval,c222,hle,he,hn]; rw [of_decide_eq_true he])
end Tz
set_option maxRecDepth 100000
open Gs Go
namespace Tz
def outOf (b p:Box):Bool:=decide (b.x0 < p.x0) || decide (b.y0 < p.y0) || decide (b.z0 < p.z0) || decide (p.x1 < b.x1) || decide (p.y1 < b.y1) || decide (p.z1 < b.z1)
def boxedErr (s:Survey)(b:Box):Int:=bif !b.ok then 1 else bif outOf b s.pit then 12 else 0
theorem e_boxed (s:Survey)(b:Box):L.call 242 [s.enc,b.enc] []=some (int (boxedErr s b),[]):=
 call_eq rfl rfl (by
   unfold boxedErr
   cases h1:b.ok with
   | false=>simp only [↓eA,eB,seval,c242,e_proper,h1]
   | true=>
     cases h2:outOf b s.pit with
     | true=>have h2':=h2; simp only [outOf] at h2'; simp only [↓eA,eB,seval,c242,e_proper,h1,h2']
     | false=>have h2':=h2; simp only [outOf] at h2'; simp only [↓eA,eB,seval,c242,e_proper,h1,h2'])
def sideBad (d:Int):Bool:=decide (d < 0) || decide (3 < d)
def sidedErr (s:Survey)(b:Box)(d:Int):Int:=bif !decide (surveyErr s=0) then surveyErr s else bif sideBad d then 6 else boxedErr s b
theorem e_sided (s:Survey)(hF:s.Fit)(b:Box)(d:Int):L.call 220 [s.enc,b.enc,int d] []=some (int (sidedErr s b d),[]):=
 call_eq rfl rfl (by
   unfold sidedErr
   cases h1:decide (surveyErr s=0) with
   | false=>simp only [↓eA,eB,seval,c220,e_pCheck s hF,h1]
   | true=>
     cases h2:sideBad d with
     | true=>have h2':=h2; simp only [sideBad] at h2'; simp only [↓eA,eB,seval,c220,e_pCheck s hF,h1,h2']
     | false=>have h2':=h2; simp only [sideBad] at h2'; simp only [↓eA,eB,seval,c220,e_pCheck s hF,h1,h2',e_boxed])
def planeAx (d:Int):Int:=if d < 2 then 0 else 1
def planeAt (b:Box)(d:Int):Int:=if d=0 then b.x1 else if d=1 then b.x0 else if d=2 then b.y1 else b.y0
theorem q0:IntKind.i64.wrap (Int.tdiv 0 2)=0:=by decide
theorem q1:IntKind.i64.wrap (Int.tdiv 1 2)=0:=by decide
theorem q2:IntKind.i64.wrap (Int.tdiv 2 2)=1:=by decide
theorem q3:IntKind.i64.wrap (Int.tdiv 3 2)=1:=by decide
theorem m0:Int.tmod 0 2=0:=by decide
theorem m1:Int.tmod 1 2=1:=by decide
theorem m2:Int.tmod 2 2=0:=by decide
theorem m3:Int.tmod 3 2=1:=by decide
theorem e_plane (b:Box)(d:Int)(h:sideBad d=false):L.call 221 [b.enc,int d] []=some (.tup [int (planeAx d),int (planeAt b d)],[]):=by
 have h':d=0∨d=1∨d=2∨d=3:=by simp only [sideBad,Bool.or_eq_false_iff,decide_eq_false_iff_not] at h; omega
 rcases h' with rfl | rfl | rfl | rfl
 · have e1:=e_ends b 0; exact call_eq rfl rfl (by simp only [↓eA,eB,seval,c221,e1,q0,q1,q2,q3,m0,m1,m2,m3]; first | done | rfl | simp [planeAx,planeAt,Box.lo,Box.hi])
 · have e1:=e_ends b 0; exact call_eq rfl rfl (by simp only [↓eA,eB,seval,c221,e1,q0,q1,q2,q3,m0,m1,m2,m3]; first | done | rfl | simp [planeAx,planeAt,Box.lo,Box.hi])
 · have e1:=e_ends b 1; exact call_eq rfl rfl (by simp only [↓eA,eB,seval,c221,e1,q0,q1,q2,q3,m0,m1,m2,m3]; first | done | rfl | simp [planeAx,planeAt,Box.lo,Box.hi])
 · have e1:=e_ends b 1; exact call_eq rfl rfl (by simp only [↓eA,eB,seval,c221,e1,q0,q1,q2,q3,m0,m1,m2,m3]; first | done | rfl | simp [planeAx,planeAt,Box.lo,Box.hi])
theorem n0:inb 0 4=true:=by decide
theorem n1:inb 1 4=true:=by decide
theorem n2:inb 2 4=true:=by decide
theorem n3:inb 3 4=true:=by decide
def openAt (s:Survey)(d:Int):Bool:=if d=0 then s.o0 else if d=1 then s.o1 else if d=2 then s.o2 else s.o3
def openB (s:Survey)(b:Box)(d:Int):Bool:=openAt s d && decide (planeAt b d=planeAt s.pit d)
theorem e_open (s:Survey)(hF:s.Fit)(b:Box)(d:Int):L.call 166 [s.enc,b.enc,int d] []=some (.tup [.bool (decide (sidedErr s b d=0) && openB s b d),int (sidedErr s b d)],[]):=by
 cases h1:decide (sidedErr s b d=0) with
 | false=>exact call_eq rfl rfl (by simp only [↓eA,eB,seval,c166,e_sided s hF,h1])
 | true=>
   have h0:=of_decide_eq_true h1
   have hs:sideBad d=false:=by
     unfold sidedErr at h0
     cases h2:decide (surveyErr s=0) with
     | false=>rw [h2] at h0; simp only [Bool.not_false,cond_true] at h0; rw [h0] at h2; simp at h2
     | true=>
       rw [h2] at h0; simp only [Bool.not_true,cond_false] at h0
       cases h3:sideBad d with
       | false=>rfl
       | true=>rw [h3] at h0; cases h0
   have e1:=e_plane b d hs; have e2:=e_plane s.pit d hs
   have e3:=e_sided s hF b d; rw [h0] at e3
   have h':d=0∨d=1∨d=2∨d=3:=by simp only [sideBad,Bool.or_eq_false_iff,decide_eq_false_iff_not] at hs; omega
   rw [h0]
   unfold openB openAt
   rcases h' with rfl | rfl | rfl | rfl
   · exact call_eq rfl rfl (by simp only [↓eA,eB,seval,c166,e3,e1,e2,n0,n1,n2,n3]; skip)
   · exact call_eq rfl rfl (by simp only [↓eA,eB,seval,c166,e3,e1,e2,n0,n1,n2,n3]; skip)
   · exact call_eq rfl rfl (by simp only [↓eA,eB,seval,c166,e3,e1,e2,n0,n1,n2,n3]; skip)
   · exact call_eq rfl rfl (by simp only [↓eA,eB,seval,c166,e3,e1,e2,n0,n1,n2,n3]; skip)
end Tz
set_option maxRecDepth 100000
open Gs Go
namespace Tz
def jHit (b:Box)(ax at_:Int)(j:Joint):Bool:=decide (j.axis=ax) && decide (j.at_=at_) && decide (max j.lo b.z0≤min j.hi b.z1 - 1)
def jIv (b:Box)(j:Joint):Int×Int:=(max j.lo b.z0,min j.hi b.z1 - 1)
def jStep (b:Box)(ax at_:Int)(acc:List (Int×Int))(j:Joint):List (Int×Int):=bif jHit b ax at_ j then acc ++ [jIv b j] else acc
def jList (s:Survey)(b:Box)(ax at_:Int):List (Int×Int):=s.joints.foldl (jStep b ax at_) []
structure JB (s:Survey) (b:Box):Prop where
 z0 : -1000000≤b.z0
 z1 : -1000000≤b.z1∧b.z1≤1000000
 j:∀ j∈s.joints,-1000000≤j.hi
theorem jStep_len (b:Box)(ax at_:Int)(acc:List (Int×Int))(j:Joint):(jStep b ax at_ acc j).length≤acc.length + 1:=by
 unfold jStep
 cases jHit b ax at_ j<;>simp
abbrev bx (b:Box):List D:=[int b.x0,int b.y0,int b.z0,int b.x1,int b.y1,int b.z1]
theorem lp_pj (s:Survey)(hF:s.Fit)(b:Box)(hJ:JB s b)(ax at_:Int)(e:Env)(H:Heap)(h4:Gs.get e 4 = .ptr 4 0)(h9:Gs.get e 9=int ax)(h10:Gs.get e 10=int at_)(h11:Gs.get e 11 = .ow 1011)(h29:Gs.get e 29 = .fz false 5 (s.joints.map Joint.enc))(h30:Gs.get e 30=int s.joints.length)(h31:Gs.get e 31=int 0)(hH4:hget H 4=some (.box (bx b) false))(hH:hget H 1011=some (.row true 2 [] 0 true)) :
   Ends T 167007 e H (fun X e' H'=>X = .ex 0∧Gs.get e' 11 = .ow 1011∧hget H' 1011=some (.row true 2 ((jList s b ax at_).map ivD) 0 true)):=by
 have hb:=hF.jl
 obtain ⟨hz0,⟨hz1,hz2⟩,hjh⟩:=hJ
 refine loop_fold (T:=T) (key:=167007) (li:=l167007.1) rfl s.joints (jStep b ax at_) (fun i a e H=>a.length≤i∧Gs.get e 4 = .ptr 4 0∧Gs.get e 9=int ax∧Gs.get e 10=int at_∧Gs.get e 11 = .ow 1011∧Gs.get e 29 = .fz false 5 (s.joints.map Joint.enc)∧Gs.get e 30=int s.joints.length∧Gs.get e 31=int i∧hget H 4=some (.box (bx b) false)∧hget H 1011=some (.row true 2 (a.map ivD) 0 true)) (fun a X e' H'=>X = .ex 0∧Gs.get e' 11 = .ow 1011∧hget H' 1011=some (.row true 2 (a.map ivD) 0 true)) ?_ ?_ [] e H ⟨Nat.le_refl _,h4,h9,h10,h11,h29,h30,h31,hH4,hH⟩
 · rintro i j a e H hx hi ⟨hal,h4,h9,h10,h11,h29,h30,h31,hH4,hH⟩
   have hx':(s.joints.map Joint.enc)[i]?=some j.enc:=by simp [hx]
   have hjl:=hjh j (List.mem_of_getElem? hx)
   have hw:IntKind.i64.wrap (min j.hi b.z1 - 1)=min j.hi b.z1 - 1:=wrap_in (by omega) (by omega)
   have hsl:=jStep_len b ax at_ a j
   have hfit:fits (a.length + 1) 16=true:=by simp [fits]; omega
   cases hc:jHit b ax at_ j with
   | true=>
     have hc':=hc; simp only [jHit] at hc'
     have hm:List.map ivD a ++ [.agg [int (max j.lo b.z0),int (min j.hi b.z1 - 1)]]=List.map ivD (jStep b ax at_ a j):=by simp [jStep,hc,jIv,ivD]
     simp only [↓eA,eB,seval,l167007,h4,h9,h10,h11,h29,h30,h31,hH4,hH,hi,hx',hw,hc',hfit,hm,wrap_succ (show i < 4611686018427387904 by omega)]
     refine ⟨trivial,by omega,?_⟩
     and_intros<;>first | trivial | rfl
   | false=>
     have hc':=hc; simp only [jHit] at hc'
     have hm:jStep b ax at_ a j=a:=by simp [jStep,hc]
     simp only [↓eA,eB,seval,l167007,h4,h9,h10,h11,h29,h30,h31,hH4,hH,hi,hx',hw,hc',hm,wrap_succ (show i < 4611686018427387904 by omega)]
     refine ⟨trivial,by omega,?_⟩
     and_intros<;>first | trivial | rfl
 · rintro a e H ⟨hal,h4,h9,h10,h11,h29,h30,h31,hH4,hH⟩
   simp only [↓eA,eB,seval,l167007,h4,h9,h10,h11,h29,h30,h31,hH4,hH,Nat.lt_irrefl]
   and_intros<;>first | trivial | rfl
theorem sided_ok {s:Survey}{b:Box}{d:Int}(h:sidedErr s b d=0):surveyErr s=0∧sideBad d=false∧boxedErr s b=0:=by
 unfold sidedErr at h
 cases h2:decide (surveyErr s=0) with
 | false=>rw [h2] at h; simp only [Bool.not_false,cond_true] at h; rw [h] at h2; simp at h2
 | true=>
   rw [h2] at h; simp only [Bool.not_true,cond_false] at h
   cases h3:sideBad d with
   | false=>rw [h3] at h; exact ⟨of_decide_eq_true h2,rfl,h⟩
   | true=>rw [h3] at h; cases h
theorem boxed_ok {s:Survey}{b:Box}(h:boxedErr s b=0):b.ok=true∧outOf b s.pit=false:=by
 unfold boxedErr at h
 cases h1:b.ok with
 | false=>rw [h1] at h; cases h
 | true=>
   rw [h1] at h
   cases h2:outOf b s.pit with
   | false=>exact ⟨rfl,rfl⟩
   | true=>rw [h2] at h; cases h
structure SurveyOk (s:Survey):Prop where
 size:sizeBad s=false
 far:s.pit.six.any far6=false
 ok:s.pit.ok=true
 nm:s.names.any (fun n=>!pName n)=false
 jb:s.joints.any jbad=false
 fb:s.flaws.any fbad=false
 pe:∀ f∈s.flaws,polyErr f.base=0
 cv:s.flaws.any (fun f=>!convex f.base)=false
 out:outB s=false
 dis:disordered s=false
theorem polyErr_find {s:Survey}(h:s.flaws.find? (fun f=>!decide (polyErr f.base=0))=none):∀ f∈s.flaws,polyErr f.base=0:=by
 intro f hm; have:=List.find?_eq_none.1 h f hm; simpa using this
theorem survey_ok {s:Survey}(h:surveyErr s=0):SurveyOk s:=by
 unfold surveyErr at h
 cases h1:sizeBad s<;>rw [h1] at h<;>simp only [cond_true,cond_false] at h<;>try (cases h; done)
 cases h2:s.pit.six.any far6<;>rw [h2] at h<;>simp only [cond_true,cond_false] at h<;>try (cases h; done)
 cases h3:s.pit.ok<;>rw [h3] at h<;>simp only [Bool.not_true,Bool.not_false,cond_true,cond_false] at h<;>try (cases h; done)
 cases h4:s.names.any (fun n=>!pName n)<;>rw [h4] at h<;>simp only [cond_true,cond_false] at h<;>try (cases h; done)
 cases h5:(s.joints.any jbad || s.flaws.any fbad)<;>rw [h5] at h<;>simp only [cond_true,cond_false] at h<;>try (cases h; done)
 cases h6:s.flaws.find? (fun f=>!decide (polyErr f.base=0)) with
 | some f=>
   rw [h6] at h; simp only at h
   have:=List.find?_some h6
   rw [h] at this; simp at this
 | none=>
 rw [h6] at h; simp only at h
 cases h7:s.flaws.any (fun f=>!convex f.base)<;>rw [h7] at h<;>simp only [cond_true,cond_false] at h<;>try (cases h; done)
 cases h8:outB s<;>rw [h8] at h<;>simp only [cond_true,cond_false] at h<;>try (cases h; done)
 cases h9:disordered s<;>rw [h9] at h<;>simp only [cond_true,cond_false] at h<;>try (cases h; done)
 rw [Bool.or_eq_false_iff] at h5
 exact ⟨h1,h2,h3,h4,h5.1,h5.2,polyErr_find h6,h7,h8,h9⟩
theorem far6_no {n:Int}(h:far6 n=false) : -1000000≤n∧n≤1000000:=by
 simp only [far6,Bool.or_eq_false_iff,decide_eq_false_iff_not] at h; omega
theorem six_in {b:Box}(h:b.six.any far6=false):∀ n∈b.six,-1000000≤n∧n≤1000000:=fun n hn=>far6_no (by simpa using List.any_eq_false.1 h n hn)
theorem jb_of {s:Survey}{b:Box}(h:SurveyOk s)(hb:boxedErr s b=0):JB s b:=by
 obtain ⟨h1,h2⟩:=boxed_ok hb
 have h6:=six_in h.far
 simp only [Box.six,List.mem_cons,List.not_mem_nil,or_false,forall_eq_or_imp,forall_eq] at h6
 simp only [outOf,Bool.or_eq_false_iff,decide_eq_false_iff_not] at h2
 simp only [Box.ok,Bool.and_eq_true,decide_eq_true_eq] at h1
 refine ⟨by omega,by omega,fun j hj=>?_⟩
 have ho:=h.out
 simp only [outB,Bool.or_eq_false_iff] at ho
 have:=List.any_eq_false.1 ho.2.1 j hj
 simp only [jointOut,Bool.or_eq_true,Bool.not_eq_true',Bool.and_eq_false_iff,not_or,Bool.not_eq_false] at this
 have h3:=this.2.2
 simp only [inR,Bool.and_eq_true,decide_eq_true_eq] at h3
 omega
def pJointed (s:Survey)(b:Box)(d:Int):List (Int×Int):=jList s b (planeAx d) (planeAt b d)
theorem jList_len (s:Survey)(b:Box)(ax at_:Int):(jList s b ax at_).length≤s.joints.length:=by
 unfold jList
 have:∀ (l:List Joint) (a:List (Int×Int)),(l.foldl (jStep b ax at_) a).length≤a.length + l.length:=by
   intro l
   induction l with
   | nil=>intro a; simp
   | cons j r ih=>intro a; simp only [List.foldl_cons,List.length_cons]; have:=ih (jStep b ax at_ a j); have:=jStep_len b ax at_ a j; omega
 simpa using this s.joints []
def jointedR (s:Survey)(b:Box)(d:Int):List (Int×Int)×Int:=
 bif decide (sidedErr s b d=0) then (bif decide (nrmErr (pJointed s b d)=0) then merged (pJointed s b d) else [],nrmErr (pJointed s b d)) else ([],sidedErr s b d)
theorem e_jointed (s:Survey)(hF:s.Fit)(b:Box)(d:Int):L.call 167 [s.enc,b.enc,int d] []=some (.tup [.fz true 2 ((jointedR s b d).1.map ivD),int (jointedR s b d).2],[]):=by
 unfold jointedR
 cases h1:decide (sidedErr s b d=0) with
 | false=>exact call_eq rfl rfl (by simp only [↓eA,eB,seval,c167,e_sided s hF,h1]; rfl)
 | true=>
   have h0:=of_decide_eq_true h1
   obtain ⟨h2,h3,h4⟩:=sided_ok h0
   have hok:=survey_ok h2
   have hJ:=jb_of hok h4
   have e1:=e_plane b d h3
   have e3:=e_sided s hF b d; rw [h0] at e3
   have hb:=hF.jl
   have hjl:=jList_len s b (planeAx d) (planeAt b d)
   have hn:=e_normalize (pJointed s b d) (by unfold pJointed; omega)
   refine call_eq rfl rfl ?_
   simp only [↓eA,eB,seval,c167,e3,e1]
   generalize hE:(lim T).loop 167007 _ _=R
   obtain ⟨X,e',H',rfl,rfl,g11,gH⟩:=Ends.at hE (lp_pj s hF b hJ (planeAx d) (planeAt b d) _ _ rfl rfl rfl rfl rfl rfl rfl rfl rfl)
   have gH':hget H' 1011=some (.row true 2 ((pJointed s b d).map ivD) 0 true):=gH
   simp only [↓eA,eB,seval,g11,gH',hn]
   skip
end Tz
set_option maxRecDepth 100000
open Gs Go
namespace Tz.C18
structure Safety where
 batter:Int
 width:Int
abbrev Safety.enc (s:Safety):D:=.agg [int s.batter,int s.width]
def inr (n:Int):Bool:=decide (-1000000≤n) && decide (n≤1000000)
theorem e_in (n:Int):L.call 71 [int n] []=some (.bool (inr n),[]):=
 call_eq rfl rfl (by simp only [↓eA,eB,seval,c71]; rfl)
abbrev wsub (a b:Int):Int:=IntKind.i64.wrap (a - b)
def gap (a b:Box):Int:=max (max (max (wsub a.x0 b.x1) (wsub b.x0 a.x1)) 0) (max (max (wsub a.y0 b.y1) (wsub b.y0 a.y1)) 0)
theorem e_gap (a b:Box):L.call 72 [a.enc,b.enc] []=some (int (gap a b),[]):=
 call_eq rfl rfl (by simp only [↓eA,eB,seval,c72]; rfl)
def bad3 (x y z:Int):Bool:=(!inr x || !inr y) || !inr z
def _root_.Tz.Box.near (b:Box):Bool:=!bad3 b.x0 b.y0 b.z0 && !bad3 b.x1 b.y1 b.z1
theorem i40:inb 0 4=true:=rfl
theorem i41:inb 1 4=true:=rfl
theorem i42:inb 2 4=true:=rfl
theorem i43:inb 3 4=true:=rfl
def rule (s:Safety):Bool:=((decide (s.batter < 0) || decide (10000 < s.batter)) || decide (s.width < 0)) || decide (1000000 < s.width)
abbrev wmul (a b:Int):Int:=IntKind.i64.wrap (a * b)
def away (s:Safety)(a b:Box):Bool:=decide (wsub b.z0 a.z0≤0) || decide (IntKind.i64.wrap (wmul s.batter (wsub b.z0 a.z0) + wmul 1000 s.width)≤wmul 1000 (gap a b))
def clearB (s:Safety)(a b:Box):Bool:=bif (a.near && b.near) && !rule s then away s a b else false
theorem e_Clear (s:Safety)(a b:Box):L.call 38 [s.enc,a.enc,b.enc] []=some (.bool (clearB s a b),[]):=
 call_eq rfl rfl (by
   simp only [↓eA,eB,seval,c38]
   rw [loop_unfold_c (T:=T) (k:=38003) rfl]
   simp only [↓eA,eB,seval,l38003,e_in,i40]
   unfold clearB Box.near bad3
   cases h0:(!inr a.x0 || !inr a.y0 || !inr a.z0) with
   | true=>simp only [↓eA,eB,seval]
   | false=>
   simp only [↓eA,eB,seval]
   rw [loop_unfold_c (T:=T) (k:=38003) rfl]
   simp only [↓eA,eB,seval,l38003,e_in,i41]
   cases h1:(!inr a.x1 || !inr a.y1 || !inr a.z1) with
   | true=>simp only [↓eA,eB,seval]
   | false=>
   simp only [↓eA,eB,seval]
   rw [loop_unfold_c (T:=T) (k:=38003) rfl]
   simp only [↓eA,eB,seval,l38003,e_in,i42]
   cases h2:(!inr b.x0 || !inr b.y0 || !inr b.z0) with
   | true=>simp only [↓eA,eB,seval]
   | false=>
   simp only [↓eA,eB,seval]
   rw [loop_unfold_c (T:=T) (k:=38003) rfl]
   simp only [↓eA,eB,seval,l38003,e_in,i43]
   cases h3:(!inr b.x1 || !inr b.y1 || !inr b.z1) with
   | true=>simp only [↓eA,eB,seval]
   | false=>
   simp only [↓eA,eB,seval]
   rw [loop_unfold_c (T:=T) (k:=38003) rfl]
   simp only [↓eA,eB,seval,l38003]
   unfold rule
   cases h4:(((decide (s.batter < 0) || decide (10000 < s.batter)) || decide (s.width < 0)) || decide (1000000 < s.width)) with
   | true=>simp only [↓eA,eB,seval]
   | false=>
   simp only [↓eA,eB,seval,e_gap]
   rfl)
end Tz.C18
namespace Gs
open Go
variable [GlobTab]
theorem loop_findH {T:Tab}{key:Nat}{li:LI}(hl:T.lp key=some li){α:Type}(xs:List α)(bad:α→Bool)(St:Nat→Env→Heap→Prop)(R:α→X→Env→Heap→Prop)(E:X→Env→Heap→Prop)
   (step:∀ i x e H,xs[i]?=some x→i < xs.length→St i e H→Good (round (lim T) li e H) fun X e' H'=>match bad x with | false=>isNor X=true∧St (i + 1) e' H' | true=>isNor X=false∧R x X e' H')
   (fin:∀ e H,St xs.length e H→Good (round (lim T) li e H) fun X e' H'=>isNor X=false∧E X e' H') (e:Env) (H:Heap) (h0:St 0 e H) :
   Ends T key e H (fun X e' H'=>match xs.find? bad with | some x=>R x X e' H' | none=>E X e' H'):=by
 refine (loop_thru hl (S:=Unit) (R:=α) (fun s x=>bif bad x then .inl x else .inr s) xs (fun i _ e H'=>St i e H') (fun x X e' H'=>R x X e' H') (fun _ X e' H'=>E X e' H') ?_ ?_ ?_ xs [] () e H rfl h0).mono fun X e' H' h=>?_
 · rintro i x s s' e H' hi hs hf
   have hb:bad x=false:=by cases hb:bad x<;>simp_all
   have:=step i x e H' hi (List.getElem?_eq_some_iff.1 hi).1 hs
   simpa only [hb] using this
 · rintro i x s r e H' hi hs hf
   have hb:bad x=true:=by cases hb:bad x<;>simp_all
   have hr:r=x:=by simp [hb] at hf; exact hf.symm
   have:=step i x e H' hi (List.getElem?_eq_some_iff.1 hi).1 hs
   rw [hr]
   simpa only [hb] using this
 · rintro s e H' hs
   exact fin e H' hs
 · rw [thru_find] at h
   cases hx:xs.find? bad with
   | some x=>rw [hx] at h; exact h
   | none=>rw [hx] at h; exact h
end Gs
set_option maxRecDepth 100000
open Gs Go
namespace Tz.C18
structure Block where
 name:ByteArray
 box:Box
abbrev Block.enc (b:Block):D:=.agg [.str b.name,int b.box.x0,int b.box.y0,int b.box.z0,int b.box.x1,int b.box.y1,int b.box.z1]
abbrev blks (bs:List Block):D:=.fz false 7 (bs.map Block.enc)
theorem e_bsides (b:Box):L.call 175 [b.enc] []=some (.agg [int b.x0,int b.x1,int b.y0,int b.y1,int b.z0,int b.z1],[]):=
 call_eq rfl rfl (by simp only [↓eA,eB,seval,c175])
theorem i30:inb 0 3=true:=rfl
theorem i31:inb 1 3=true:=rfl
theorem i32:inb 2 3=true:=rfl
theorem i20:inb 0 2=true:=rfl
theorem i21:inb 1 2=true:=rfl
end Tz.C18
set_option maxRecDepth 100000
open Gs Go
namespace Tz.C18
def named (n:ByteArray)(b:Block):Bool:=seq n b.name
def dupF:List Block→List Block→Bool
 | _,[]=>false
 | s,b :: r=>s.any (named b.name) || dupF (s ++ [b]) r
theorem thru_dup:∀ (r s:List Block),thru (R:=Unit) (fun (s:List Block) b=>bif s.any (named b.name) then .inl () else .inr (s ++ [b])) r s=bif dupF s r then .inl () else .inr (s ++ r)
 | [],s=>by simp [thru,dupF]
 | b :: r,s=>by
   simp only [thru,dupF]
   cases h:s.any (named b.name) with
   | true=>rfl
   | false=>simp only [cond_false,Bool.false_or]; rw [thru_dup r (s ++ [b])]; simp
end Tz.C18
set_option maxRecDepth 100000
open Gs Go
namespace Tz.C18
def over2 (a b:Box):Bool:=decide (max a.x0 b.x0 < min a.x1 b.x1) && decide (max a.y0 b.y0 < min a.y1 b.y1)
theorem e_over (a b:Box):L.call 70 [a.enc,b.enc] []=some (.bool (over2 a b),[]):=
 call_eq rfl rfl (by simp only [↓eA,eB,seval,c70]; rfl)
abbrev Block.cells (b:Block):List D:=[.str b.name,int b.box.x0,int b.box.y0,int b.box.z0,int b.box.x1,int b.box.y1,int b.box.z1]
theorem e_sort (nz:Bool)(l:List ByteArray)(hb:l.length < 4611686018427387904):L.call 106 [.ow 500000] [(500000,.row nz 1 (l.map .str) 0 false)]=some (.tup [],[(500000,.row nz 1 ((sortB l).map .str) 0 false)]):=
 ext_eq (s:=sortStrX) rfl (by simp [sortStrX,hget,strs_map,hset,hb])
end Tz.C18
