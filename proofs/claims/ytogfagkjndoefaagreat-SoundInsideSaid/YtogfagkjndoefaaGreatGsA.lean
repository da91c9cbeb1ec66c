/- The small code, its evaluator and what it means that data stands in a world of the model; no conditions. -/
import Derived.Calls
import Derived.Laws.CopyRow
import Derived.Laws.Cells
import Derived.Below
import Derived.Laws.Tables
import Derived.Laws.NewFold
import Derived.Laws.StructEq
set_option linter.all false
namespace Gs
open Go
inductive D where
 | bool (b:Bool)
 | int (k:IntKind) (n:Int)
 | str (s:ByteArray)
 | agg (cs:List D)
 | tup (vs:List D)
 | fz (nz:Bool) (esz:Nat) (xs:List D)
 | fp (cs:List D) (off:Nat)
 | nilp
 | ow (b:Nat)
 | win (b off len:Nat)
 | ptr (b off:Nat)
 | ep (b i off:Nat)
 | fn (g:Nat) (caps:List D)
 | nilfn
 | mp (b:Nat)
 | fm (cs:List D)
 | dead
inductive Blk where
 | box (cs:List D) (fr:Bool)
 | itr (s:ByteArray) (pos:Nat)
 | row (nz:Bool) (esz:Nat) (xs:List D) (prot:Nat) (dirty:Bool)
 | mapB (cs:List D) (fr:Bool)
inductive Opd where
 | t (n:Nat)
 | c (d:D)
inductive RO where
 | mov (x:Opd)
 | pick (c a b:Opd)
 | box (id:Nat) (x:Opd)
 | ld (sz:Nat) (ag:Bool) (x:Opd)
 | st (sz:Nat) (x v:Opd)
 | bin (op:BinOp) (x y:Opd)
 | eqA (neg:Bool) (ks:List Nat) (x y:Opd)
 | eqB (neg:Bool) (x y:Opd)
 | eqN (neg:Bool) (k:Nat) (x:Opd)
 | not (x:Opd)
 | neg (x:Opd)
 | fld (off:Nat) (x:Opd)
 | iadS (esz:Nat) (x i:Opd)
 | iadA (n esz:Nat) (x i:Opd)
 | fldv (off sz:Nat) (ag:Bool) (x:Opd)
 | idxA (n esz:Nat) (ag:Bool) (x i:Opd)
 | idxS (x i:Opd)
 | build (zero:List D) (parts:List (Nat×Nat×Opd))
 | bsl (esz:Nat) (parts:List Opd)
 | app (tid esz bytes:Nat) (x y:Opd)
 | len (str:Bool) (x:Opd)
 | slc (str:Bool) (esz:Nat) (x:Opd) (lo hi:Option Opd)
 | ext (x:Opd) (i:Nat)
 | mkfn (g:Nat) (caps:List Opd)
 | nilchk (x:Opd)
 | call (f:Opd) (args:List Opd) (bs tids:List Nat)
 | callq (f:Opd) (args:List Opd)
 | callf (f:Opd) (args:List Opd)
 | mx (args:List Opd)
 | mn (args:List Opd)
 | conv (k:IntKind) (x:Opd)
 | convS (x:Opd)
 | mks (tid esz bytes:Nat) (zero:D) (len:Opd)
 | capz (x:Opd)
 | apz (tid esz bytes:Nat) (zero:D) (x len:Opd)
 | bso (tid esz:Nat) (parts:List Opd)
 | clr (esz:Nat) (zero:D) (x:Opd)
 | rng (id:Nat) (x:Opd)
 | nxt (x:Opd)
 | mkm (id:Nat) (r:Option Opd)
 | lku (kd:Nat) (zero:D) (x k:Opd) (ok:Bool)
 | mup (kd:Nat) (x k v:Opd)
 | mdl (kd:Nat) (x k:Opd)
 | callb (f:Opd) (args:List Opd) (bs:List Nat)
 | callc (f:Opd) (args:List Opd) (bs:List Nat)
inductive RG where
 | fr (t:Nat)
 | wh (t tid:Nat)
 | rn (t tid:Nat)
 | nr (t tid esz:Nat)
 | dr (ids:List Nat)
 | bl (t:Nat) (ids:List Nat)
inductive RI where
 | op (d:Nat) (o:RO)
 | sc (d c:Nat) (want:Bool) (strict:Bool) (blk:List RI) (res alt:Opd)
inductive Seg where
 | q (l:List RI)
 | m (l:List RI) (qp:List Nat) (ls:List (Nat×Nat×RO))
 | o (d:Nat) (o:RO)
 | g (g:RG)
 | p (l:List (Nat×Nat×RO×List Nat))
 | w (c j:Nat) (want:Bool) (l:List (Nat×RO))
inductive RC where
 | skip
 | ret
 | exit (n:Nat)
 | reg (l:List Seg)
 | seq (a b:RC)
 | cond (c:Opd) (a b:RC)
 | block (n:Nat) (b:RC)
 | loop (key:Nat)
 | die
abbrev Env:=List (Nat×D)
abbrev Heap:=List (Nat×Blk)
def seq (a b:ByteArray):Bool:=a.toList == b.toList
def slt (a b:ByteArray):Bool:=Op.bytesLess a.toList b.toList
def ineg (n:Nat):Int:=-(n:Int)
def bat (s:ByteArray)(i:Nat):Int:=((s[i]?).getD 0).toNat
def cut (xs:List D)(off len:Nat):List D:=(xs.drop off).take len
def fits (n b:Nat):Bool:=decide (n * b≤140737488355328)
def inb (i:Int)(n:Nat):Bool:=decide (0≤i∧i < n)
def inc (i:Int)(n:Nat):Bool:=decide (0≤i∧i≤n)
def jn (want p q r:Bool):Bool:=match want with
  | true=>bif p then q else r
  | false=>bif p then r else q
def get:Env→Nat→D
 | [],_=>.dead
 | (k,v) :: r,i=>bif (k == i) then v else get r i
def set:Env→Nat→D→Env
 | [],i,v=>[(i,v)]
 | (k,u) :: r,i,v=>bif (k == i) then (k,v) :: r else (k,u) :: set r i v
def hget:Heap→Nat→Option Blk
 | [],_=>none
 | (k,v) :: r,i=>bif (k == i) then some v else hget r i
def hset:Heap→Nat→Blk→Heap
 | [],i,v=>[(i,v)]
 | (k,u) :: r,i,v=>bif (k == i) then (k,v) :: r else (k,u) :: hset r i v
def mem (i:Nat):List Nat→Bool
 | []=>false
 | k :: r=>bif (k == i) then true else mem i r
def distinct:List Nat→Bool
 | []=>true
 | a :: r=>bif mem a r then false else distinct r
def noMem (l:List Nat):List Nat→Bool
 | []=>true
 | a :: r=>bif mem a l then false else noMem l r
def smallL:List Nat→Bool
 | []=>true
 | a :: r=>bif decide (a < 500000) then smallL r else false
def rho (e:Env):Opd→D
 | .t n=>get e n
 | .c d=>d
def rhos (e:Env):List Opd→List D
 | []=>[]
 | x :: r=>rho e x :: rhos e r
def cellsOf:D→List D
 | .agg cs=>cs
 | d=>[d]
def cell:List D→Nat→Option D
 | [],_=>none
 | x :: _,0=>some x
 | _ :: r,n + 1=>cell r n
def take:Nat→List D→Option (List D)
 | 0,_=>some []
 | _ + 1,[]=>none
 | n + 1,x :: r=>match take n r with
   | some l=>some (x :: l)
   | none=>none
def part (cs:List D):Nat→Nat→Option (List D)
 | 0,n=>take n cs
 | k + 1,n=>match cs with
   | []=>none
   | _ :: r=>part r k n
def over:List D→List D→Option (List D)
 | cs,[]=>some cs
 | [],_ :: _=>none
 | _ :: cs,v :: vs=>match over cs vs with
   | some l=>some (v :: l)
   | none=>none
def putAt:List D→Nat→List D→Option (List D)
 | cs,0,vs=>over cs vs
 | [],_ + 1,_=>none
 | c :: cs,n + 1,vs=>match putAt cs n vs with
   | some l=>some (c :: l)
   | none=>none
def clen:List D→Nat
 | []=>0
 | _ :: r=>clen r + 1
mutual
def closed:D→Bool
 | .ow _=>false
 | .win _ _ _=>false
 | .ep _ _ _=>false
 | .ptr _ _=>false
 | .mp _=>false
 | .agg cs=>closedL cs
 | .tup vs=>closedL vs
 | .fn _ caps=>closedL caps
 | .dead=>false
 | _=>true
def closedL:List D→Bool
 | []=>true
 | d :: r=>bif closed d then closedL r else false
end
def solid:D→Bool
 | .agg _=>false
 | .tup _=>false
 | .dead=>false
 | _=>true
def known:D→Bool
 | .tup _=>false
 | .dead=>false
 | _=>true
def solidL:List D→Bool
 | []=>true
 | d :: r=>bif solid d then solidL r else false
def solidAll:List D→Bool
 | []=>true
 | d :: r=>bif solidL (cellsOf d) then solidAll r else false
mutual
def killD (bs:List Nat):D→D
 | .ow c=>bif mem c bs then .dead else .ow c
 | .win c o l=>bif mem c bs then .dead else .win c o l
 | .ep c i o=>bif mem c bs then .dead else .ep c i o
 | .ptr c o=>bif mem c bs then .dead else .ptr c o
 | .mp c=>bif mem c bs then .dead else .mp c
 | .agg cs=>.agg (killL bs cs)
 | .tup vs=>.tup (killL bs vs)
 | .fn g caps=>.fn g (killL bs caps)
 | d=>d
def killL (bs:List Nat):List D→List D
 | []=>[]
 | d :: r=>killD bs d :: killL bs r
end
def killE (bs:List Nat):Env→Env
 | []=>[]
 | (k,d) :: r=>(k,killD bs d) :: killE bs r
def killB (bs:List Nat):Blk→Blk
 | .box cs fr=>.box (killL bs cs) fr
 | x=>x
def killH (bs:List Nat):Heap→Heap
 | []=>[]
 | (k,x) :: r=>(k,killB bs x) :: killH bs r
def ren1:List (Nat×Nat)→Nat→Option Nat
 | [],_=>none
 | (a,b) :: r,i=>bif (a == i) then some b else ren1 r i
mutual
def renD (m:List (Nat×Nat)):D→D
 | .ow b=>(match ren1 m b with | some c=>.ow c | none=>.dead)
 | .win b o l=>(match ren1 m b with | some c=>.win c o l | none=>.dead)
 | .ep b i o=>(match ren1 m b with | some c=>.ep c i o | none=>.dead)
 | .ptr b o=>(match ren1 m b with | some c=>.ptr c o | none=>.dead)
 | .mp b=>(match ren1 m b with | some c=>.mp c | none=>.dead)
 | .agg cs=>.agg (renL m cs)
 | .tup vs=>.tup (renL m vs)
 | .fn g caps=>.fn g (renL m caps)
 | d=>d
def renL (m:List (Nat×Nat)):List D→List D
 | []=>[]
 | d :: r=>renD m d :: renL m r
end
def renB (m:List (Nat×Nat))(dy:Bool→Bool):Blk→Blk
 | .box cs fr=>.box (renL m cs) fr
 | .itr s p=>.itr s p
 | .row nz esz xs p d=>.row nz esz xs p (dy d)
 | .mapB cs fr=>.mapB cs fr
def pickH (m:List (Nat×Nat))(dy:Nat→Bool→Bool)(H:Heap):List (Nat×Nat)→Heap
 | []=>[]
 | (b,c) :: r=>match hget H b with
   | some x=>(c,renB m (dy b) x) :: pickH m dy H r
   | none=>pickH m dy H r
def without (l:List Nat):Heap→Heap
 | []=>[]
 | (k,x) :: r=>bif mem k l then without l r else (k,x) :: without l r
def catH:Heap→Heap→Heap
 | [],H=>H
 | x :: r,H=>x :: catH r H
def joinM:List (Nat×Nat)→List (Nat×Nat)→List (Nat×Nat)
 | [],l=>l
 | a :: r,l=>a :: joinM r l
def idsOf:Heap→List Nat
 | []=>[]
 | (k,_) :: r=>k :: idsOf r
def names:List Nat→Nat→List (Nat×Nat)
 | [],_=>[]
 | b :: r,k=>(b,k) :: names r (k + 1)
def back:List Nat→Nat→List (Nat×Nat)
 | [],_=>[]
 | b :: r,k=>(k,b) :: back r (k + 1)
def same:List Nat→List (Nat×Nat)
 | []=>[]
 | a :: r=>(a,a) :: same r
def parId:Nat:=500000
def resId:Nat:=600000
structure Head where
 ts:List Nat
 bs:List Nat
def keepE (m:List (Nat×Nat))(e:Env):List Nat→Env
 | []=>[]
 | t :: r=>(t,renD m (get e t)) :: keepE m e r
def atHead (h:Head)(e:Env)(H:Heap):Env×Heap:=
 (keepE (same h.bs) e h.ts,pickH (same h.bs) (fun _ d=>d) H (same h.bs))
mutual
def frz : Nat → D → Heap → Option (D × Heap)
 | 0,_,_=>none
 | n + 1,d,H=>match d with
   | .ow b=>(match hget H b with
     | some (.row nz esz xs _ dy)=>some (.fz nz esz xs,hset H b (.row nz esz xs xs.length dy))
     | _=>none)
   | .win b o l=>(match hget H b with
     | some (.row nz esz xs _ dy)=>(match decide (o + l≤xs.length) with
       | true=>some (.fz false esz (cut xs o l),hset H b (.row nz esz xs xs.length dy))
       | false=>none)
     | _=>none)
   | .ep b i o=>(match hget H b with
     | some (.row nz esz xs _ dy)=>(match xs[i]? with
       | some d=>some (.fp (cellsOf d) o,hset H b (.row nz esz xs xs.length dy))
       | none=>none)
     | _=>none)
   | .ptr b o=>(match hget H b with
     | some (.box cs _)=>(match frzL n cs H with
       | some (cs',H')=>(match hget H' b with
         | some (.box _ _)=>some (.fp cs' o,hset H' b (.box cs' true))
         | _=>none)
       | none=>none)
     | _=>none)
   | .mp b=>(match hget H b with
     | some (.mapB cs _)=>some (.fm cs,hset H b (.mapB cs true))
     | _=>none)
   | .agg cs=>(match frzL n cs H with | some (cs',H')=>some (.agg cs',H') | none=>none)
   | .tup cs=>(match frzL n cs H with | some (cs',H')=>some (.tup cs',H') | none=>none)
   | .fn g cs=>(match frzL n cs H with | some (cs',H')=>some (.fn g cs',H') | none=>none)
   | .dead=>none
   | d=>some (d,H)
def frzL:Nat→List D→Heap→Option (List D×Heap)
 | 0,_,_=>none
 | n + 1,l,H=>match l with
   | []=>some ([],H)
   | d :: r=>(match frz n d H with
     | some (d',H')=>(match frzL n r H' with
       | some (r',H'')=>some (d' :: r',H'')
       | none=>none)
     | none=>none)
end
def deep:Nat:=400
def ghost : RG → Env → Heap → Option (Env × Heap)
 | .fr t,e,H=>match frz deep (get e t) H with
   | some (d,H')=>some (set e t d,H')
   | none=>none
 | .wh t tid,e,H=>match get e t with
   | .win b o l=>(match hget H b with
     | some (.row _ esz xs p _)=>(match decide (o + l≤xs.length) && decide (p≤o + l) && (bif (b == tid) then true else noMem (idsOf H) [tid]) with
       | true=>some (set (killE [b] e) t (.ow tid),hset (killH [b] (without [b] H)) tid (.row false esz (cut xs o l) (p - o) true))
       | false=>none)
     | _=>none)
   | .ow b=>(match hget H b with
     | some (.row nz esz xs p _)=>(match (bif (b == tid) then true else noMem (idsOf H) [tid]) with
       | true=>some (set (killE [b] e) t (.ow tid),hset (killH [b] (without [b] H)) tid (.row nz esz xs p true))
       | false=>none)
     | _=>none)
   | .fz _ _ _=>some (e,H)
   | _=>none
 | .rn t tid,e,H=>match get e t with
   | .ow b=>(match (b == tid) with
     | true=>some (e,H)
     | false=>(match hget H b with
       | some (.row nz esz xs p dy)=>(match noMem (idsOf H) [tid] with
         | true=>some (set (killE [b] e) t (.ow tid),hset (killH [b] (without [b] H)) tid (.row nz esz xs p true))
         | false=>none)
       | _=>none))
   | _=>none
 | .nr t tid esz,e,H=>match get e t with
   | .fz true _ xs=>(match xs with
     | []=>(match noMem (idsOf H) [tid] with
       | true=>some (set e t (.ow tid),hset H tid (.row true esz [] 0 true))
       | false=>none)
     | _ :: _=>none)
   | .ow b=>(match (b == tid) with
     | true=>some (e,H)
     | false=>none)
   | _=>none
 | .dr ids,e,H=>some (killE ids e,killH ids (without ids H))
 | .bl t ids,e,H=>some (set e t (killD ids (get e t)),H)
def kEq:IntKind→IntKind→Bool
 | .i64,.i64=>true
 | .u8,.u8=>true
 | .i32,.i32=>true
 | .u64,.u64=>true
 | .u32,.u32=>true
 | .i16,.i16=>true
 | .u16,.u16=>true
 | .i8,.i8=>true
 | _,_=>false
def eqK:List Nat→List D→List D→Option Bool
 | [],[],[]=>some true
 | k :: ks,x :: xs,y :: ys=>(match k with
   | 0=>(match x,y with
     | .int j a,.int i b=>(match kEq j i,eqK ks xs ys with | true,some r=>some (decide (a=b) && r) | _,_=>none)
     | _,_=>none)
   | 1=>(match x,y with
     | .bool a,.bool b=>(match eqK ks xs ys with | some r=>some ((a == b) && r) | none=>none)
     | _,_=>none)
   | 2=>(match x,y with
     | .str a,.str b=>(match eqK ks xs ys with | some r=>some (seq a b && r) | none=>none)
     | _,_=>none)
   | _=>none)
 | _,_,_=>none
def keyEq:D→D→Option Bool
 | .str a,.str b=>some (seq a b)
 | .int j a,.int k b=>(match kEq j k with | true=>some (decide (a=b)) | false=>none)
 | .bool a,.bool b=>some (a == b)
 | _,_=>none
def kindOk:Nat→D→Bool
 | 0,.int _ _=>true
 | 1,.bool _=>true
 | 2,.str _=>true
 | _,_=>false
def mfind (k:D):List D→Option (Option D)
 | []=>some none
 | [_]=>none
 | k' :: v :: r=>(match keyEq k k' with
   | some true=>some (some v)
   | some false=>mfind k r
   | none=>none)
def mput (k v:D):List D→Option (List D)
 | []=>some [k,v]
 | [_]=>none
 | k' :: u :: r=>(match keyEq k k' with
   | some true=>some (k :: v :: r)
   | some false=>(match mput k v r with | some l=>some (k' :: u :: l) | none=>none)
   | none=>none)
def mdel (k:D):List D→Option (List D)
 | []=>some []
 | [_]=>none
 | k' :: u :: r=>(match keyEq k k' with
   | some true=>some r
   | some false=>(match mdel k r with | some l=>some (k' :: u :: l) | none=>none)
   | none=>none)
def mapOf (H:Heap):D→Option (List D)
 | .fm cs=>some cs
 | .mp b=>(match hget H b with | some (.mapB cs _)=>some cs | _=>none)
 | _=>none
def optInt (e:Env):Option Opd→Bool
 | none=>true
 | some x=>(match rho e x with | .int _ _=>true | _=>false)
def isNil:Nat→D→Option Bool
 | 0,.fz true _ xs=>some xs.isEmpty
 | 0,.fz false _ (_ :: _)=>some false
 | 1,.nilp=>some true
 | 1,.fp _ _=>some false
 | 1,.ptr _ _=>some false
 | 2,.nilfn=>some true
 | 2,.fn _ _=>some false
 | _,_=>none
def intBin (k:IntKind)(a b:Int):BinOp→Option D
 | .add=>some (.int k (k.wrap (a + b)))
 | .sub=>some (.int k (k.wrap (a - b)))
 | .mul=>some (.int k (k.wrap (a * b)))
 | .quo=>(match decide (b=0) with | true=>none | false=>some (.int k (k.wrap (a.tdiv b))))
 | .rem=>(match decide (b=0) with | true=>none | false=>some (.int k (a.tmod b)))
 | .lss=>some (.bool (decide (a < b)))
 | .gtr=>some (.bool (decide (b < a)))
 | .leq=>some (.bool (decide (a≤b)))
 | .geq=>some (.bool (decide (b≤a)))
 | .eql=>some (.bool (decide (a=b)))
 | .neq=>some (.bool (!decide (a=b)))
 | .shr=>(match decide (b=1) with | true=>some (.int k (a.fdiv 2)) | false=>none)
 | _=>none
def strBin (a b:ByteArray):BinOp→Option D
 | .lss=>some (.bool (slt a b))
 | .gtr=>some (.bool (!(slt a b || seq a b)))
 | .leq=>some (.bool (slt a b || seq a b))
 | .geq=>some (.bool (!slt a b))
 | .eql=>some (.bool (seq a b))
 | .neq=>some (.bool (!seq a b))
 | .add=>(match decide (((a.size + b.size:Nat):Int)≤IntKind.i64.max) with | true=>some (.str (a ++ b)) | false=>none)
 | _=>none
def ordBin (op:BinOp)(x y:D):Option D:=
 match x with
 | .int k a=>(match y with | .int j b=>(match kEq k j with | true=>intBin k a b op | false=>none) | _=>none)
 | .str a=>(match y with | .str b=>strBin a b op | _=>none)
 | _=>none
def asVar (ag:Bool)(sz off:Nat)(cs:List D):Option D:=
 match ag with
 | true=>(match part cs off sz with | some l=>some (.agg l) | none=>none)
 | false=>cell cs off
def ldD (H:Heap)(sz:Nat)(ag:Bool):D→Option D
 | .ptr b off=>(match hget H b with
   | some (.box cs _)=>asVar ag sz off cs
   | _=>none)
 | .ep b i off=>(match hget H b with
   | some (.row _ _ xs _ _)=>(match xs[i]? with
     | some d=>asVar ag sz off (cellsOf d)
     | none=>none)
   | _=>none)
 | .fp cs off=>asVar ag sz off cs
 | _=>none
def agLike:D→List D→D
 | .agg _,cs=>.agg cs
 | d,cs=>(match cs with | [c]=>c | _=>d)
def stD (H:Heap)(sz:Nat)(p v:D):Option Heap:=
 match (clen (cellsOf v) == sz) && solidL (cellsOf v) with
 | false=>none
 | true=>match p with
   | .ptr b off=>(match hget H b with
     | some (.box cs false)=>(match putAt cs off (cellsOf v) with
       | some cs'=>some (hset H b (.box cs' false))
       | none=>none)
     | _=>none)
   | .ep b i off=>(match hget H b with
     | some (.row nz esz xs pr dy)=>(match decide (pr≤i) && closed v,xs[i]? with
       | true,some d=>(match putAt (cellsOf d) off (cellsOf v) with
         | some cs'=>some (hset H b (.row nz esz (xs.set i (agLike d cs')) pr dy))
         | none=>none)
       | _,_=>none)
     | _=>none)
   | _=>none
def lenD (H:Heap):D→Option D
 | .fz _ _ xs=>some (.int .i64 xs.length)
 | .ow b=>(match hget H b with
   | some (.row _ _ xs _ _)=>some (.int .i64 xs.length)
   | _=>none)
 | .win _ _ l=>some (.int .i64 l)
 | _=>none
def lenOf (str:Bool)(H:Heap)(d:D):Option D:=
 match str with
 | true=>(match d with | .str s=>some (.int .i64 s.size) | _=>none)
 | false=>lenD H d
def iadD (H:Heap)(esz:Nat)(x:D)(i:Int):Option D:=
 match x with
 | .fz _ z xs=>(match inb i xs.length,(z == esz) with
   | true,true=>(match xs[i.toNat]? with
     | some d=>some (.fp (cellsOf d) 0)
     | none=>none)
   | _,_=>none)
 | .ow b=>(match hget H b with
   | some (.row _ z xs _ _)=>(match inb i xs.length,(z == esz) with
     | true,true=>some (.ep b i.toNat 0)
     | _,_=>none)
   | _=>none)
 | .win b o l=>(match hget H b with
   | some (.row _ z xs _ _)=>(match inb i l,(z == esz) with
     | true,true=>some (.ep b (o + i.toNat) 0)
     | _,_=>none)
   | _=>none)
 | _=>none
def elems (H:Heap)(esz:Nat):D→Option (List D)
 | .fz _ z xs=>(match (z == esz) with
   | true=>some xs
   | false=>none)
 | .ow b=>(match hget H b with
   | some (.row _ z xs _ _)=>(match (z == esz) with
     | true=>some xs
     | false=>none)
   | _=>none)
 | .win b o l=>(match hget H b with
   | some (.row _ z xs _ _)=>(match decide (o + l≤xs.length) && (z == esz) with
     | true=>some (cut xs o l)
     | false=>none)
   | _=>none)
 | _=>none
def appOp (tid esz bytes:Nat)(x y:D)(e:Env)(H:Heap):Option (D×Env×Heap):=
 match elems H esz y with
 | none=>none
 | some ys=>match x with
   | .fz true _ xs=>(match xs with
     | _ :: _=>none
     | []=>(match fits ys.length bytes && noMem (idsOf H) [tid] with
       | true=>some (.ow tid,e,hset H tid (.row true esz ys 0 true))
       | false=>none))
   | .ow b=>(match hget H b with
     | some (.row nz z xs p _)=>(match fits (xs.length + ys.length) bytes && (z == esz) with
       | true=>some (.ow b,killE [b] e,hset (killH [b] H) b (.row nz z (xs ++ ys) p true))
       | false=>none)
     | _=>none)
   | .win b o l=>(match hget H b with
     | some (.row nz z xs p _)=>(match fits (l + ys.length) bytes && (z == esz) && (o == 0) && decide (p≤l) && decide (l≤xs.length) with
       | true=>some (.ow b,killE [b] e,hset (killH [b] H) b (.row false z (cut xs 0 l ++ ys) p true))
       | false=>none)
     | _=>none)
   | _=>none
def slcD (str:Bool)(esz:Nat)(H:Heap)(x:D)(lo hi:Int):Option D:=
 match str with
 | true=>(match x with
   | .str s=>(match inc hi s.size && inc lo hi.toNat with
     | true=>some (.str (s.extract lo.toNat hi.toNat))
     | false=>none)
   | _=>none)
 | false=>(match x with
   | .fz nz z xs=>(match inc hi xs.length && inc lo hi.toNat && (z == esz) with
     | true=>some (.fz (nz && xs.isEmpty) z (cut xs lo.toNat (hi.toNat - lo.toNat)))
     | false=>none)
   | .ow b=>(match hget H b with
     | some (.row _ z xs _ _)=>(match inc hi xs.length && inc lo hi.toNat && (z == esz) with
       | true=>some (.win b lo.toNat (hi.toNat - lo.toNat))
       | false=>none)
     | _=>none)
   | .win b o l=>(match hget H b with
     | some (.row _ z _ _ _)=>(match inc hi l && inc lo hi.toNat && (z == esz) with
       | true=>some (.win b (o + lo.toNat) (hi.toNat - lo.toNat))
       | false=>none)
     | _=>none)
   | _=>none)
def lowOf (e:Env):Option Opd→D
 | none=>.int .i64 0
 | some o=>rho e o
def highOf (str:Bool)(e:Env)(H:Heap)(x:D):Option Opd→Option D
 | none=>lenOf str H x
 | some o=>some (rho e o)
def parts (e:Env):List (Nat×Nat×Opd)→List D→Option (List D)
 | [],cs=>some cs
 | (o,n,x) :: r,cs=>match (clen (cellsOf (rho e x)) == n) && known (rho e x),putAt cs o (cellsOf (rho e x)) with
   | true,some cs'=>parts e r cs'
   | _,_=>none
def maxL:Int→List D→Option Int
 | a,[]=>some a
 | a,.int _ b :: r=>maxL (max a b) r
 | _,_=>none
def minL:Int→List D→Option Int
 | a,[]=>some a
 | a,.int _ b :: r=>minL (min a b) r
 | _,_=>none
def allEsz (n:Nat):List D→Bool
 | []=>true
 | d :: r=>bif (clen (cellsOf d) == n) then allEsz n r else false
inductive X where
 | nor
 | ret
 | ex (n:Nat)
structure Ora where
 call:Nat→List D→Heap→Option (D×Heap)
 loop:Nat→Env→Heap→Option (X×Env×Heap)
def turned (H:Heap):List (Nat×Nat)→List Nat
 | []=>[]
 | (b,c) :: r=>match hget H c with
   | some (.row _ _ _ _ false)=>turned H r
   | some (.box _ _)=>turned H r
   | some (.itr _ _)=>turned H r
   | some (.mapB _ _)=>turned H r
   | _=>b :: turned H r
def wasDirty (H:Heap)(b:Nat):Bool:=
 match hget H b with
 | some (.row _ _ _ _ d)=>d
 | some (.box _ _)=>false
 | some (.itr _ _)=>false
 | some (.mapB _ _)=>false
 | none=>true
def dom:List (Nat×Nat)→List Nat
 | []=>[]
 | (a,_) :: r=>a :: dom r
def ran:List (Nat×Nat)→List Nat
 | []=>[]
 | (_,a) :: r=>a :: ran r
def allMem (l:List Nat):List Nat→Bool
 | []=>true
 | a :: r=>bif mem a l then allMem l r else false
def markBack (m:List (Nat×Nat))(H:Heap)(c:Nat)(d:Bool):Bool:=
 match ren1 m c with
 | some b=>d || wasDirty H b
 | none=>true
def callOp (O : Ora) (f : D) (args : List D) (bs tids : List Nat) (e : Env) (H : Heap) : Option (D × Env × Heap) :=
 match f with
 | .fn g caps=>(match distinct bs && distinct tids && noMem (idsOf H) tids && noMem bs tids && smallL tids with
   | false=>none
   | true => (match O.call g (renL (names bs parId) (args ++ caps)) (pickH (names bs parId) (fun _ _ => false) H (names bs parId)) with
     | none=>none
     | some (r,Ho)=>some (renD (joinM (back bs parId) (back tids resId)) r,
           killE (turned Ho (names bs parId)) e,
           catH (killH (turned Ho (names bs parId)) (without bs H))
             (pickH (joinM (back bs parId) (back tids resId)) (markBack (joinM (back bs parId) (back tids resId)) H) Ho (joinM (back bs parId) (back tids resId))))))
 | _=>none
def plainL:List D→Bool
 | []=>true
 | .int _ _ :: r=>plainL r
 | .bool _ :: r=>plainL r
 | .str _ :: r=>plainL r
 | _=>false
def plainR:D→Bool
 | .int _ _=>true
 | .bool _=>true
 | .str _=>true
 | .tup vs=>plainL vs
 | _=>false
def bzCall (O:Ora)(g:Nat)(args:List D)(H:Heap):Option (D×Heap):=match frzL deep args H with
  | some (as,_)=>(match O.call g as [] with
    | some (r,[])=>(match plainR r with
      | true=>some (r,H)
      | false=>none)
    | _=>none)
  | none=>none
mutual
def sound (bs:List Nat):D→Bool
 | .ow c=>!mem c bs
 | .win c _ _=>!mem c bs
 | .ep c _ _=>!mem c bs
 | .ptr c _=>!mem c bs
 | .mp c=>!mem c bs
 | .agg cs=>soundL bs cs
 | .tup vs=>soundL bs vs
 | .fn _ caps=>soundL bs caps
 | .dead=>false
 | _=>true
def soundL (bs:List Nat):List D→Bool
 | []=>true
 | d :: r=>bif sound bs d then soundL bs r else false
end
def namedIn (as:List D):List Nat→Bool
 | []=>true
 | b :: r=>bif soundL [b] as then false else namedIn as r
def allRow (H:Heap):List Nat→Bool
 | []=>true
 | b :: r=>match hget H b with
   | some (.row _ _ _ _ _)=>allRow H r
   | _=>false
def evOp (O:Ora)(e:Env)(H:Heap):RO→Option (D×Env×Heap)
 | .mov x=>some (rho e x,e,H)
 | .pick c a b=>(match rho e c with
   | .bool p=>(match rho e a,rho e b with
     | .bool u,.bool v=>some (.bool (bif p then u else v),e,H)
     | u,v=>(bif p then some (u,e,H) else some (v,e,H)))
   | _=>none)
 | .box id x=>(match noMem (idsOf H) [id] && smallL [id] && solidL (cellsOf (rho e x)) with
   | true=>some (.ptr id 0,e,hset H id (.box (cellsOf (rho e x)) false))
   | false=>none)
 | .ld sz ag x=>(match ldD H sz ag (rho e x) with | some d=>some (d,e,H) | none=>none)
 | .st sz x v=>(match stD H sz (rho e x) (rho e v) with | some H'=>some (.dead,e,H') | none=>none)
 | .bin op x y=>(match ordBin op (rho e x) (rho e y) with | some d=>some (d,e,H) | none=>none)
 | .eqA neg ks x y=>(match rho e x,rho e y with
   | .agg cs,.agg ds=>(match eqK ks cs ds with
     | some b=>some (.bool (bif neg then !b else b),e,H)
     | none=>none)
   | _,_=>none)
 | .eqB neg x y=>(match rho e x,rho e y with
   | .bool p,.bool q=>some (.bool (bif neg then !(p == q) else p == q),e,H)
   | _,_=>none)
 | .eqN neg k x=>(match isNil k (rho e x) with
   | some b=>some (.bool (bif neg then !b else b),e,H)
   | none=>none)
 | .not x=>(match rho e x with | .bool b=>some (.bool (!b),e,H) | _=>none)
 | .neg x=>(match rho e x with | .int k n=>some (.int k (k.wrap (0 - n)),e,H) | _=>none)
 | .fld off x=>(match rho e x with
   | .ptr b o=>some (.ptr b (o + off),e,H)
   | .ep b i o=>some (.ep b i (o + off),e,H)
   | .fp cs o=>some (.fp cs (o + off),e,H)
   | _=>none)
 | .iadS esz x i=>(match rho e i with
   | .int _ n=>(match iadD H esz (rho e x) n with | some d=>some (d,e,H) | none=>none)
   | _=>none)
 | .iadA n esz x i=>(match rho e i with
   | .int _ j=>(match inb j n with
     | false=>none
     | true=>(match rho e x with
       | .ptr b o=>some (.ptr b (o + j.toNat * esz),e,H)
       | .ep b k o=>some (.ep b k (o + j.toNat * esz),e,H)
       | .fp cs o=>some (.fp cs (o + j.toNat * esz),e,H)
       | _=>none))
   | _=>none)
 | .fldv off sz ag x=>(match rho e x with
   | .agg cs=>(match asVar ag sz off cs with | some d=>some (d,e,H) | none=>none)
   | _=>none)
 | .idxA n esz ag x i=>(match rho e x,rho e i with
   | .agg cs,.int _ j=>(match inb j n with
     | false=>none
     | true=>(match asVar ag esz (j.toNat * esz) cs with | some d=>some (d,e,H) | none=>none))
   | _,_=>none)
 | .idxS x i=>(match rho e x,rho e i with
   | .str s,.int _ j=>(match inb j s.size with
     | true=>some (.int .u8 (bat s j.toNat),e,H)
     | false=>none)
   | _,_=>none)
 | .build z ps=>(match parts e ps z with | some cs=>some (.agg cs,e,H) | none=>none)
 | .bsl esz ps=>(match closedL (rhos e ps) && allEsz esz (rhos e ps) && solidAll (rhos e ps) with
   | true=>some (.fz false esz (rhos e ps),e,H)
   | false=>none)
 | .app tid esz bytes x y=>appOp tid esz bytes (rho e x) (rho e y) e H
 | .len str x=>(match lenOf str H (rho e x) with | some d=>some (d,e,H) | none=>none)
 | .slc str esz x lo hi=>(match lowOf e lo,highOf str e H (rho e x) hi with
   | .int _ l,some (.int _ h)=>(match slcD str esz H (rho e x) l h with | some d=>some (d,e,H) | none=>none)
   | _,_=>none)
 | .ext x i=>(match rho e x with
   | .tup vs=>(match cell vs i with | some d=>some (d,e,H) | none=>none)
   | _=>none)
 | .mkfn g cs=>some (.fn g (rhos e cs),e,H)
 | .nilchk x=>(match rho e x with
   | .ptr b o=>some (.ptr b o,e,H)
   | .ep b i o=>some (.ep b i o,e,H)
   | .fp cs o=>some (.fp cs o,e,H)
   | .fn g cs=>some (.fn g cs,e,H)
   | _=>none)
 | .call f args bs tids=>callOp O (rho e f) (rhos e args) bs tids e H
 | .callq f args=>(match rho e f with
   | .fn g caps=>(match O.call g (renL [] (rhos e args ++ caps)) [] with
     | some (r,_)=>some (renD [] r,e,H)
     | none=>none)
   | _=>none)
 | .callf f args=>(match rho e f with
   | .fn g caps=>(match O.call g (renL [] (rhos e args ++ caps)) [] with
     | some (r,Ho)=>(match frz deep r Ho with
       | some (r',_)=>some (renD [] r',e,H)
       | none=>none)
     | none=>none)
   | _=>none)
 | .mx args=>(match rhos e args with
   | .int k a :: r=>(match maxL a r with | some n=>some (.int k n,e,H) | none=>none)
   | _=>none)
 | .mn args=>(match rhos e args with
   | .int k a :: r=>(match minL a r with | some n=>some (.int k n,e,H) | none=>none)
   | _=>none)
 | .conv k x=>(match rho e x with
   | .int _ n=>some (.int k (k.wrap n),e,H)
   | _=>none)
 | .convS x=>(match rho e x with
   | .str s=>some (.str s,e,H)
   | _=>none)
 | .mks tid esz bytes z len=>(match rho e len with
   | .int _ n=>(match decide (0≤n) && fits n.toNat bytes && noMem (idsOf H) [tid] && closed z && (clen (cellsOf z) == esz) && solidL (cellsOf z) with
     | true=>some (.ow tid,e,hset H tid (.row false esz (List.replicate n.toNat z) 0 true))
     | false=>none)
   | _=>none)
 | .capz x=>(match rho e x with
   | .fz true _ []=>some (.int .i64 0,e,H)
   | _=>none)
 | .apz tid esz bytes z x len=>(match rho e x,rho e len with
   | .fz true _ [],.int _ n=>(match decide (0 < n) && fits n.toNat bytes && noMem (idsOf H) [tid] && closed z && (clen (cellsOf z) == esz) && solidL (cellsOf z) with
     | true=>some (.ow tid,e,hset H tid (.row true esz (List.replicate n.toNat z) 0 true))
     | false=>none)
   | _,_=>none)
 | .bso tid esz ps=>(match closedL (rhos e ps) && allEsz esz (rhos e ps) && solidAll (rhos e ps) && noMem (idsOf H) [tid] with
   | true=>some (.ow tid,e,hset H tid (.row false esz (rhos e ps) 0 true))
   | false=>none)
 | .clr esz z x=>(match rho e x,closed z && (clen (cellsOf z) == esz) && solidL (cellsOf z) with
   | .win b o l,true=>(match hget H b with
     | some (.row nz sz xs p dy)=>(match decide (p≤o) && decide (o + l≤xs.length) && (sz == esz) with
       | true=>some (.tup [],e,hset H b (.row nz sz (xs.take o ++ List.replicate l z ++ xs.drop (o + l)) p dy))
       | false=>none)
     | _=>none)
   | _,_=>none)
 | .rng id x=>(match rho e x,noMem (idsOf H) [id] && smallL [id] with
   | .str s,true=>some (.ptr id 0,e,hset H id (.itr s 0))
   | _,_=>none)
 | .nxt x=>(match rho e x with
   | .ptr b 0=>(match hget H b with
     | some (.itr s pos)=>(match decide (pos < s.size) with
       | true=>some (.tup [.bool true,.int .i64 pos,.int .i32 (Utf8.decode s pos).1],e,hset H b (.itr s (pos + (Utf8.decode s pos).2)))
       | false=>some (.tup [.bool false],e,H))
     | _=>none)
   | _=>none)
 | .mkm id r=>(match noMem (idsOf H) [id] && smallL [id] && optInt e r with
   | true=>some (.mp id,e,hset H id (.mapB [] false))
   | false=>none)
 | .lku kd z x k ok=>(match mapOf H (rho e x),kindOk kd (rho e k) with
   | some cs,true=>(match mfind (rho e k) cs with
     | some (some v)=>some (bif ok then .tup [v,.bool true] else v,e,H)
     | some none=>some (bif ok then .tup [z,.bool false] else z,e,H)
     | none=>none)
   | _,_=>none)
 | .mup kd x k v=>(match rho e x,kindOk kd (rho e k) && closed (rho e v) with
   | .mp b,true=>(match hget H b with
     | some (.mapB cs false)=>(match mput (rho e k) (rho e v) cs with
       | some cs'=>some (.dead,e,hset H b (.mapB cs' false))
       | none=>none)
     | _=>none)
   | _,_=>none)
 | .callb f args bs=>callOp ⟨bzCall O,fun _ _ _=>none⟩ (rho e f) (rhos e args) bs [] e H
 | .mdl kd x k=>(match rho e x,kindOk kd (rho e k) with
   | .mp b,true=>(match hget H b with
     | some (.mapB cs false)=>(match mdel (rho e k) cs with
       | some cs'=>some (.tup [],e,hset H b (.mapB cs' false))
       | none=>none)
     | _=>none)
   | _,_=>none)
 | .callc f args bs=>(match rho e f with
   | .fn g caps=>(match distinct bs && namedIn (rhos e args ++ caps) bs && allRow H bs with
     | false=>none
     | true=>(match bzCall O g (renL (names bs parId) (rhos e args ++ caps)) (pickH (names bs parId) (fun _ _=>false) H (names bs parId)) with
       | some (r,_)=>some (r,e,H)
       | none=>none))
   | _=>none)
def quietO:RO→Bool
 | .mov _=>true
 | .pick _ _ _=>true
 | .ld _ _ _=>true
 | .bin _ _ _=>true
 | .eqA _ _ _ _=>true
 | .eqB _ _ _=>true
 | .eqN _ _ _=>true
 | .not _=>true
 | .neg _=>true
 | .fld _ _=>true
 | .iadS _ _ _=>true
 | .iadA _ _ _ _=>true
 | .fldv _ _ _ _=>true
 | .idxA _ _ _ _ _=>true
 | .idxS _ _=>true
 | .build _ _=>true
 | .bsl _ _=>true
 | .len _ _=>true
 | .slc _ _ _ _ _=>true
 | .ext _ _=>true
 | .mkfn _ _=>true
 | .nilchk _=>true
 | .callq _ _=>true
 | .callf _ _=>true
 | .lku _ _ _ _ _=>true
 | .capz _=>true
 | .mx _=>true
 | .mn _=>true
 | .conv _ _=>true
 | .convS _=>true
 | .callc _ _ _=>true
 | _=>false
def catL:List Nat→List Nat→List Nat
 | [],l=>l
 | a :: r,l=>a :: catL r l
mutual
def dstsI:RI→List Nat
 | .op d _=>[d]
 | .sc d _ _ _ blk _ _=>catL (dsts blk) [d]
def dsts:List RI→List Nat
 | []=>[]
 | i :: r=>catL (dstsI i) (dsts r)
end
def wipe (l:List Nat):Env→Env
 | []=>[]
 | (k,d) :: r=>bif mem k l then wipe l r else (k,d) :: wipe l r
def scEnd (want strict p:Bool)(d:Nat)(res alt:Opd)(e1:Env)(r:Option Env):Option Env:=
 match strict with
 | true=>(match r with
   | some e'=>(match rho e' res,rho e1 alt with
     | .bool q,.bool r=>some (set e1 d (.bool (jn want p q r)))
     | _,_=>none)
   | none=>none)
 | false=>(match jn want p true false with
   | true=>(match r with
     | some e'=>some (set e1 d (rho e' res))
     | none=>none)
   | false=>some (set e1 d (rho e1 alt)))
mutual
def evI (O:Ora)(H:Heap):RI→Env→Option Env
 | .op d o,e=>(match evOp O e H o with
   | some (v,_,_)=>some (set e d v)
   | none=>none)
 | .sc d c want strict blk res alt,e=>(match get e c with
   | .bool p=>scEnd want strict p d res alt (wipe (dsts blk) e) (evIs O H blk e)
   | _=>none)
def evIs (O:Ora)(H:Heap):List RI→Env→Option Env
 | [],e=>some e
 | i :: r,e=>(match evI O H i e with
   | some e'=>evIs O H r e'
   | none=>none)
end
def optX:Option Opd→List Opd
 | none=>[]
 | some x=>[x]
def opds:RO→List Opd
 | .mov x=>[x]
 | .pick c a b=>[c,a,b]
 | .ld _ _ x=>[x]
 | .bin _ x y=>[x,y]
 | .eqA _ _ x y=>[x,y]
 | .eqB _ x y=>[x,y]
 | .eqN _ _ x=>[x]
 | .not x=>[x]
 | .neg x=>[x]
 | .fld _ x=>[x]
 | .iadS _ x i=>[x,i]
 | .iadA _ _ x i=>[x,i]
 | .fldv _ _ _ x=>[x]
 | .idxA _ _ _ x i=>[x,i]
 | .idxS x i=>[x,i]
 | .build _ ps=>ps.map (·.2.2)
 | .bsl _ ps=>ps
 | .len _ x=>[x]
 | .slc _ _ x lo hi=>x :: (optX lo ++ optX hi)
 | .ext x _=>[x]
 | .mkfn _ cs=>cs
 | .nilchk x=>[x]
 | .callq f args=>f :: args
 | .callf f args=>f :: args
 | .mx args=>args
 | .mn args=>args
 | .conv _ x=>[x]
 | .convS x=>[x]
 | .capz x=>[x]
 | .box _ x=>[x]
 | .st _ x v=>[x,v]
 | .app _ _ _ x y=>[x,y]
 | .call f args _ _=>f :: args
 | .callb f args _=>f :: args
 | .mks _ _ _ _ x=>[x]
 | .rng _ x=>[x]
 | .nxt x=>[x]
 | .mkm _ r=>optX r
 | .lku _ _ x k _=>[x,k]
 | .mup _ x k v=>[x,k,v]
 | .mdl _ x k=>[x,k]
 | .clr _ _ x=>[x]
 | .apz _ _ _ _ x y=>[x,y]
 | .bso _ _ ps=>ps
 | .callc f args _=>f :: args
def wr (e:Env):RO→List Nat
 | .st _ x _=>(match rho e x with
   | .ptr b _=>[b]
   | .ep b _ _=>[b]
   | _=>[])
 | .app tid _ _ x _=>(match rho e x with
   | .ow b=>[b]
   | .win b _ _=>[b]
   | _=>[tid])
 | .box id _=>[id]
 | .rng id _=>[id]
 | .bso tid _ _=>[tid]
 | .mks tid _ _ _ _=>[tid]
 | .apz tid _ _ _ _ _=>[tid]
 | .nxt x=>(match rho e x with
   | .ptr b _=>[b]
   | _=>[])
 | .clr _ _ x=>(match rho e x with
   | .win b _ _=>[b]
   | _=>[])
 | .mkm id _=>[id]
 | .mup _ x _ _=>(match rho e x with
   | .mp b=>[b]
   | _=>[])
 | .mdl _ x _=>(match rho e x with
   | .mp b=>[b]
   | _=>[])
 | .call _ _ bs tids=>catL bs tids
 | .callb _ _ bs=>catL bs []
 | _=>[]
def nth {α:Type} : List α→Nat→Option α
 | [],_=>none
 | x :: _,0=>some x
 | _ :: r,n + 1=>nth r n
def sideOk (us vals:List D):List Nat→List Nat→Bool
 | [],[]=>soundL [] us && soundL [] vals
 | [],k :: l=>soundL (k :: l) vals
 | k :: l,[]=>soundL (k :: l) us
 | k :: l,k' :: l'=>soundL (k :: l) us && soundL (k' :: l') vals
def chkP (tr:List (List D×List Nat))(vals:List D)(W:List Nat):List Nat→Bool
 | []=>true
 | k :: r=>match nth tr k with
   | some (us,W')=>sideOk us vals W W' && chkP tr vals W r
   | none=>false
def evP (O:Ora):List (Nat×Nat×RO×List Nat)→List (List D×List Nat)→Env→Heap→Option (Env×Heap)
 | [],_,e,H=>some (e,H)
 | (_,d,ro,ck) :: r,tr,e,H=>(match evOp O e H ro with
   | some (v,e',H')=>(match chkP tr (v :: rhos e (opds ro)) (wr e ro) ck with
     | true=>evP O r ((v :: rhos e (opds ro),wr e ro) :: tr) (set e' d v) H'
     | false=>none)
   | none=>none)
def evSts (O:Ora):List (Nat×Nat×RO)→Env→Heap→Option Heap
 | [],_,H=>some H
 | (_,_,ro) :: r,e,H=>(match evOp O e H ro with
   | some (_,_,H')=>evSts O r e H'
   | none=>none)
def evOs (O:Ora):List (Nat×RO)→Env→Heap→Option (Env×Heap)
 | [],e,H=>some (e,H)
 | (d,ro) :: r,e,H=>(match evOp O e H ro with
   | some (v,e',H')=>evOs O r (set e' d v) H'
   | none=>none)
def wd:List (Nat×RO)→List Nat
 | []=>[]
 | (d,_) :: r=>d :: wd r
def evSegs (O:Ora):List Seg→Env→Heap→Option (Env×Heap)
 | [],e,H=>some (e,H)
 | .q l :: r,e,H=>(match evIs O H l e with
   | some e'=>evSegs O r e' H
   | none=>none)
 | .m l _ ls :: r,e,H=>(match evIs O H l e with
   | some e'=>(match evSts O ls e' H with
     | some H'=>evSegs O r e' H'
     | none=>none)
   | none=>none)
 | .o d o :: r,e,H=>(match evOp O e H o with
   | some (v,e',H')=>evSegs O r (set e' d v) H'
   | none=>none)
 | .g g :: r,e,H=>(match ghost g e H with
   | some (e',H')=>evSegs O r e' H'
   | none=>none)
 | .p l :: r,e,H=>(match evP O l [] e H with
   | some (e',H')=>evSegs O r e' H'
   | none=>none)
 | .w c _ want l :: r,e,H=>(match get e c with
   | .bool p=>(match p == want with
     | true=>(match evOs O l e H with
       | some (e',H')=>evSegs O r e' H'
       | none=>none)
     | false=>evSegs O r (wipe (wd l) e) H)
   | _=>none)
def ev (O:Ora):RC→Env→Heap→Option (X×Env×Heap)
 | .skip,e,H=>some (.nor,e,H)
 | .ret,e,H=>some (.ret,e,H)
 | .exit n,e,H=>some (.ex n,e,H)
 | .reg l,e,H=>(match evSegs O l e H with
   | some (e',H')=>some (.nor,e',H')
   | none=>none)
 | .seq a b,e,H=>(match ev O a e H with
   | some (.nor,e',H')=>ev O b e' H'
   | r=>r)
 | .cond c a b,e,H=>(match rho e c with
   | .bool p=>(bif p then ev O a e H else ev O b e H)
   | _=>none)
 | .block n c,e,H=>(match ev O c e H with
   | some (.ex m,e',H')=>(bif (m == n) then some (.nor,e',H') else some (.ex m,e',H'))
   | r=>r)
 | .loop key,e,H=>O.loop key e H
 | .die,_,_=>none
def evk (O:Ora){α:Type} : RC→Env→Heap→(X→Env→Heap→Option α)→Option α
 | .skip,e,H,k=>k .nor e H
 | .ret,e,H,k=>k .ret e H
 | .exit n,e,H,k=>k (.ex n) e H
 | .reg l,e,H,k=>(match evSegs O l e H with
   | some (e',H')=>k .nor e' H'
   | none=>none)
 | .seq a b,e,H,k=>evk O a e H fun x e' H'=>match x with
   | .nor=>evk O b e' H' k
   | x=>k x e' H'
 | .cond c a b,e,H,k=>(match rho e c with
   | .bool p=>(bif p then evk O a e H k else evk O b e H k)
   | _=>none)
 | .block n c,e,H,k=>evk O c e H fun x e' H'=>match x with
   | .ex m=>(bif (m == n) then k .nor e' H' else k (.ex m) e' H')
   | x=>k x e' H'
 | .loop key,e,H,k=>(match O.loop key e H with
   | some (x,e',H')=>k x e' H'
   | none=>none)
 | .die,_,_,_=>none
inductive RV where
 | tmp (t:Nat)
 | cell (t sz:Nat) (ag:Bool)
structure FI where
 body:RC
 res:List RV
 outs:List Nat
structure LI where
 head:Head
 body:RC
def start:Nat→List D→Env
 | _,[]=>[]
 | i,v :: r=>(i,v) :: start (i + 1) r
def rvD (e:Env)(H:Heap):RV→Option D
 | .tmp t=>some (get e t)
 | .cell t sz ag=>ldD H sz ag (get e t)
def rvDs (e:Env)(H:Heap):List RV→Option (List D)
 | []=>some []
 | x :: r=>(match rvD e H x,rvDs e H r with
   | some d,some l=>some (d :: l)
   | _,_=>none)
def resOf (e:Env)(H:Heap)(l:List RV):Option D:=
 match rvDs e H l with
 | none=>none
 | some [d]=>some d
 | some ds=>some (.tup ds)
def handBack (ps outs:List Nat)(v:D)(H:Heap):Option (D×Heap):=
 match distinct (dom (joinM (same ps) (names outs resId))) with
 | true=>some (renD (joinM (same ps) (names outs resId)) v,
     pickH (joinM (same ps) (names outs resId)) (fun _ d=>d) H (joinM (same ps) (names outs resId)))
 | false=>none
def runF (O:Ora)(f:FI)(args:List D)(H:Heap):Option (D×Heap):=
 evk O f.body (start 0 args) H fun x e H'=>match x with
   | .ex _=>none
   | _=>(match resOf e H' f.res with
     | some v=>handBack (idsOf H) f.outs v H'
     | none=>none)
def runL (O:Ora)(key:Nat)(l:LI)(e:Env)(H:Heap):Option (X×Env×Heap):=
 evk O l.body (atHead l.head e H).1 (atHead l.head e H).2 fun x e' H'=>match x with
   | .nor=>O.loop key e' H'
   | x=>some (x,e',H')
structure Tab where
 fn:Nat→Option FI
 lp:Nat→Option LI
 ext:Nat→Option (List D→Heap→Option (D×Heap))
def rounds (T:Tab):Nat→Ora
 | 0=>⟨fun _ _ _=>none,fun _ _ _=>none⟩
 | n + 1 =>
   { call:=fun g args H=>match T.ext g with
       | some s=>s args H
       | none=>match T.fn g with
         | some f=>runF (rounds T n) f args H
         | none=>none
     loop:=fun key e H=>match T.lp key with
       | some l=>runL (rounds T n) key l e H
       | none=>none }
end Gs
namespace Gs
open Go
structure Bi where
 loc:Option (Nat×Nat×Nat)
 k:Option (Bool×Nat×Nat)
abbrev Km:=Nat→Option Bi
abbrev Pm:=Nat→Nat→Option Value
abbrev pt (B o:Nat):Value:=.pointer (some ⟨B,o,none⟩)
mutual
inductive Rel (K:Km) (Q:Pm):D→Value→Prop
 | bool (b):Rel K Q (.bool b) (.bool b)
 | int (k n):Rel K Q (.int k n) (.int k n)
 | str (s):Rel K Q (.str s) (.string s)
 | agg {cs vs} (h:RelL K Q cs vs):Rel K Q (.agg cs) (.agg vs.toArray)
 | tup {cs vs} (h:RelL K Q cs vs):Rel K Q (.tup cs) (.tuple vs.toArray)
 | fzNil (nz esz):Rel K Q (.fz nz esz []) (.slice none 0 0)
 | fzE (esz a cap):Rel K Q (.fz false esz []) (.slice a 0 cap)
 | fz {nz esz xs B o cap} (hn:xs≠[]) (hr:RelRow K Q B o esz xs) (hc:xs.length≤cap) (hx:closedL xs=true):Rel K Q (.fz nz esz xs) (.slice (some ⟨B,o,none⟩) xs.length cap)
 | fp {cs B o} (off) (h:RelAt K Q B o cs) (hx:closedL cs=true):Rel K Q (.fp cs off) (pt B (o + off))
 | nilp:Rel K Q .nilp (.pointer none)
 | owNil {b nz esz} (h:K b=some ⟨none,some (nz,esz,0)⟩):Rel K Q (.ow b) (.slice none 0 0)
 | ow {b B base tot nz esz len cap a} (h:K b=some ⟨some (B,base,tot),some (nz,esz,len)⟩) (hl:len≤cap) (ht:base + cap * esz≤tot) (ha:cap≠0→a=⟨B,base,none⟩):Rel K Q (.ow b) (.slice (some a) len cap)
 | winNil {b nz esz} (h:K b=some ⟨none,some (nz,esz,0)⟩):Rel K Q (.win b 0 0) (.slice none 0 0)
 | win {b B base tot nz esz len cap off l a} (h:K b=some ⟨some (B,base,tot),some (nz,esz,len)⟩) (hl:l≤cap) (ho:off + l≤len) (ht:base + (off + cap) * esz≤tot) (ha:cap≠0→a=⟨B,base + off * esz,none⟩):Rel K Q (.win b off l) (.slice (some a) l cap)
 | ptr {b B tot} (off) (h:K b=some ⟨some (B,0,tot),none⟩):Rel K Q (.ptr b off) (pt B off)
 | ep {b B base tot nz esz len i} (off) (h:K b=some ⟨some (B,base,tot),some (nz,esz,len)⟩) (hi:i < len):Rel K Q (.ep b i off) (pt B (base + i * esz + off))
 | fn {g caps vs} (h:RelL K Q caps vs):Rel K Q (.fn g caps) (.func (.func g) #[] vs.toArray)
 | nilfn:Rel K Q .nilfn .nilFunc
 | mp {b B} (h:K b=some ⟨some (B,0,0),none⟩):Rel K Q (.mp b) (.map (some B))
 | fmNil:Rel K Q (.fm []) (.map none)
 | fm {cs B vs} (hv:Q B 0=some (.tuple vs.toArray)) (h:RelL K Q cs vs) (hx:closedL cs=true):Rel K Q (.fm cs) (.map (some B))
 | dead (v):Rel K Q .dead v
inductive RelL (K:Km) (Q:Pm):List D→List Value→Prop
 | nil:RelL K Q [] []
 | cons {c v cs vs} (h:Rel K Q c v) (t:RelL K Q cs vs):RelL K Q (c :: cs) (v :: vs)
inductive RelAt (K:Km) (Q:Pm):Nat→Nat→List D→Prop
 | nil (B o):RelAt K Q B o []
 | cons {B o c v cs} (hv:Q B o=some v) (h1:v.oneCell'=true) (h:Rel K Q c v) (t:RelAt K Q B (o + 1) cs):RelAt K Q B o (c :: cs)
inductive RelRow (K:Km) (Q:Pm):Nat→Nat→Nat→List D→Prop
 | nil (B o esz):RelRow K Q B o esz []
 | cons {B o esz d xs} (hl:(cellsOf d).length=esz) (h:RelAt K Q B o (cellsOf d)) (t:RelRow K Q B (o + esz) esz xs):RelRow K Q B o esz (d :: xs)
end
mutual
def mapD (m:Nat→Option Nat):D→D
 | .ow b=>(match m b with | some c=>.ow c | none=>.dead)
 | .win b o l=>(match m b with | some c=>.win c o l | none=>.dead)
 | .ep b i o=>(match m b with | some c=>.ep c i o | none=>.dead)
 | .ptr b o=>(match m b with | some c=>.ptr c o | none=>.dead)
 | .mp b=>(match m b with | some c=>.mp c | none=>.dead)
 | .agg cs=>.agg (mapL m cs)
 | .tup vs=>.tup (mapL m vs)
 | .fn g caps=>.fn g (mapL m caps)
 | d=>d
def mapL (m:Nat→Option Nat):List D→List D
 | []=>[]
 | d :: r=>mapD m d :: mapL m r
end
mutual
theorem mapD_closed (m:Nat→Option Nat):∀ d,closed d=true→mapD m d=d
 | .bool _,_=>by simp only [mapD]
 | .int _ _,_=>by simp only [mapD]
 | .str _,_=>by simp only [mapD]
 | .fz _ _ _,_=>by simp only [mapD]
 | .fp _ _,_=>by simp only [mapD]
 | .nilp,_=>by simp only [mapD]
 | .nilfn,_=>by simp only [mapD]
 | .fm _,_=>by simp only [mapD]
 | .mp _,h=>by simp [closed] at h
 | .dead,_=>by simp only [mapD]
 | .ow _,h=>by simp [closed] at h
 | .win _ _ _,h=>by simp [closed] at h
 | .ep _ _ _,h=>by simp [closed] at h
 | .ptr _ _,h=>by simp [closed] at h
 | .agg cs,h=>by simp only [mapD]; rw [mapL_closed m cs (by simpa [closed] using h)]
 | .tup cs,h=>by simp only [mapD]; rw [mapL_closed m cs (by simpa [closed] using h)]
 | .fn g cs,h=>by simp only [mapD]; rw [mapL_closed m cs (by simpa [closed] using h)]
theorem mapL_closed (m:Nat→Option Nat):∀ l,closedL l=true→mapL m l=l
 | [],_=>by simp only [mapL]
 | d :: r,h=>by
   simp only [closedL,Bool.cond_false_right,Bool.and_eq_true] at h
   simp only [mapL]
   rw [mapD_closed m d h.1,mapL_closed m r h.2]
end
mutual
theorem mapD_some:∀ d,mapD some d=d
 | .bool _=>by simp only [mapD]
 | .int _ _=>by simp only [mapD]
 | .str _=>by simp only [mapD]
 | .fz _ _ _=>by simp only [mapD]
 | .fp _ _=>by simp only [mapD]
 | .nilp=>by simp only [mapD]
 | .nilfn=>by simp only [mapD]
 | .mp _=>by simp only [mapD]
 | .fm _=>by simp only [mapD]
 | .dead=>by simp only [mapD]
 | .ow _=>by simp only [mapD]
 | .win _ _ _=>by simp only [mapD]
 | .ep _ _ _=>by simp only [mapD]
 | .ptr _ _=>by simp only [mapD]
 | .agg cs=>by simp only [mapD]; rw [mapL_some cs]
 | .tup cs=>by simp only [mapD]; rw [mapL_some cs]
 | .fn g cs=>by simp only [mapD]; rw [mapL_some cs]
theorem mapL_some:∀ l,mapL some l=l
 | []=>by simp only [mapL]
 | d :: r=>by
   simp only [mapL]
   rw [mapD_some d,mapL_some r]
end
theorem cellsOf_closed {d:D}(h:closed d=true):closedL (cellsOf d)=true:=by
 cases d<;>simp_all [cellsOf,closed,closedL]
theorem closedL_mem {xs:List D}(h:closedL xs=true){d:D}(hd:d∈xs):closed d=true:=by
 induction xs with
 | nil=>simp at hd
 | cons a r ih=>
   simp only [closedL,Bool.cond_false_right,Bool.and_eq_true] at h
   cases hd with
   | head=>exact h.1
   | tail _ hd=>exact ih h.2 hd
theorem closedL_iff {xs:List D} : closedL xs=true↔∀ d∈xs,closed d=true:=by
 refine ⟨fun h d hd=>closedL_mem h hd,fun h=>?_⟩
 induction xs with
 | nil=>rfl
 | cons a r ih=>simp only [closedL,Bool.cond_false_right,Bool.and_eq_true]; exact ⟨h a (by simp),ih fun d hd=>h d (by simp [hd])⟩
structure Maps (m:Nat→Option Nat) (K K':Km) (Q Q':Pm):Prop where
 k:∀ b c i,m b=some c→K b=some i→K' c=some i
 q:∀ B o v,Q B o=some v→Q' B o=some v
section
variable {m:Nat→Option Nat} {K K':Km} {Q Q':Pm}
mutual
theorem Rel.map (hm:Maps m K K' Q Q'):∀ {d:D} {v:Value},Rel K Q d v→Rel K' Q' (mapD m d) v
 | _,_,.bool b=>by simp only [mapD]; exact .bool b
 | _,_,.int k n=>by simp only [mapD]; exact .int k n
 | _,_,.str s=>by simp only [mapD]; exact .str s
 | _,_,.agg h=>by simp only [mapD]; exact .agg (RelL.map hm h)
 | _,_,.tup h=>by simp only [mapD]; exact .tup (RelL.map hm h)
 | _,_,.fzNil nz esz=>by simp only [mapD]; exact .fzNil nz esz
 | _,_,.fzE esz a cap=>by simp only [mapD]; exact .fzE esz a cap
 | _,_,.fz hn hr hc hx=>by simp only [mapD]; exact .fz hn (RelRow.map hm hr hx) hc hx
 | _,_,.fp off h hx=>by simp only [mapD]; exact .fp off (RelAt.map hm h hx) hx
 | _,_,.nilp=>by simp only [mapD]; exact .nilp
 | _,_,.owNil (b:=b) h=>by
   simp only [mapD]; cases hb:m b with
   | none=>exact .dead _
   | some c=>exact .owNil (hm.k b c _ hb h)
 | _,_,.ow (b:=b) h hl ht ha=>by
   simp only [mapD]; cases hb:m b with
   | none=>exact .dead _
   | some c=>exact .ow (hm.k b c _ hb h) hl ht ha
 | _,_,.winNil (b:=b) h=>by
   simp only [mapD]; cases hb:m b with
   | none=>exact .dead _
   | some c=>exact .winNil (hm.k b c _ hb h)
 | _,_,.win (b:=b) h hl ho ht ha=>by
   simp only [mapD]; cases hb:m b with
   | none=>exact .dead _
   | some c=>exact .win (hm.k b c _ hb h) hl ho ht ha
 | _,_,.ptr (b:=b) off h=>by
   simp only [mapD]; cases hb:m b with
   | none=>exact .dead _
   | some c=>exact .ptr off (hm.k b c _ hb h)
 | _,_,.ep (b:=b) off h hi=>by
   simp only [mapD]; cases hb:m b with
   | none=>exact .dead _
   | some c=>exact .ep off (hm.k b c _ hb h) hi
 | _,_,.fn h=>by simp only [mapD]; exact .fn (RelL.map hm h)
 | _,_,.nilfn=>by simp only [mapD]; exact .nilfn
 | _,_,.mp (b:=b) h=>by
   simp only [mapD]; cases hb:m b with
   | none=>exact .dead _
   | some c=>exact .mp (hm.k b c _ hb h)
 | _,_,.fmNil=>by simp only [mapD]; exact .fmNil
 | _,_,.fm (cs:=cs) hv h hx=>by
   have h':=RelL.map hm h
   rw [mapL_closed m cs hx] at h'
   simp only [mapD]; exact .fm (hm.q _ _ _ hv) h' hx
 | _,_,.dead v=>by simp only [mapD]; exact .dead v
theorem RelL.map (hm:Maps m K K' Q Q'):∀ {cs:List D} {vs:List Value},RelL K Q cs vs→RelL K' Q' (mapL m cs) vs
 | _,_,.nil=>by simp only [mapL]; exact .nil
 | _,_,.cons h t=>by simp only [mapL]; exact .cons (Rel.map hm h) (RelL.map hm t)
theorem RelAt.map (hm:Maps m K K' Q Q'):∀ {B o:Nat} {cs:List D},RelAt K Q B o cs→closedL cs=true→RelAt K' Q' B o cs
 | _,_,_,.nil B o,_=>.nil B o
 | _,_,_,.cons (c:=c) (cs:=cs) hv h1 h t,hx=>by
   simp only [closedL,Bool.cond_false_right,Bool.and_eq_true] at hx
   have h':=Rel.map hm h
   rw [mapD_closed m c hx.1] at h'
   exact .cons (hm.q _ _ _ hv) h1 h' (RelAt.map hm t hx.2)
theorem RelRow.map (hm:Maps m K K' Q Q'):∀ {B o esz:Nat} {xs:List D},RelRow K Q B o esz xs→closedL xs=true→RelRow K' Q' B o esz xs
 | _,_,_,_,.nil B o esz,_=>.nil B o esz
 | _,_,_,_,.cons hl h t,hx=>by
   simp only [closedL,Bool.cond_false_right,Bool.and_eq_true] at hx
   exact .cons hl (RelAt.map hm h (cellsOf_closed hx.1)) (RelRow.map hm t hx.2)
end
end
theorem Rel.mono {K K':Km}{Q Q':Pm}{d:D}{v:Value}(h:Rel K Q d v)(hk:∀ b i,K b=some i→K' b=some i)(hq:∀ B o v,Q B o=some v→Q' B o=some v):Rel K' Q' d v:=by
 have:=Rel.map (m:=some) (K':=K') (Q':=Q') ⟨fun b c i e h=>by injection e with e; subst e; exact hk _ _ h,hq⟩ h
 rwa [mapD_some] at this
theorem RelL.mono {K K':Km}{Q Q':Pm}{d:List D}{v:List Value}(h:RelL K Q d v)(hk:∀ b i,K b=some i→K' b=some i)(hq:∀ B o v,Q B o=some v→Q' B o=some v):RelL K' Q' d v:=by
 have:=RelL.map (m:=some) (K':=K') (Q':=Q') ⟨fun b c i e h=>by injection e with e; subst e; exact hk _ _ h,hq⟩ h
 rwa [mapL_some] at this
theorem Rel.shut {K K':Km}{Q Q':Pm}{d:D}{v:Value}(h:Rel K Q d v)(hc:closed d=true)(hq:∀ B o v,Q B o=some v→Q' B o=some v):Rel K' Q' d v:=by
 have:=Rel.map (m:=fun _=>none) (K':=K') (Q':=Q') ⟨fun b c i e h=>(by cases e),hq⟩ h
 rwa [mapD_closed _ d hc] at this
theorem RelL.shut {K K':Km}{Q Q':Pm}{d:List D}{v:List Value}(h:RelL K Q d v)(hc:closedL d=true)(hq:∀ B o v,Q B o=some v→Q' B o=some v):RelL K' Q' d v:=by
 have:=RelL.map (m:=fun _=>none) (K':=K') (Q':=Q') ⟨fun b c i e h=>(by cases e),hq⟩ h
 rwa [mapL_closed _ d hc] at this
theorem RelL.length {K:Km}{Q:Pm} : ∀ {cs:List D} {vs:List Value},RelL K Q cs vs→cs.length=vs.length
 | _,_,.nil=>rfl
 | _,_,.cons _ t=>by simp [t.length]
theorem RelL.get {K:Km}{Q:Pm} : ∀ {cs:List D} {vs:List Value},RelL K Q cs vs→∀ {i:Nat} {c:D},cs[i]?=some c→∃ v,vs[i]?=some v∧Rel K Q c v
 | _,_,.nil,i,c,h=>by simp at h
 | _,_,.cons (v:=v) h t,0,c,e=>by simp at e; subst e; exact ⟨v,rfl,h⟩
 | _,_,.cons h t,i + 1,c,e=>by simp at e; simpa using t.get e
theorem RelL.of_get {K:Km}{Q:Pm} : ∀ {cs:List D} {vs:List Value},cs.length=vs.length→(∀ (i:Nat) (c:D) (v:Value),cs[i]?=some c→vs[i]?=some v→Rel K Q c v)→RelL K Q cs vs
 | [],[],_,_=>.nil
 | [],_ :: _,h,_=>by simp at h
 | _ :: _,[],h,_=>by simp at h
 | c :: cs,v :: vs,h,hh=>.cons (hh 0 c v rfl rfl) (.of_get (by simpa using h) fun i c v hc hv=>hh (i + 1) c v (by simpa using hc) (by simpa using hv))
theorem RelL.app {K:Km}{Q:Pm} : ∀ {cs ds:List D} {vs ws:List Value},RelL K Q cs vs→RelL K Q ds ws→RelL K Q (cs ++ ds) (vs ++ ws)
 | _,_,_,_,.nil,h=>h
 | _,_,_,_,.cons h t,h'=>.cons h (t.app h')
theorem RelL.take {K:Km}{Q:Pm}{cs:List D}{vs:List Value}(h:RelL K Q cs vs)(n:Nat):RelL K Q (cs.take n) (vs.take n):=by
 refine .of_get (by simp [h.length]) fun i c v hc hv=>?_
 simp only [List.getElem?_take] at hc hv
 split at hc
 · rw [if_pos ‹_›] at hv
   obtain ⟨v',hv',hr⟩:=h.get hc
   rw [hv] at hv'; injection hv' with e; subst e; exact hr
 · cases hc
theorem RelL.drop {K:Km}{Q:Pm}{cs:List D}{vs:List Value}(h:RelL K Q cs vs)(n:Nat):RelL K Q (cs.drop n) (vs.drop n):=by
 refine .of_get (by simp [h.length]) fun i c v hc hv=>?_
 simp only [List.getElem?_drop] at hc hv
 obtain ⟨v',hv',hr⟩:=h.get hc
 rw [hv] at hv'; injection hv' with e; subst e; exact hr
theorem RelAt.get {K:Km}{Q:Pm} : ∀ {B o:Nat} {cs:List D},RelAt K Q B o cs→∀ {i:Nat} {c:D},cs[i]?=some c→∃ v,Q B (o + i)=some v∧v.oneCell'=true∧Rel K Q c v
 | _,_,_,.nil _ _,i,c,h=>by simp at h
 | _,_,_,.cons (v:=v) hv h1 h t,0,c,e=>by simp at e; subst e; exact ⟨v,by simpa using hv,h1,h⟩
 | _,_,_,.cons (o:=o) hv h1 h t,i + 1,c,e=>by
   simp at e
   obtain ⟨v,h1,h2⟩:=t.get e
   exact ⟨v,by rw [←h1]; congr 1; omega,h2⟩
theorem RelAt.of_get {K:Km}{Q:Pm}{B:Nat} : ∀ {o:Nat} {cs:List D},(∀ (i:Nat) (c:D),cs[i]?=some c→∃ v,Q B (o + i)=some v∧v.oneCell'=true∧Rel K Q c v)→RelAt K Q B o cs
 | o,[],_=>.nil B o
 | o,c :: cs,h=>by
   obtain ⟨v,h1,h3,h2⟩:=h 0 c rfl
   refine .cons (by simpa using h1) h3 h2 (.of_get fun i c hc=>?_)
   obtain ⟨v,h1,h2⟩:=h (i + 1) c (by simpa using hc)
   exact ⟨v,by rw [←h1]; congr 1; omega,h2⟩
theorem RelRow.get {K:Km}{Q:Pm} : ∀ {B o esz:Nat} {xs:List D},RelRow K Q B o esz xs→∀ {i:Nat} {d:D},xs[i]?=some d→(cellsOf d).length=esz∧RelAt K Q B (o + i * esz) (cellsOf d)
 | _,_,_,_,.nil _ _ _,i,c,h=>by simp at h
 | _,_,_,_,.cons hl h t,0,c,e=>by simp at e; subst e; exact ⟨hl,by simpa using h⟩
 | _,o,esz,_,.cons hl h t,i + 1,c,e=>by
   simp at e
   obtain ⟨h1,h2⟩:=t.get e
   refine ⟨h1,?_⟩
   rwa [show o + (i + 1) * esz=o + esz + i * esz by rw [Nat.add_mul]; omega]
theorem RelRow.of_get {K:Km}{Q:Pm}{B esz:Nat} : ∀ {o:Nat} {xs:List D},(∀ (i:Nat) (d:D),xs[i]?=some d→(cellsOf d).length=esz∧RelAt K Q B (o + i * esz) (cellsOf d))→RelRow K Q B o esz xs
 | o,[],_=>.nil B o esz
 | o,d :: xs,h=>by
   obtain ⟨h1,h2⟩:=h 0 d rfl
   refine .cons h1 (by simpa using h2) (.of_get fun i d hd=>?_)
   obtain ⟨h1,h2⟩:=h (i + 1) d (by simpa using hd)
   refine ⟨h1,?_⟩
   rwa [show o + (i + 1) * esz=o + esz + i * esz by rw [Nat.add_mul]; omega] at h2
end Gs
namespace Gs
open Go
class GlobTab where
 gl:Nat→Option (List D)
 counts:Bool
theorem nbeq {a b:Nat}(h:a≠b):(a == b)=false:=by simp [h]
theorem hget_hset (H:Heap)(b c:Nat)(x:Blk):hget (hset H b x) c=if b=c then some x else hget H c:=by
 induction H with
 | nil=>
   simp only [hset,hget]
   by_cases h:b=c
   · simp [h]
   · simp [h,nbeq h]
 | cons p r ih=>
   obtain ⟨k,u⟩:=p
   simp only [hset]
   by_cases h:k=b
   · subst h
     simp only [BEq.rfl,cond_true,hget]
     by_cases h:k=c
     · simp [h]
     · simp [h,nbeq h]
   · simp only [nbeq h,cond_false,hget,ih]
     by_cases hc:k=c
     · subst hc; simp; intro e; exact absurd e.symm h
     · simp [nbeq hc]
theorem get_set (e:Env)(b c:Nat)(x:D):get (set e b x) c=if b=c then x else get e c:=by
 induction e with
 | nil=>
   simp only [set,get]
   by_cases h:b=c
   · simp [h]
   · simp [h,nbeq h]
 | cons p r ih=>
   obtain ⟨k,u⟩:=p
   simp only [set]
   by_cases h:k=b
   · subst h
     simp only [BEq.rfl,cond_true,get]
     by_cases h:k=c
     · simp [h]
     · simp [h,nbeq h]
   · simp only [nbeq h,cond_false,get,ih]
     by_cases hc:k=c
     · subst hc; simp; intro e; exact absurd e.symm h
     · simp [nbeq hc]
theorem mem_iff (i:Nat)(l:List Nat):mem i l=true↔i∈l:=by
 induction l with
 | nil=>simp [mem]
 | cons a r ih=>
   simp only [mem]
   by_cases h:a=i
   · simp [h]
   · have:(a == i)=false:=by simp [h]
     simp only [this,cond_false,ih,List.mem_cons]
     constructor
     · exact .inr
     · rintro (e | e)
       · exact absurd e.symm h
       · exact e
theorem mem_idsOf (H:Heap)(b:Nat):b∈idsOf H↔hget H b≠none:=by
 induction H with
 | nil=>simp [idsOf,hget]
 | cons p r ih=>
   obtain ⟨k,u⟩:=p
   simp only [idsOf,hget,List.mem_cons]
   by_cases h:k=b
   · subst h; simp
   · have:(k == b)=false:=by simp [h]
     simp only [this,cond_false,ih]
     constructor
     · rintro (e | e)
       · exact absurd e.symm h
       · exact e
     · exact .inr
theorem noMem_iff (l m:List Nat):noMem l m=true↔∀ i∈m,i∉l:=by
 induction m with
 | nil=>simp [noMem]
 | cons a r ih=>
   simp only [noMem]
   cases h:mem a l with
   | true=>simp only [cond_true,Bool.false_eq_true,false_iff]; intro hh; exact hh a (by simp) ((mem_iff a l).1 h)
   | false=>
     have hn:a∉l:=fun hm=>by rw [(mem_iff a l).2 hm] at h; cases h
     simp only [cond_false,ih,List.mem_cons]
     constructor
     · rintro hh i (rfl | hi)
       · exact hn
       · exact hh i hi
     · exact fun hh i hi=>hh i (.inr hi)
theorem noMem_one {H:Heap}{b:Nat}(h:noMem (idsOf H) [b]=true):hget H b=none:=by
 have:=(noMem_iff _ _).1 h b (by simp)
 rw [mem_idsOf] at this
 simpa using this
theorem cell_eq:∀ (cs:List D) (i:Nat),cell cs i=cs[i]?
 | [],i=>by simp [cell]
 | _ :: _,0=>by simp [cell]
 | _ :: r,i + 1=>by simp [cell,cell_eq r i]
theorem take_eq:∀ (n:Nat) (cs l:List D),take n cs=some l→l=cs.take n∧n≤cs.length
 | 0,cs,l,h=>by simp [take] at h; subst h; simp
 | n + 1,[],l,h=>by simp [take] at h
 | n + 1,x :: r,l,h=>by
   simp only [take] at h
   cases ht:take n r with
   | none=>simp [ht] at h
   | some t=>
     simp only [ht,Option.some.injEq] at h
     obtain ⟨h1,h2⟩:=take_eq n r t ht
     subst h; subst h1; simp; omega
theorem part_eq:∀ (cs:List D) (k n:Nat) (l:List D),part cs k n=some l→l=(cs.drop k).take n∧k + n≤cs.length
 | cs,0,n,l,h=>by
   simp only [part] at h
   obtain ⟨h1,h2⟩:=take_eq n cs l h
   simp [h1]; omega
 | [],k + 1,n,l,h=>by simp [part] at h
 | c :: r,k + 1,n,l,h=>by
   simp only [part] at h
   obtain ⟨h1,h2⟩:=part_eq r k n l h
   simp [h1]; omega
theorem over_eq:∀ (cs vs l:List D),over cs vs=some l→l=vs ++ cs.drop vs.length∧vs.length≤cs.length
 | cs,[],l,h=>by simp [over] at h; simp [h]
 | [],v :: vs,l,h=>by simp [over] at h
 | c :: cs,v :: vs,l,h=>by
   simp only [over] at h
   cases ho:over cs vs with
   | none=>simp [ho] at h
   | some t=>
     simp only [ho,Option.some.injEq] at h
     obtain ⟨h1,h2⟩:=over_eq cs vs t ho
     subst h; simp [h1]; omega
theorem putAt_eq:∀ (cs:List D) (k:Nat) (vs l:List D),putAt cs k vs=some l→l=cs.take k ++ vs ++ cs.drop (k + vs.length)∧k + vs.length≤cs.length
 | cs,0,vs,l,h=>by
   simp only [putAt] at h
   obtain ⟨h1,h2⟩:=over_eq cs vs l h
   simp [h1]; omega
 | [],k + 1,vs,l,h=>by simp [putAt] at h
 | c :: cs,k + 1,vs,l,h=>by
   simp only [putAt] at h
   cases hp:putAt cs k vs with
   | none=>simp [hp] at h
   | some t=>
     simp only [hp,Option.some.injEq] at h
     obtain ⟨h1,h2⟩:=putAt_eq cs k vs t hp
     subst h
     have:k + 1 + vs.length=(k + vs.length) + 1:=by omega
     simp [h1,this]; omega
theorem clen_eq:∀ (l:List D),clen l=l.length
 | []=>rfl
 | _ :: r=>by simp [clen,clen_eq r]
def isClean:Blk→Bool
 | .box _ _=>true
 | .itr _ _=>true
 | .row _ _ _ _ dy=>!dy
 | .mapB _ _=>true
def InK (K:Km)(B:Nat):Prop:=∃ b i o n,K b=some i∧i.loc=some (B,o,n)
abbrev Le (Q Q':Pm):Prop:=∀ B o v,Q B o=some v→Q' B o=some v
structure World0 extends World where
 q:Pm
structure Kept [GlobTab] (w0:World0) (K0:Km) (w:World):Prop where
 os:w.os=w0.os
 tape:w.tape=w0.tape
 output:w.output=w0.output
 size:w0.heap.size≤w.heap.size
 block:∀ k,k < w0.heap.size→¬ InK K0 k→w.heap[k]?=w0.heap[k]?
 drawn:GlobTab.counts=true→w0.drawn≤w.drawn
def Elems (K:Km)(Q:Pm)(vs:Array Value)(base esz:Nat)(xs:List D):Prop:=
 ∀ (i:Nat) (d:D),xs[i]?=some d→∀ (j:Nat) (c:D),(cellsOf d)[j]?=some c→∃ v,vs[base + i * esz + j]?=some v∧Rel K Q c v∧v.oneCell'=true
def Shaped (esz:Nat)(xs:List D):Prop:=∀ d∈xs,(cellsOf d).length=esz
def BoxOk (K:Km)(Q:Pm)(w:World)(b:Nat)(cs:List D)(fr:Bool):Prop:=
 ∃ B vs t,K b=some ⟨some (B,0,vs.size),none⟩∧w.heap[B]?=some (.cells vs t (0,0))∧RelL K Q cs vs.toList∧(∀ v∈vs,v.oneCell'=true)∧(∀ o,Q B o=if fr then vs[o]? else none)∧(fr=true→closedL cs=true)
def RowOk (K:Km)(Q:Pm)(w:World)(b:Nat)(nz:Bool)(esz:Nat)(xs:List D)(p:Nat):Prop:=
 closedL xs=true∧Shaped esz xs∧p≤xs.length∧
 ((K b=some ⟨none,some (nz,esz,0)⟩∧xs=[])∨
  ∃ B base vs t,K b=some ⟨some (B,base,vs.size),some (nz,esz,xs.length)⟩∧(nz=true→xs≠[])∧w.heap[B]?=some (.cells vs t (0,0))∧
    base + xs.length * esz≤vs.size∧Elems K Q vs base esz xs∧(∀ o,base + p * esz≤o→Q B o=none)∧(∀ o,base≤o→o < base + p * esz→Q B o=vs[o]?))
def flatEs (es:Array MapEntry):List Value:=es.toList.flatMap fun e=>[e.key,e.val]
def MapOk (K:Km)(Q:Pm)(w:World)(b:Nat)(cs:List D)(fr:Bool):Prop:=
 ∃ B es clock,K b=some ⟨some (B,0,0),none⟩∧w.heap[B]?=some (.map es clock)∧RelL K Q cs (flatEs es)∧closedL cs=true∧∀ o,Q B o=if fr=true∧o=0 then some (.tuple (flatEs es).toArray) else none
def BlkOk (K:Km)(Q:Pm)(w:World)(b:Nat):Blk→Prop
 | .box cs fr=>BoxOk K Q w b cs fr
 | .itr s pos=>∃ B,K b=some ⟨some (B,0,0),none⟩∧w.heap[B]?=some (.stringIter s pos)∧∀ o,Q B o=none
 | .row nz esz xs p _=>RowOk K Q w b nz esz xs p
 | .mapB cs fr=>MapOk K Q w b cs fr
def MapAt (w:World)(B o:Nat)(v:Value):Prop:=o=0∧∃ es clock,w.heap[B]?=some (.map es clock)∧v = .tuple (flatEs es).toArray
def Peek (w:World)(B o:Nat)(v:Value):Prop:=(w.cell? ⟨B,o,none⟩=some v∧v.oneCell'=true)∨MapAt w B o v
structure Core (K:Km) (Q:Pm) (H:Heap) (w:World):Prop where
 val:∀ B o v,Q B o=some v→Peek w B o v
 blk:∀ b x,hget H b=some x→BlkOk K Q w b x
 dom:∀ b i,K b=some i→∃ x,hget H b=some x
 inj:∀ b b' i i' B o n o' n',K b=some i→K b'=some i'→i.loc=some (B,o,n)→i'.loc=some (B,o',n')→b=b'
structure Sim [GlobTab] (w0:World0) (K0:Km) (K:Km) (Q:Pm) (H:Heap) (w:World):Prop extends Core K Q H w where
 kept:Kept w0 K0 w
 low:∀ b i B o n,K b=some i→i.loc=some (B,o,n)→InK K0 B∨w0.heap.size≤B
 clean:∀ b,500000≤b→b < 600000→∀ x,hget H b=some x→isClean x=true→K b=K0 b
 qk:∀ B,B < w0.heap.size→¬ InK K0 B→∀ o,Q B o=w0.q B o
 grow:∀ B o v,w0.q B o=some v→Q B o=some v
def CellsAt (K:Km)(Q:Pm)(w:World)(B o:Nat)(cs:List D):Prop:=
 ∀ (i:Nat) (c:D),cs[i]?=some c→∃ v,w.cell? ⟨B,o + i,none⟩=some v∧Rel K Q c v
theorem add_at (B o j:Nat):(⟨B,o,none⟩:Addr).add j=⟨B,o + j,none⟩:=by unfold Addr.add; split<;>simp_all
theorem cell_of_heap {w:World}{B o:Nat}{vs:Array Value}{t:TypeId}{fr:Nat×Nat}(h:w.heap[B]?=some (.cells vs t fr)):w.cell? ⟨B,o,none⟩=vs[o]?:=by
 simp [World.cell?,h]
theorem lt_of_cell {w:World}{B o:Nat}{v:Value}(h:w.cell? ⟨B,o,none⟩=some v):B < w.heap.size:=by
 simp only [World.cell?] at h
 split at h
 · rename_i hh; exact (Array.getElem?_eq_some_iff.1 hh).1
 · cases h
theorem cell_congr {w w':World}{B o:Nat}(h:w'.heap[B]?=w.heap[B]?):w'.cell? ⟨B,o,none⟩=w.cell? ⟨B,o,none⟩:=by
 simp [World.cell?,h]
theorem Peek.congr {w w':World}{B o:Nat}{v:Value}(h:Peek w B o v)(hh:w'.heap[B]?=w.heap[B]?):Peek w' B o v:=by
 rcases h with h | ⟨h1,es,c,h2,h3⟩
 · exact .inl (by rw [cell_congr hh]; exact h)
 · exact .inr ⟨h1,es,c,by rw [hh]; exact h2,h3⟩
theorem Peek.lt {w:World}{B o:Nat}{v:Value}(h:Peek w B o v):B < w.heap.size:=by
 rcases h with h | ⟨_,es,c,h2,_⟩
 · exact lt_of_cell h.1
 · exact (Array.getElem?_eq_some_iff.1 h2).1
theorem Peek.one {w:World}{B o:Nat}{v:Value}(h:Peek w B o v)(h1:v.oneCell'=true):w.cell? ⟨B,o,none⟩=some v:=by
 rcases h with h | ⟨_,es,c,_,rfl⟩
 · exact h.1
 · cases h1
theorem Peek.cell {w:World}{B o:Nat}{v:Value}(h:Peek w B o v){vs:Array Value}{t:TypeId}{fr:Nat×Nat}(hh:w.heap[B]?=some (.cells vs t fr)):w.cell? ⟨B,o,none⟩=some v∧v.oneCell'=true:=by
 rcases h with h | ⟨_,es,c,h2,_⟩
 · exact h
 · rw [hh] at h2; cases h2
section
variable {w0:World0} {w:World} {K0 K:Km} {Q:Pm} {H:Heap}
theorem BoxOk.cells {b:Nat}{cs:List D}{fr:Bool}(h:BoxOk K Q w b cs fr):∃ B n,K b=some ⟨some (B,0,n),none⟩∧CellsAt K Q w B 0 cs:=by
 obtain ⟨B,vs,t,hk,hh,hr,_,_⟩:=h
 refine ⟨B,_,hk,fun i c hc=>?_⟩
 obtain ⟨v,hv,hr⟩:=hr.get hc
 refine ⟨v,?_,hr⟩
 rw [cell_of_heap hh]
 simpa using hv
theorem RowOk.cells {b:Nat}{nz:Bool}{esz:Nat}{xs:List D}{p:Nat}(h:RowOk K Q w b nz esz xs p){i:Nat}{d:D}(hd:xs[i]?=some d) :
   ∃ B base n,K b=some ⟨some (B,base,n),some (nz,esz,xs.length)⟩∧CellsAt K Q w B (base + i * esz) (cellsOf d):=by
 obtain ⟨_,_,_,h⟩:=h
 rcases h with ⟨_,rfl⟩ | ⟨B,base,vs,t,hk,_,hh,_,he,_⟩
 · simp at hd
 · refine ⟨B,base,_,hk,fun j c hc=>?_⟩
   obtain ⟨v,hv,hr,_⟩:=he i d hd j c hc
   exact ⟨v,by rw [cell_of_heap hh]; exact hv,hr⟩
theorem RelAt.cells {B o:Nat}{cs:List D}(h:RelAt K Q B o cs)(hv:∀ B o v,Q B o=some v→Peek w B o v):CellsAt K Q w B o cs:=fun i c hc=>by
 obtain ⟨v,h1,h3,h2⟩:=h.get hc
 exact ⟨v,(hv _ _ _ h1).one h3,h2⟩
theorem asVar_run {P:Program}{t:TypeId}{ag:Bool}{sz off:Nat}{cs:List D}{r:D}{B o:Nat}(hc:CellsAt K Q w B o cs)(hr:asVar ag sz off cs=some r)
   (ha:(isAgg t).run P w = .ok ag w) (hs:ag=true→(Go.sizeOf t).run P w=Result.ok sz w) :
   ∃ v,(loadVar t ⟨B,o + off,none⟩).run P w = .ok v w∧Rel K Q r v:=by
 cases ag with
 | true=>
   simp only [asVar] at hr
   cases hp:part cs off sz with
   | none=>simp [hp] at hr
   | some l=>
     simp only [hp,Option.some.injEq] at hr
     obtain ⟨h1,h2⟩:=part_eq _ _ _ _ hp
     subst hr
     have hl:l.length=sz:=by rw [h1]; simp; omega
     have hall:∀ i,i < sz→∃ v,w.cell? ⟨B,o + off + i,none⟩=some v∧∀ c,l[i]?=some c→Rel K Q c v:=by
       intro i hi
       have hlt:off + i < cs.length:=by omega
       obtain ⟨v,hv,hr⟩:=hc (off + i) cs[off + i] (by simp [hlt])
       refine ⟨v,by rw [←hv]; congr 2; omega,fun c hc'=>?_⟩
       rw [h1] at hc'
       simp [List.getElem?_take,List.getElem?_drop,hi,hlt] at hc'
       subst hc'; exact hr
     have hf:∃ f:Nat→Value,∀ i,i < sz→w.cell? ⟨B,o + off + i,none⟩=some (f i)∧∀ c,l[i]?=some c→Rel K Q c (f i):=
       ⟨fun i=>if h:i < sz then (hall i h).choose else default,fun i hi=>by simp only [hi,dif_pos]; exact (hall i hi).choose_spec⟩
     obtain ⟨f,hf⟩:=hf
     refine ⟨.agg ((List.range sz).map f).toArray,?_,.agg (.of_get (by simp [hl]) fun i c v hc hv=>?_)⟩
     · simp only [loadVar,Sem.run_bind,ha,Result.andThen_ok,if_true,hs rfl]
       rw [run_loadCells w _ sz f fun j hj=>by rw [add_at]; exact (hf j hj).1]
       rfl
     · simp only [List.getElem?_map] at hv
       have hi:i < sz:=by
         rcases Nat.lt_or_ge i sz with h | h
         · exact h
         · rw [List.getElem?_eq_none (by simp; omega)] at hv; simp at hv
       simp [hi] at hv
       subst hv
       exact (hf i hi).2 c hc
 | false=>
   simp only [asVar,cell_eq] at hr
   obtain ⟨v,hv,hrel⟩:=hc off r hr
   refine ⟨v,?_,hrel⟩
   simp only [loadVar,Sem.run_bind,ha,Result.andThen,Bool.false_eq_true,if_false,run_load,hv]
end
end Gs
namespace Gs
open Go
theorem Elems.map {K K':Km}{Q Q':Pm}{vs:Array Value}{base esz:Nat}{xs:List D}(h:Elems K Q vs base esz xs)(hx:closedL xs=true)(hq:Le Q Q'):Elems K' Q' vs base esz xs:=fun i d hd j c hc=>by
 obtain ⟨v,h1,h2,h3⟩:=h i d hd j c hc
 have hcl:closed d=true:=closedL_mem hx (List.mem_of_getElem? hd)
 exact ⟨v,h1,h2.shut (closedL_mem (cellsOf_closed hcl) (List.mem_of_getElem? hc)) hq,h3⟩
section
variable {K K':Km} {Q:Pm} {H H':Heap} {w w':World} {m:Nat→Option Nat}
theorem BoxOk.map {b c:Nat}{cs:List D}{fr:Bool}(h:BoxOk K Q w b cs fr)(hm:Maps m K K' Q Q)(hk:K' c=K b):BoxOk K' Q w c (mapL m cs) fr:=by
 obtain ⟨B,vs,t,h1,h2,h3,h4,h5,h6⟩:=h
 refine ⟨B,vs,t,hk ▸ h1,h2,h3.map hm,h4,h5,fun hf=>?_⟩
 rw [mapL_closed m cs (h6 hf)]; exact h6 hf
theorem RowOk.map {b c:Nat}{nz:Bool}{esz:Nat}{xs:List D}{p:Nat}(h:RowOk K Q w b nz esz xs p)(hk:K' c=K b):RowOk K' Q w c nz esz xs p:=by
 obtain ⟨h1,h2,h3,h⟩:=h
 refine ⟨h1,h2,h3,?_⟩
 rw [hk]
 rcases h with h | ⟨B,base,vs,t,g1,g2,g3,g4,g5,g6,g7⟩
 · exact .inl h
 · exact .inr ⟨B,base,vs,t,g1,g2,g3,g4,g5.map h1 (fun _ _ _ h=>h),g6,g7⟩
theorem MapOk.map {b c:Nat}{cs:List D}{fr:Bool}(h:MapOk K Q w b cs fr)(hk:K' c=K b):MapOk K' Q w c cs fr:=by
 obtain ⟨B,es,cl,h1,h2,h3,h4,h5⟩:=h
 exact ⟨B,es,cl,hk ▸ h1,h2,h3.shut h4 (fun _ _ _ h=>h),h4,h5⟩
inductive MapBlk (m:Nat→Option Nat):Blk→Blk→Prop
 | box (cs fr):MapBlk m (.box cs fr) (.box (mapL m cs) fr)
 | itr (s pos):MapBlk m (.itr s pos) (.itr s pos)
 | row (nz esz xs p d d'):MapBlk m (.row nz esz xs p d) (.row nz esz xs p d')
 | mapB (cs fr):MapBlk m (.mapB cs fr) (.mapB cs fr)
noncomputable def mapK (m:Nat→Option Nat) (K:Km) (H':Heap):Km:=fun c=>
 open Classical in
 if h:∃ b,m b=some c∧K b≠none∧hget H' c≠none then K h.choose else none
theorem mapK_eq (hi:∀ a b c,m a=some c→m b=some c→a=b){b c:Nat}(hb:m b=some c)(hk:K b≠none)(hc:hget H' c≠none):mapK m K H' c=K b:=by
 have hex:∃ b,m b=some c∧K b≠none∧hget H' c≠none:=⟨b,hb,hk,hc⟩
 simp only [mapK,dif_pos hex]
 rw [hi _ _ _ hex.choose_spec.1 hb]
theorem mapK_some {c:Nat}{i:Bi}(h:mapK m K H' c=some i):∃ b,m b=some c∧K b=some i∧hget H' c≠none:=by
 simp only [mapK] at h
 split at h
 · rename_i hex
   exact ⟨_,hex.choose_spec.1,h,hex.choose_spec.2.2⟩
 · cases h
theorem Core.map (hs:Core K Q H w)(hi:∀ a b c,m a=some c→m b=some c→a=b)
   (h1:∀ c y,hget H' c=some y→∃ b x,m b=some c∧hget H b=some x∧MapBlk m x y)
   (h2:∀ b c,m b=some c→hget H b≠none→hget H' c≠none) :
   Core (mapK m K H') Q H' w∧Maps m K (mapK m K H') Q Q:=by
 have hmaps:Maps m K (mapK m K H') Q Q:=⟨fun b c i hb hk=>by
   obtain ⟨x,hx⟩:=hs.dom b i hk
   rw [mapK_eq hi hb (by rw [hk]; simp) (h2 b c hb (by rw [hx]; simp)),hk],fun _ _ _ h=>h⟩
 refine ⟨⟨hs.val,fun c y hy=>?_,fun c i hc=>?_,fun c c' i i' B o n o' n' hc hc' hl hl'=>?_⟩,hmaps⟩
 · obtain ⟨b,x,hb,hx,hm⟩:=h1 c y hy
   have hbk:=hs.blk b x hx
   cases hm with
   | box cs fr=>
     obtain ⟨B,vs,t,g1,g⟩:=id hbk
     exact BoxOk.map hbk hmaps (mapK_eq hi hb (by rw [g1]; simp) (by rw [hy]; simp))
   | itr s pos=>
     obtain ⟨B,g1,g2,g3⟩:=hbk
     exact ⟨B,(mapK_eq hi hb (by rw [g1]; simp) (by rw [hy]; simp)).trans g1,g2,g3⟩
   | row nz esz xs p d d'=>
     have:K b≠none:=by
       obtain ⟨_,_,_,g | ⟨B,base,vs,t,g,_⟩⟩:=id hbk
       · rw [g.1]; simp
       · rw [g]; simp
     exact RowOk.map hbk (mapK_eq hi hb this (by rw [hy]; simp))
   | mapB cs fr=>
     obtain ⟨B,es,cl,g1,g⟩:=id hbk
     exact MapOk.map hbk (mapK_eq hi hb (by rw [g1]; simp) (by rw [hy]; simp))
 · obtain ⟨b,hb,hk,hn⟩:=mapK_some hc
   cases hh:hget H' c with
   | none=>exact absurd hh hn
   | some x=>exact ⟨x,rfl⟩
 · obtain ⟨b,hb,hk,hn⟩:=mapK_some hc
   obtain ⟨b',hb',hk',hn'⟩:=mapK_some hc'
   have:=hs.inj b b' i i' B o n o' n' hk hk' hl hl'
   subst this
   rw [hb] at hb'; injection hb'
end
def killM (bs:List Nat)(b:Nat):Option Nat:=if mem b bs then none else some b
mutual
theorem killD_eq (bs:List Nat):∀ d,killD bs d=mapD (killM bs) d
 | .bool _=>by simp only [mapD,killD]
 | .int _ _=>by simp only [mapD,killD]
 | .str _=>by simp only [mapD,killD]
 | .fz _ _ _=>by simp only [mapD,killD]
 | .fp _ _=>by simp only [mapD,killD]
 | .nilp=>by simp only [mapD,killD]
 | .nilfn=>by simp only [mapD,killD]
 | .fm _=>by simp only [mapD,killD]
 | .mp b=>by simp only [mapD,killD,killM]; cases mem b bs<;>simp
 | .dead=>by simp only [mapD,killD]
 | .ow b=>by simp only [mapD,killD,killM]; cases mem b bs<;>simp
 | .win b _ _=>by simp only [mapD,killD,killM]; cases mem b bs<;>simp
 | .ep b _ _=>by simp only [mapD,killD,killM]; cases mem b bs<;>simp
 | .ptr b _=>by simp only [mapD,killD,killM]; cases mem b bs<;>simp
 | .agg cs=>by simp only [mapD,killD]; rw [killL_eq bs cs]
 | .tup cs=>by simp only [mapD,killD]; rw [killL_eq bs cs]
 | .fn g cs=>by simp only [mapD,killD]; rw [killL_eq bs cs]
theorem killL_eq (bs:List Nat):∀ l,killL bs l=mapL (killM bs) l
 | []=>by simp only [mapL,killL]
 | d :: r=>by simp only [mapL,killL]; rw [killD_eq bs d,killL_eq bs r]
end
mutual
theorem renD_eq (m:List (Nat×Nat)):∀ d,renD m d=mapD (ren1 m) d
 | .bool _=>by simp only [mapD,renD]
 | .int _ _=>by simp only [mapD,renD]
 | .str _=>by simp only [mapD,renD]
 | .fz _ _ _=>by simp only [mapD,renD]
 | .fp _ _=>by simp only [mapD,renD]
 | .nilp=>by simp only [mapD,renD]
 | .nilfn=>by simp only [mapD,renD]
 | .fm _=>by simp only [mapD,renD]
 | .mp b=>by simp only [mapD,renD]<;>cases ren1 m b<;>rfl
 | .dead=>by simp only [mapD,renD]
 | .ow b=>by simp only [mapD,renD]<;>cases ren1 m b<;>rfl
 | .win b _ _=>by simp only [mapD,renD]<;>cases ren1 m b<;>rfl
 | .ep b _ _=>by simp only [mapD,renD]<;>cases ren1 m b<;>rfl
 | .ptr b _=>by simp only [mapD,renD]<;>cases ren1 m b<;>rfl
 | .agg cs=>by simp only [mapD,renD]; rw [renL_eq m cs]
 | .tup cs=>by simp only [mapD,renD]; rw [renL_eq m cs]
 | .fn g cs=>by simp only [mapD,renD]; rw [renL_eq m cs]
theorem renL_eq (m:List (Nat×Nat)):∀ l,renL m l=mapL (ren1 m) l
 | []=>by simp only [mapL,renL]
 | d :: r=>by simp only [mapL,renL]; rw [renD_eq m d,renL_eq m r]
end
theorem get_killE (bs:List Nat)(e:Env)(t:Nat):get (killE bs e) t=killD bs (get e t):=by
 induction e with
 | nil=>simp [killE,get,killD]
 | cons p r ih=>
   obtain ⟨k,d⟩:=p
   simp only [killE,get]
   cases h:(k == t)<;>simp [ih]
theorem hget_killH (bs:List Nat)(H:Heap)(b:Nat):hget (killH bs H) b=(hget H b).map (killB bs):=by
 induction H with
 | nil=>simp [killH,hget]
 | cons p r ih=>
   obtain ⟨k,x⟩:=p
   simp only [killH,hget]
   cases h:(k == b)<;>simp [ih]
theorem hget_without (l:List Nat)(H:Heap)(b:Nat):hget (without l H) b=if b∈l then none else hget H b:=by
 induction H with
 | nil=>simp [without,hget]
 | cons p r ih=>
   obtain ⟨k,x⟩:=p
   simp only [without,hget]
   cases hm:mem k l with
   | true=>
     have hk:=(mem_iff k l).1 hm
     simp only [cond_true,ih]
     by_cases h:k=b
     · subst h; simp [hk]
     · simp [nbeq h]
   | false=>
     have hk:k∉l:=fun hh=>by rw [(mem_iff k l).2 hh] at hm; cases hm
     simp only [cond_false,hget,ih]
     by_cases h:k=b
     · subst h; simp [hk]
     · simp [nbeq h]
theorem MapBlk.kill (bs:List Nat)(x:Blk):MapBlk (killM bs) x (killB bs x):=by
 cases x with
 | box cs fr=>simp only [killB,killL_eq]; exact .box cs fr
 | itr s pos=>exact .itr s pos
 | row nz esz xs p d=>exact .row nz esz xs p d d
 | mapB cs fr=>exact .mapB cs fr
theorem MapBlk.ren (m:List (Nat×Nat))(f:Bool→Bool)(x:Blk):MapBlk (ren1 m) x (renB m f x):=by
 cases x with
 | box cs fr=>simp only [renB,renL_eq]; exact .box cs fr
 | itr s pos=>exact .itr s pos
 | row nz esz xs p d=>exact .row nz esz xs p d (f d)
 | mapB cs fr=>exact .mapB cs fr
theorem killM_inj (bs:List Nat)(a b c:Nat)(h:killM bs a=some c)(h':killM bs b=some c):a=b:=by
 simp only [killM] at h h'
 split at h<;>split at h'<;>simp_all
theorem killM_some {bs:List Nat}{a c:Nat}(h:killM bs a=some c):a=c∧a∉bs:=by
 simp only [killM] at h
 split at h
 · cases h
 · rename_i hm
   injection h with h
   exact ⟨h,fun hh=>hm ((mem_iff a bs).2 hh)⟩
variable [GlobTab]
def GlobOk (Q:Pm):Prop:=∀ g cs,GlobTab.gl g=some cs→closedL cs=true∧RelAt (fun _=>none) Q g 0 cs
theorem GlobOk.mono {Q Q':Pm}(h:GlobOk Q)(hq:Le Q Q'):GlobOk Q':=fun g cs hg=>⟨(h g cs hg).1,RelAt.map (m:=fun _=>none) (K:=fun _=>none) ⟨fun b c i h=>(by cases h),hq⟩ (h g cs hg).2 (h g cs hg).1⟩
def RelE (K:Km)(Q:Pm)(n:Nat)(e:Env)(ts:Array Value):Prop:=(n≤ts.size∧GlobOk Q)∧∀ t,t < n→Rel K Q (get e t) (ts.getD t undef)
theorem RelE.mapped {K K':Km}{Q Q':Pm}{n:Nat}{e e':Env}{ts:Array Value}{m:Nat→Option Nat}(h:RelE K Q n e ts)(hm:Maps m K K' Q Q')(he:∀ t,get e' t=mapD m (get e t)):RelE K' Q' n e' ts:=
 ⟨⟨h.1.1,h.1.2.mono hm.q⟩,fun t ht=>by rw [he]; exact (h.2 t ht).map hm⟩
theorem RelE.mono {K K':Km}{Q Q':Pm}{n:Nat}{e:Env}{ts:Array Value}(h:RelE K Q n e ts)(hk:∀ b i,K b=some i→K' b=some i)(hq:Le Q Q'):RelE K' Q' n e ts:=
 ⟨⟨h.1.1,h.1.2.mono hq⟩,fun t ht=>(h.2 t ht).mono hk hq⟩
theorem RelE.put {K:Km}{Q:Pm}{n:Nat}{e:Env}{ts:Array Value}(h:RelE K Q n e ts)(t:Nat){d:D}{v:Value}(hd:Rel K Q d v):RelE K Q n (set e t d) (ts.setIfInBounds t v):=by
 refine ⟨⟨by simpa using h.1.1,h.1.2⟩,fun u hu=>?_⟩
 rw [get_set]
 by_cases e:t=u
 · subst e
   have:t < ts.size:=Nat.lt_of_lt_of_le hu h.1.1
   simpa [this] using hd
 · simp only [if_neg e]
   have:=h.2 u hu
   simpa [Array.getElem?_setIfInBounds_ne e] using this
end Gs
namespace Gs
open Go
variable [GlobTab]
def updK (K:Km)(b:Nat)(i:Bi):Km:=fun c=>if c=b then some i else K c
theorem updK_same (K:Km)(b:Nat)(i:Bi):updK K b i b=some i:=by simp [updK]
theorem updK_ne (K:Km){b c:Nat}(i:Bi)(h:c≠b):updK K b i c=K c:=by simp [updK,h]
section
variable {w0:World0} {w w':World} {K0 K K':Km} {Q Q':Pm} {H H':Heap}
theorem Core.congr (hs:Core K Q H w)(h:∀ c,hget H' c=hget H c):Core K Q H' w:=
 ⟨hs.val,fun b x hx=>hs.blk b x (h b ▸ hx),fun b i hk=>by rw [h]; exact hs.dom b i hk,hs.inj⟩
theorem Sim.congr (hs:Sim w0 K0 K Q H w)(h:∀ c,hget H' c=hget H c):Sim w0 K0 K Q H' w:=
 ⟨hs.toCore.congr h,hs.kept,hs.low,fun b hb hb' x hx=>hs.clean b hb hb' x (h b ▸ hx),hs.qk,hs.grow⟩
theorem Core.absent (hs:Core K Q H w){b:Nat}(h:hget H b=none):K b=none:=by
 cases hk:K b with
 | none=>rfl
 | some i=>obtain ⟨x,hx⟩:=hs.dom b i hk; rw [h] at hx; cases hx
theorem BlkOk.heap {b:Nat}{x:Blk}(h:BlkOk K Q w b x)(hk:∀ i,K b=some i→K' b=some i)(hr:∀ c i,K c=some i→c≠b→K' c=some i)
   (hw:∀ B o n k,K b=some ⟨some (B,o,n),k⟩→w'.heap[B]?=w.heap[B]?) (hq:Le Q Q') (hqo:∀ B o n k,K b=some ⟨some (B,o,n),k⟩→∀ j,Q' B j=Q B j):BlkOk K' Q' w' b x:=by
 have hkk:∀ c i,K c=some i→K' c=some i:=fun c i h'=>by
   by_cases e:c=b
   · rw [e] at h' ⊢; exact hk i h'
   · exact hr c i h' e
 cases x with
 | itr s pos=>
   obtain ⟨B,h1,h2,h3⟩:=h
   exact ⟨B,hk _ h1,by rw [hw _ _ _ _ h1]; exact h2,fun o=>by rw [hqo _ _ _ _ h1,h3]⟩
 | box cs fr=>
   obtain ⟨B,vs,t,h1,h2,h3,h4,h5,h6⟩:=h
   exact ⟨B,vs,t,hk _ h1,by rw [hw _ _ _ _ h1]; exact h2,h3.mono hkk hq,h4,fun o=>by rw [hqo _ _ _ _ h1,h5],h6⟩
 | row nz esz xs p d=>
   obtain ⟨h1,h2,h3,h⟩:=h
   refine ⟨h1,h2,h3,?_⟩
   rcases h with ⟨g1,g⟩ | ⟨B,base,vs,t,g1,g2,g3,g4,g5,g6,g7⟩
   · exact .inl ⟨hk _ g1,g⟩
   · exact .inr ⟨B,base,vs,t,hk _ g1,g2,by rw [hw _ _ _ _ g1]; exact g3,g4,g5.map h1 hq,fun o ho=>by rw [hqo _ _ _ _ g1,g6 o ho],fun o a b=>by rw [hqo _ _ _ _ g1,g7 o a b]⟩
 | mapB cs fr=>
   obtain ⟨B,es,cl,h1,h2,h3,h4,h5⟩:=h
   exact ⟨B,es,cl,hk _ h1,by rw [hw _ _ _ _ h1]; exact h2,h3.shut h4 hq,h4,fun o=>by rw [hqo _ _ _ _ h1,h5]⟩
theorem Sim.add (hs:Sim w0 K0 K Q H w){b:Nat}{i:Bi}{y:Blk}(hb:hget H b=none)(hkept:Kept w0 K0 w')(hq:Le Q Q')(hqo:∀ c j B o n,K c=some j→j.loc=some (B,o,n)→∀ x,Q' B x=Q B x)
   (hval:∀ B o v,Q' B o=some v→Peek w' B o v)
   (hoth:∀ c j B o n,K c=some j→j.loc=some (B,o,n)→w'.heap[B]?=w.heap[B]?)
   (hfresh:∀ B o n c j o' n',i.loc=some (B,o,n)→K c=some j→j.loc≠some (B,o',n'))
   (hlow:∀ B o n,i.loc=some (B,o,n)→InK K0 B∨w0.heap.size≤B)
   (hql:∀ B,B < w0.heap.size→∀ o,Q' B o=Q B o) (hnew:BlkOk (updK K b i) Q' w' b y) (hcl:b < 500000∨isClean y=false):Sim w0 K0 (updK K b i) Q' (hset H b y) w':=by
 have hn:=hs.toCore.absent hb
 have hkk:∀ c i',K c=some i'→updK K b i c=some i':=fun c i' h=>by
   by_cases e:c=b
   · subst e; rw [hn] at h; cases h
   · rw [updK_ne K i e]; exact h
 refine ⟨⟨hval,fun c x hx=>?_,fun c j hj=>?_,fun c c' j j' B o n o' n' hc hc' hl hl'=>?_⟩,hkept,fun c j B o n hc hl=>?_,fun c hc hc' x hx hcx=>?_,fun B hB hn o=>by rw [hql B hB]; exact hs.qk B hB hn o,fun B o v h=>hq B o v (hs.grow B o v h)⟩
 · rw [hget_hset] at hx
   by_cases e:b=c
   · subst e; simp at hx; subst hx; exact hnew
   · rw [if_neg e] at hx
     exact (hs.blk c x hx).heap (fun i' h=>hkk c i' h) (fun c i' h _=>hkk c i' h) (fun B o n k h=>hoth _ _ _ _ _ h rfl) hq fun B o n k h=>hqo _ _ _ _ _ h rfl
 · rw [hget_hset]
   by_cases e:b=c
   · simp [e]
   · rw [if_neg e]; rw [updK_ne K i (Ne.symm e)] at hj; exact hs.dom c j hj
 · by_cases e:c=b
   · by_cases e':c'=b
     · rw [e,e']
     · subst e
       rw [updK_same] at hc; rw [updK_ne K i e'] at hc'
       injection hc with hc; subst hc
       exact absurd hl' (hfresh _ _ _ _ _ _ _ hl hc')
   · by_cases e':c'=b
     · subst e'
       rw [updK_same] at hc'; rw [updK_ne K i e] at hc
       injection hc' with hc'; subst hc'
       exact absurd hl (hfresh _ _ _ _ _ _ _ hl' hc)
     · rw [updK_ne K i e] at hc; rw [updK_ne K i e'] at hc'
       exact hs.inj _ _ _ _ _ _ _ _ _ hc hc' hl hl'
 · by_cases e:c=b
   · subst e; rw [updK_same] at hc; injection hc with hc; subst hc; exact hlow _ _ _ hl
   · rw [updK_ne K i e] at hc; exact hs.low _ _ _ _ _ hc hl
 · rw [hget_hset] at hx
   by_cases e:b=c
   · subst e; simp at hx; subst hx
     rcases hcl with hcl | hcl
     · omega
     · rw [hcl] at hcx; cases hcx
   · rw [if_neg e] at hx
     rw [updK_ne K i (Ne.symm e)]
     exact hs.clean c hc hc' x hx hcx
theorem Sim.write (hs:Sim w0 K0 K Q H w){b B base n:Nat}{k:Option (Bool×Nat×Nat)}{x y:Blk}(hx:hget H b=some x)(hk:K b=some ⟨some (B,base,n),k⟩)
   (hw:∀ k,k≠B→w'.heap[k]?=w.heap[k]?) (hsz:w'.heap.size=w.heap.size) (hos:w'.os=w.os) (hta:w'.tape=w.tape) (hou:w'.output=w.output)
   (hq:∀ o v,Q B o=some v→Peek w' B o v) (hnew:BlkOk K Q w' b y) (hcl:isClean y=true→isClean x=true) (hdr:w.drawn≤w'.drawn:=by exact Nat.le_refl _):Sim w0 K0 K Q (hset H b y) w':=by
 have hlow:=hs.low b _ B base n hk rfl
 refine ⟨⟨fun B' o v h=>?_,fun c z hz=>?_,fun c j hj=>?_,hs.inj⟩,⟨?_,?_,?_,?_,fun k hk' hn=>?_,fun hm=>Nat.le_trans (hs.kept.drawn hm) hdr⟩,hs.low,fun c hc hc' z hz hcz=>?_,hs.qk,hs.grow⟩
 · by_cases e:B'=B
   · subst e; exact hq o v h
   · exact (hs.val B' o v h).congr (hw B' e)
 · rw [hget_hset] at hz
   by_cases e:b=c
   · subst e; simp at hz; subst hz; exact hnew
   · rw [if_neg e] at hz
     refine (hs.blk c z hz).heap (fun _ h=>h) (fun _ _ h _=>h) (fun B' o n k h=>hw B' fun e'=>?_) (fun _ _ _ h=>h) fun _ _ _ _ _ _=>rfl
     subst e'
     exact e (hs.inj b c _ _ _ _ _ _ _ hk h rfl rfl)
 · rw [hget_hset]
   by_cases e:b=c
   · simp [e]
   · rw [if_neg e]; exact hs.dom c j hj
 · rw [hos]; exact hs.kept.os
 · rw [hta]; exact hs.kept.tape
 · rw [hou]; exact hs.kept.output
 · rw [hsz]; exact hs.kept.size
 · rw [hw k fun e=>?_]
   · exact hs.kept.block k hk' hn
   · subst e
     rcases hlow with h | h
     · exact hn h
     · omega
 · rw [hget_hset] at hz
   by_cases e:b=c
   · subst e; simp at hz; subst hz; exact hs.clean b hc hc' x hx (hcl hcz)
   · rw [if_neg e] at hz; exact hs.clean c hc hc' z hz hcz
theorem Kept.drew {w0:World0}{w:World}{K0:Km}(h:Kept w0 K0 w)(n:Nat)(hn:w.drawn≤n):Kept w0 K0 { w with drawn:=n }:=⟨h.os,h.tape,h.output,h.size,h.block,fun hm=>Nat.le_trans (h.drawn hm) hn⟩
theorem Sim.drawn (hs:Sim w0 K0 K Q H w)(n:Nat)(hn:w.drawn≤n:=by exact Nat.le_succ _):Sim w0 K0 K Q H { w with drawn:=n }:=by
  refine ⟨⟨fun B o v h=>(hs.val B o v h).congr rfl,fun b x hx=>?_,hs.dom,hs.inj⟩,hs.kept.drew n hn,hs.low,hs.clean,hs.qk,hs.grow⟩
  exact (hs.blk b x hx).heap (fun _ h=>h) (fun _ _ h _=>h) (fun _ _ _ _ _=>rfl) (fun _ _ _ h=>h) fun _ _ _ _ _ _=>rfl
theorem Sim.kill (hs:Sim w0 K0 K Q H w)(bs:List Nat):∃ K',Sim w0 K0 K' Q (killH bs (without bs H)) w∧Maps (killM bs) K K' Q Q∧(∀ c i,K' c=some i→K c=some i∧c∉bs):=by
 have h1:∀ c y,hget (killH bs (without bs H)) c=some y→∃ b x,killM bs b=some c∧hget H b=some x∧MapBlk (killM bs) x y:=fun c y hy=>by
   rw [hget_killH,hget_without] at hy
   by_cases hc:c∈bs
   · simp [hc] at hy
   · rw [if_neg hc] at hy
     cases hx:hget H c with
     | none=>rw [hx] at hy; simp at hy
     | some x=>
       rw [hx] at hy; simp at hy; subst hy
       refine ⟨c,x,?_,hx,.kill bs x⟩
       simp only [killM]
       rw [if_neg fun hm=>hc ((mem_iff c bs).1 hm)]
 have h2:∀ b c,killM bs b=some c→hget H b≠none→hget (killH bs (without bs H)) c≠none:=fun b c hb hx=>by
   obtain ⟨rfl,hn⟩:=killM_some hb
   rw [hget_killH,hget_without,if_neg hn]
   cases h:hget H b with
   | none=>exact absurd h hx
   | some x=>simp
 obtain ⟨hc,hm⟩:=hs.toCore.map (killM_inj bs) h1 h2
 have hsome:∀ c i,mapK (killM bs) K (killH bs (without bs H)) c=some i→K c=some i∧c∉bs:=fun c i h=>by
   obtain ⟨b,hb,hk,_⟩:=mapK_some h
   obtain ⟨rfl,hn⟩:=killM_some hb
   exact ⟨hk,hn⟩
 refine ⟨_,⟨hc,hs.kept,fun b i B o n hb hl=>hs.low b i B o n (hsome b i hb).1 hl,fun b hb hb2 x hx hcx=>?_,hs.qk,hs.grow⟩,hm,hsome⟩
 obtain ⟨b',x',hb',hx',hmb⟩:=h1 b x hx
 obtain ⟨rfl,hn⟩:=killM_some hb'
 have hcl:isClean x'=true:=by
   rw [hget_killH,hget_without,if_neg hn,hx'] at hx
   simp at hx; subst hx
   cases x' with
   | box=>rfl
   | itr=>rfl
   | row=>exact hcx
   | mapB=>rfl
 have:=hs.clean b' hb hb2 x' hx' hcl
 rw [←this]
 cases hk:K b' with
 | none=>
   cases hh:mapK (killM bs) K (killH bs (without bs H)) b' with
   | none=>rfl
   | some i=>rw [(hsome _ _ hh).1] at hk; cases hk
 | some i=>
   rw [mapK_eq (killM_inj bs) hb' (by rw [hk]; simp) (by rw [hx]; simp),hk]
end
end Gs
namespace Gs
open Go
variable [GlobTab]
section
variable {w0:World0} {w:World} {K0 K:Km} {Q Q':Pm} {H H':Heap}
theorem BlkOk.prot {b:Nat}{x:Blk}(h:BlkOk K Q w b x)(hq:Le Q Q')(hB:∀ B o n k,K b=some ⟨some (B,o,n),k⟩→∀ j,Q' B j=Q B j):BlkOk K Q' w b x:=by
 cases x with
 | itr s pos=>
   obtain ⟨B,h1,h2,h3⟩:=h
   exact ⟨B,h1,h2,fun o=>by rw [hB _ _ _ _ h1,h3]⟩
 | box cs fr=>
   obtain ⟨B,vs,t,h1,h2,h3,h4,h5,h6⟩:=h
   exact ⟨B,vs,t,h1,h2,h3.mono (fun _ _ h=>h) hq,h4,fun o=>by rw [hB _ _ _ _ h1,h5],h6⟩
 | row nz esz xs p d=>
   obtain ⟨h1,h2,h3,h⟩:=h
   refine ⟨h1,h2,h3,?_⟩
   rcases h with g | ⟨B,base,vs,t,g1,g2,g3,g4,g5,g6,g7⟩
   · exact .inl g
   · exact .inr ⟨B,base,vs,t,g1,g2,g3,g4,g5.map h1 hq,fun o ho=>by rw [hB _ _ _ _ g1,g6 o ho],fun o a b=>by rw [hB _ _ _ _ g1,g7 o a b]⟩
 | mapB cs fr=>
   obtain ⟨B,es,cl,h1,h2,h3,h4,h5⟩:=h
   exact ⟨B,es,cl,h1,h2,h3.mono (fun _ _ h=>h) hq,h4,fun o=>by rw [hB _ _ _ _ h1,h5]⟩
theorem Sim.prot (hs:Sim w0 K0 K Q H w){b B base n:Nat}{k:Option (Bool×Nat×Nat)}{x y:Blk}(hx:hget H b=some x)(hk:K b=some ⟨some (B,base,n),k⟩)(hq:Le Q Q')
   (hB:∀ B' j,B'≠B→Q' B' j=Q B' j) (hv:∀ o v,Q' B o=some v→Peek w B o v) (hy:BlkOk K Q' w b y) (hcl:isClean y=isClean x):Sim w0 K0 K Q' (hset H b y) w:=by
 refine ⟨⟨fun B' o v h=>?_,fun c z hz=>?_,fun c j hj=>?_,hs.inj⟩,hs.kept,hs.low,fun c hc hc' z hz hcz=>?_,fun B' hB' hn o=>?_,fun B o v h=>hq B o v (hs.grow B o v h)⟩
 · by_cases e:B'=B
   · subst e; exact hv o v h
   · rw [hB B' o e] at h; exact hs.val B' o v h
 · rw [hget_hset] at hz
   by_cases e:b=c
   · subst e; simp at hz; subst hz; exact hy
   · rw [if_neg e] at hz
     refine (hs.blk c z hz).prot hq fun B' o n k h j=>hB B' j fun e'=>?_
     subst e'
     exact e (hs.inj b c _ _ _ _ _ _ _ hk h rfl rfl)
 · rw [hget_hset]
   by_cases e:b=c
   · simp [e]
   · rw [if_neg e]; exact hs.dom c j hj
 · rw [hget_hset] at hz
   by_cases e:b=c
   · subst e; simp at hz; subst hz; exact hs.clean b hc hc' x hx (hcl ▸ hcz)
   · rw [if_neg e] at hz; exact hs.clean c hc hc' z hz hcz
 · rw [hB B' o fun e=>?_]
   · exact hs.qk B' hB' hn o
   · subst e
     rcases hs.low _ _ _ _ _ hk rfl with h | h
     · exact hn h
     · omega
theorem Sim.frzRow (hs:Sim w0 K0 K Q H w){b:Nat}{nz:Bool}{esz:Nat}{xs:List D}{p:Nat}{dy:Bool}(hx:hget H b=some (.row nz esz xs p dy)) :
   ∃ Q',Le Q Q'∧Sim w0 K0 K Q' (hset H b (.row nz esz xs xs.length dy)) w∧closedL xs=true∧
     ∀ B base n k,K b=some ⟨some (B,base,n),k⟩→∀ (i:Nat) (d:D),xs[i]?=some d→(cellsOf d).length=esz∧RelAt K Q' B (base + i * esz) (cellsOf d):=by
 obtain ⟨h1,h2,h3,h⟩:=hs.blk b _ hx
 rcases h with ⟨g1,g2,rfl⟩ | ⟨B,base,vs,t,g1,g2,g3,g4,g5,g6,g7⟩
 · have hp:p=0:=by simpa using h3
   subst hp
   refine ⟨Q,fun _ _ _ h=>h,hs.congr fun c=>?_,h1,fun B base n k hk i d hd=>by simp at hd⟩
   rw [hget_hset]
   by_cases e:b=c
   · subst e; simp [hx]
   · simp [e]
 · have hle:p * esz≤xs.length * esz:=Nat.mul_le_mul_right _ h3
   let Q':Pm:=fun B' o=>if B'=B∧base≤o∧o < base + xs.length * esz then vs[o]? else Q B' o
   have hq:Le Q Q':=fun B' o v h=>by
     simp only [Q']
     split
     · rename_i hc
       obtain ⟨rfl,ha,hb⟩:=hc
       by_cases hp:o < base + p * esz
       · rw [←g7 o ha hp]; exact h
       · rw [g6 o (by omega)] at h; cases h
     · exact h
   have hB:∀ B' j,B'≠B→Q' B' j=Q B' j:=fun B' j e=>by simp [Q',e]
   have hin:∀ o,base≤o→o < base + xs.length * esz→Q' B o=vs[o]?:=fun o a b=>by simp [Q',a,b]
   have hout:∀ o,base + xs.length * esz≤o→Q' B o=none:=fun o a=>by
     have:¬ o < base + xs.length * esz:=by omega
     simp only [Q',this,and_false,if_false]
     exact g6 o (by omega)
   refine ⟨Q',hq,?_,h1,fun B2 base2 n2 k2 hk i d hd=>?_⟩
   · refine hs.prot hx g1 hq hB (fun o v h=>?_) ⟨h1,h2,Nat.le_refl _,.inr ⟨B,base,vs,t,g1,g2,g3,g4,g5.map h1 hq,hout,hin⟩⟩ rfl
     by_cases hc:base≤o∧o < base + xs.length * esz
     · rw [hin o hc.1 hc.2] at h
       refine .inl ?_
       rw [cell_of_heap g3]
       refine ⟨h,?_⟩
       have he:esz≠0:=fun e0=>by rw [e0] at hc; omega
       have hidx:(o - base) / esz < xs.length:=by rw [Nat.div_lt_iff_lt_mul (by omega)]; omega
       have hj:(o - base) % esz < (cellsOf (xs[(o - base) / esz])).length:=by
         rw [h2 _ (List.getElem_mem hidx)]; exact Nat.mod_lt _ (by omega)
       obtain ⟨v',hv',_,h1'⟩:=g5 ((o - base) / esz) _ (by simp [hidx]) ((o - base) % esz) _ (List.getElem?_eq_getElem hj)
       have:base + (o - base) / esz * esz + (o - base) % esz=o:=by
         have:=Nat.div_add_mod (o - base) esz
         rw [Nat.mul_comm] at this; omega
       rw [this,h] at hv'; injection hv' with e; subst e; exact h1'
     · simp only [Q'] at h
       rw [if_neg fun hh=>hc hh.2] at h
       exact hs.val B o v h
   · rw [g1] at hk; injection hk with hk; injection hk with hk _; injection hk with hk; injection hk with e1 e2; injection e2 with e2 _
     subst e1; subst e2
     have hlen:=h2 d (List.mem_of_getElem? hd)
     have hi:i < xs.length:=(List.getElem?_eq_some_iff.1 hd).1
     have hmul:(i + 1) * esz≤xs.length * esz:=Nat.mul_le_mul_right _ hi
     rw [Nat.add_mul] at hmul
     refine ⟨hlen,.of_get fun j c hc=>?_⟩
     obtain ⟨v,hv,hr,h1v⟩:=g5 i d hd j c hc
     have hj:j < esz:=by rw [←hlen]; exact (List.getElem?_eq_some_iff.1 hc).1
     refine ⟨v,?_,h1v,hr.mono (fun _ _ h=>h) hq⟩
     rw [hin _ (by omega) (by omega)]; exact hv
theorem Sim.frzBox (hs:Sim w0 K0 K Q H w){b:Nat}{cs cs':List D}{fr:Bool}(hx:hget H b=some (.box cs fr)){B:Nat}{vs:Array Value}{t:TypeId}
   (hk:K b=some ⟨some (B,0,vs.size),none⟩) (hh:w.heap[B]?=some (.cells vs t (0,0))) (hr:RelL K Q cs' vs.toList) (hc:closedL cs'=true) :
   ∃ Q',Le Q Q'∧Sim w0 K0 K Q' (hset H b (.box cs' true)) w∧RelAt K Q' B 0 cs':=by
 obtain ⟨B',vs',t',g1,g2,g3,g4,g5,g6⟩:=hs.blk b _ hx
 rw [hk] at g1; injection g1 with g1; injection g1 with g1 _; injection g1 with g1; injection g1 with e1 e2; subst e1
 rw [hh] at g2; injection g2 with g2; injection g2 with e3 e4 _; subst e3
 let Q':Pm:=fun B' o=>if B'=B then vs[o]? else Q B' o
 have hq:Le Q Q':=fun B' o v h=>by
   simp only [Q']
   split
   · rename_i e; subst e
     rw [g5] at h
     cases fr with
     | true=>simpa using h
     | false=>simp at h
   · exact h
 have hin:∀ o,Q' B o=vs[o]?:=fun o=>by simp [Q']
 refine ⟨Q',hq,?_,.of_get fun i c hci=>?_⟩
 · refine hs.prot hx hk hq (fun B' j e=>by simp [Q',e]) (fun o v h=>?_) ⟨B,vs,t,hk,hh,hr.mono (fun _ _ h=>h) hq,g4,fun o=>by simp [hin],fun _=>hc⟩ rfl
   rw [hin] at h; refine .inl ?_; rw [cell_of_heap hh]; exact ⟨h,g4 v (Array.mem_of_getElem? h)⟩
 · obtain ⟨v,hv,hrel⟩:=hr.get hci
   have hvs:vs[i]?=some v:=by simpa using hv
   exact ⟨v,by rw [Nat.zero_add,hin]; exact hvs,g4 v (Array.mem_of_getElem? hvs),hrel.mono (fun _ _ h=>h) hq⟩
theorem Sim.frzMap (hs:Sim w0 K0 K Q H w){b:Nat}{cs:List D}{fr:Bool}(hx:hget H b=some (.mapB cs fr)) :
   ∃ Q',Le Q Q'∧Sim w0 K0 K Q' (hset H b (.mapB cs true)) w∧closedL cs=true∧∀ B,K b=some ⟨some (B,0,0),none⟩→Rel K Q' (.fm cs) (.map (some B)):=by
 obtain ⟨B,es,cl,h1,h2,h3,h4,h5⟩:=hs.blk b _ hx
 let Q':Pm:=fun B' o=>if B'=B∧o=0 then some (.tuple (flatEs es).toArray) else Q B' o
 have hq:Le Q Q':=fun B' o v h=>by
   simp only [Q']
   split
   · rename_i e
     obtain ⟨rfl,rfl⟩:=e
     rw [h5] at h
     split at h
     · exact h
     · cases h
   · exact h
 have h0:Q' B 0=some (.tuple (flatEs es).toArray):=by simp [Q']
 refine ⟨Q',hq,?_,h4,fun B2 hk=>?_⟩
 · refine hs.prot hx h1 hq (fun B' j e=>by simp [Q',e]) (fun o v h=>?_) ⟨B,es,cl,h1,h2,h3.mono (fun _ _ h=>h) hq,h4,fun o=>?_⟩ rfl
   · by_cases e:o=0
     · subst e
       rw [h0] at h; injection h with h
       exact .inr ⟨rfl,es,cl,h2,h.symm⟩
     · simp only [Q'] at h
       rw [if_neg fun hh=>e hh.2] at h
       exact hs.val B o v h
   · by_cases e:o=0
     · subst e; rw [h0]; simp
     · simp only [Q']
       rw [if_neg fun hh=>e hh.2,h5,if_neg fun hh=>e hh.2,if_neg fun hh=>e hh.2]
 · rw [h1] at hk; injection hk with hk; injection hk with hk _; injection hk with hk; injection hk with hk _; subst hk
   exact .fm h0 (h3.mono (fun _ _ h=>h) hq) h4
theorem cut_get {xs:List D}{o l i:Nat}{d:D}(h:(cut xs o l)[i]?=some d):xs[o + i]?=some d∧i < l:=by
 simp only [cut,List.getElem?_take,List.getElem?_drop] at h
 split at h
 · exact ⟨h,‹_›⟩
 · cases h
theorem cut_length {xs:List D}{o l:Nat}(h:o + l≤xs.length):(cut xs o l).length=l:=by simp [cut]; omega
theorem cut_closed {xs:List D}{o l:Nat}(h:closedL xs=true):closedL (cut xs o l)=true:=
 closedL_iff.2 fun d hd=>closedL_mem h (List.mem_of_mem_drop (List.mem_of_mem_take hd))
def FrzOk (w0:World0)(K0 K:Km)(Q:Pm)(H:Heap)(w:World)(d':D)(H':Heap)(v:Value):Prop:=
 ∃ Q',Le Q Q'∧Sim w0 K0 K Q' H' w∧Rel K Q' d' v∧closed d'=true∧(∀ c,hget H' c=none↔hget H c=none)
def FrzLOk (w0:World0)(K0 K:Km)(Q:Pm)(H:Heap)(w:World)(d':List D)(H':Heap)(v:List Value):Prop:=
 ∃ Q',Le Q Q'∧Sim w0 K0 K Q' H' w∧RelL K Q' d' v∧closedL d'=true∧(∀ c,hget H' c=none↔hget H c=none)
theorem hset_none {H:Heap}{b:Nat}{x y:Blk}(hx:hget H b=some x)(c:Nat):hget (hset H b y) c=none↔hget H c=none:=by
 rw [hget_hset]
 by_cases e:b=c
 · subst e; simp [hx]
 · simp [e]
theorem frz_ok:∀ n,(∀ {Q H d H' d' v},Sim w0 K0 K Q H w→Rel K Q d v→frz n d H=some (d',H')→FrzOk w0 K0 K Q H w d' H' v)∧
   (∀ {Q H d H' d' v},Sim w0 K0 K Q H w→RelL K Q d v→frzL n d H=some (d',H')→FrzLOk w0 K0 K Q H w d' H' v)
 | 0=>⟨fun _ _ h=>by simp [frz] at h,fun _ _ h=>by simp [frzL] at h⟩
 | n + 1 => by
   obtain ⟨ih1,ih2⟩:=frz_ok n
   refine ⟨fun {Q H d H' d' v} hs hr h=>?_,fun {Q H d H' d' v} hs hr h=>?_⟩
   · cases d with
     | dead=>simp [frz] at h
     | bool b=>simp [frz] at h; obtain ⟨rfl,rfl⟩:=h; exact ⟨Q,fun _ _ _ h=>h,hs,hr,rfl,fun _=>.rfl⟩
     | int k n=>simp [frz] at h; obtain ⟨rfl,rfl⟩:=h; exact ⟨Q,fun _ _ _ h=>h,hs,hr,rfl,fun _=>.rfl⟩
     | str s=>simp [frz] at h; obtain ⟨rfl,rfl⟩:=h; exact ⟨Q,fun _ _ _ h=>h,hs,hr,rfl,fun _=>.rfl⟩
     | fz a b c=>simp [frz] at h; obtain ⟨rfl,rfl⟩:=h; exact ⟨Q,fun _ _ _ h=>h,hs,hr,rfl,fun _=>.rfl⟩
     | fp a b=>simp [frz] at h; obtain ⟨rfl,rfl⟩:=h; exact ⟨Q,fun _ _ _ h=>h,hs,hr,rfl,fun _=>.rfl⟩
     | nilp=>simp [frz] at h; obtain ⟨rfl,rfl⟩:=h; exact ⟨Q,fun _ _ _ h=>h,hs,hr,rfl,fun _=>.rfl⟩
     | nilfn=>simp [frz] at h; obtain ⟨rfl,rfl⟩:=h; exact ⟨Q,fun _ _ _ h=>h,hs,hr,rfl,fun _=>.rfl⟩
     | fm cs=>simp [frz] at h; obtain ⟨rfl,rfl⟩:=h; exact ⟨Q,fun _ _ _ h=>h,hs,hr,rfl,fun _=>.rfl⟩
     | mp b=>
       simp only [frz] at h
       split at h<;>try (cases h; done)
       rename_i cs fr hx
       simp at h; obtain ⟨rfl,rfl⟩:=h
       obtain ⟨Q',hq,hs',hc,hrel⟩:=hs.frzMap hx
       cases hr with
       | mp hk=>exact ⟨Q',hq,hs',hrel _ hk,rfl,hset_none hx⟩
     | agg cs=>
       simp only [frz] at h
       cases hf:frzL n cs H with
       | none=>simp [hf] at h
       | some r=>
         obtain ⟨cs',H1⟩:=r
         simp [hf] at h; obtain ⟨rfl,rfl⟩:=h
         cases hr with
         | agg hl=>
           obtain ⟨Q',hq,hs',hl',hc,hd⟩:=ih2 hs hl hf
           exact ⟨Q',hq,hs',.agg hl',by simpa [closed] using hc,hd⟩
     | tup cs=>
       simp only [frz] at h
       cases hf:frzL n cs H with
       | none=>simp [hf] at h
       | some r=>
         obtain ⟨cs',H1⟩:=r
         simp [hf] at h; obtain ⟨rfl,rfl⟩:=h
         cases hr with
         | tup hl=>
           obtain ⟨Q',hq,hs',hl',hc,hd⟩:=ih2 hs hl hf
           exact ⟨Q',hq,hs',.tup hl',by simpa [closed] using hc,hd⟩
     | fn g cs=>
       simp only [frz] at h
       cases hf:frzL n cs H with
       | none=>simp [hf] at h
       | some r=>
         obtain ⟨cs',H1⟩:=r
         simp [hf] at h; obtain ⟨rfl,rfl⟩:=h
         cases hr with
         | fn hl=>
           obtain ⟨Q',hq,hs',hl',hc,hd⟩:=ih2 hs hl hf
           exact ⟨Q',hq,hs',.fn hl',by simpa [closed] using hc,hd⟩
     | ow b=>
       simp only [frz] at h
       split at h<;>try (cases h; done)
       rename_i nz esz xs p dy hx
       simp at h; obtain ⟨rfl,rfl⟩:=h
       obtain ⟨Q',hq,hs',hc,hrow⟩:=hs.frzRow hx
       refine ⟨Q',hq,hs',?_,by simp [closed],hset_none hx⟩
       obtain ⟨h1,h2,h3,hb⟩:=hs.blk b _ hx
       cases hr with
       | owNil hk=>
         rcases hb with ⟨_,_,rfl⟩ | ⟨B,base,vs,t,g1,_⟩
         · exact .fzNil _ _
         · rw [hk] at g1; injection g1 with g1; injection g1 with g1; cases g1
       | @ow _ B1 base1 tot1 nz1 esz1 len1 cap1 a1 hk hl ht ha=>
         rcases hb with ⟨g1,_⟩ | ⟨B,base,vs,t,g1,g2,_⟩
         · rw [hk] at g1; injection g1 with g1; injection g1 with g1; cases g1
         · have hrow':=hrow _ _ _ _ hk
           rw [hk] at g1; injection g1 with g1; injection g1 with e1 e2; injection e2 with e2; injection e2 with e2 e3; injection e3 with e3 e4
           subst e2; subst e3; subst e4
           by_cases he:xs=[]
           · subst he
             cases nz1 with
             | true=>exact absurd rfl (g2 rfl)
             | false=>exact .fzE _ _ _
           · rw [ha (by have:=List.length_pos_iff.2 he; omega)]; exact .fz he (.of_get hrow') hl hc
     | win b o l=>
       simp only [frz] at h
       split at h<;>try (cases h; done)
       rename_i nz esz xs p dy hx
       split at h<;>try (cases h; done)
       rename_i hle
       simp at h; obtain ⟨rfl,rfl⟩:=h
       have hle:o + l≤xs.length:=by simpa using hle
       obtain ⟨Q',hq,hs',hc,hrow⟩:=hs.frzRow hx
       refine ⟨Q',hq,hs',?_,by simp [closed],hset_none hx⟩
       cases hr with
       | winNil hk=>
         have:cut xs 0 0=[]:=by simp [cut]
         rw [this]; exact .fzNil _ _
       | win hk hl ho ht ha=>
         have hrow':=hrow _ _ _ _ hk
         have hlen:(cut xs o l).length=l:=cut_length hle
         by_cases he:l=0
         · subst he
           have:cut xs o 0=[]:=by simp [cut]
           rw [this]; exact .fzE _ _ _
         · rw [ha (by omega)]
           have hne:cut xs o l≠[]:=fun e=>by rw [e] at hlen; simp at hlen; omega
           have hez:∀ i d,(cut xs o l)[i]?=some d→_:=fun i d hd=>hrow' (o + i) d (cut_get hd).1
           obtain ⟨_,_,_,hb⟩:=hs.blk b _ hx
           rcases hb with ⟨g1,_⟩ | ⟨B,base,vs,t,g1,_⟩
           · rw [hk] at g1; injection g1 with g1; injection g1 with g1; cases g1
           · rw [hk] at g1; injection g1 with g1; injection g1 with e1 e2; injection e2 with e2; injection e2 with e2 e3; injection e3 with e3 e4
             subst e3
             have:=Rel.fz (K:=K) (Q:=Q') (nz:=false) hne (RelRow.of_get fun i d hd=>by
               have:=hez i d hd
               rw [Nat.add_mul,←Nat.add_assoc] at this
               exact this) (by rw [hlen]; exact hl) (cut_closed hc)
             rwa [hlen] at this
     | ep b i o=>
       simp only [frz] at h
       split at h<;>try (cases h; done)
       rename_i nz esz xs p dy hx
       split at h<;>try (cases h; done)
       rename_i d hd
       simp at h; obtain ⟨rfl,rfl⟩:=h
       obtain ⟨Q',hq,hs',hc,hrow⟩:=hs.frzRow hx
       have hcd:closedL (cellsOf d)=true:=cellsOf_closed (closedL_mem hc (List.mem_of_getElem? hd))
       refine ⟨Q',hq,hs',?_,by simp [closed],hset_none hx⟩
       cases hr with
       | ep off hk hi=>
         obtain ⟨_,_,_,hb⟩:=hs.blk b _ hx
         rcases hb with ⟨g1,_⟩ | ⟨B,base,vs,t,g1,_⟩
         · rw [hk] at g1; injection g1 with g1; injection g1 with g1; cases g1
         · have hk':=hk
           rw [hk] at g1; injection g1 with g1; injection g1 with e1 e2; injection e2 with e2; injection e2 with e2 e3; injection e3 with e3 e4
           subst e3
           exact .fp _ (hrow _ _ _ _ hk' i d hd).2 hcd
     | ptr b o=>
       simp only [frz] at h
       split at h<;>try (cases h; done)
       rename_i cs fr hx
       split at h<;>try (cases h; done)
       rename_i cs' H1 hf
       split at h<;>try (cases h; done)
       rename_i cs2 fr2 hx2
       simp at h; obtain ⟨rfl,rfl⟩:=h
       obtain ⟨B,vs,t,g1,g2,g3,g4,g5,g6⟩:=hs.blk b _ hx
       obtain ⟨Q1,hq1,hs1,hl1,hc1,hd1⟩:=ih2 hs g3 hf
       obtain ⟨Q2,hq2,hs2,hat⟩:=hs1.frzBox hx2 g1 g2 hl1 hc1
       refine ⟨Q2,fun B o v h=>hq2 _ _ _ (hq1 _ _ _ h),hs2,?_,by simp [closed],fun c=>(hset_none hx2 c).trans (hd1 c)⟩
       cases hr with
       | ptr off hk=>
         rw [g1] at hk; injection hk with hk; injection hk with hk; injection hk with hk; injection hk with e1 _; subst e1
         have:=Rel.fp (K:=K) o hat hc1
         rwa [Nat.zero_add] at this
   · cases d with
     | nil=>
       simp [frzL] at h; obtain ⟨rfl,rfl⟩:=h
       exact ⟨Q,fun _ _ _ h=>h,hs,hr,rfl,fun _=>.rfl⟩
     | cons d r=>
       simp only [frzL] at h
       split at h<;>try (cases h; done)
       rename_i d1 H1 hf1
       split at h<;>try (cases h; done)
       rename_i r1 H2 hf2
       simp at h; obtain ⟨rfl,rfl⟩:=h
       cases hr with
       | cons hd ht=>
         obtain ⟨Q1,hq1,hs1,hl1,hc1,hd1⟩:=ih1 hs hd hf1
         obtain ⟨Q2,hq2,hs2,hl2,hc2,hd2⟩:=ih2 hs1 (ht.mono (fun _ _ h=>h) hq1) hf2
         exact ⟨Q2,fun B o v h=>hq2 _ _ _ (hq1 _ _ _ h),hs2,.cons (hl1.mono (fun _ _ h=>h) hq2) hl2,by simp [closedL,hc1,hc2],fun c=>(hd2 c).trans (hd1 c)⟩
end
end Gs
namespace Gs
open Go
variable [GlobTab]
mutual
def okC:D→Value→Bool
 | .bool a,v=>(match v with | .bool b=>a == b | _=>false)
 | .int k n,v=>(match v with | .int j m=>decide (k=j) && n == m | _=>false)
 | .str s,v=>(match v with | .string t=>decide (s=t) | _=>false)
 | .fz _ _ xs,v=>(match xs,v with | [],.slice none 0 0=>true | _,_=>false)
 | .nilp,v=>(match v with | .pointer none=>true | _=>false)
 | .nilfn,v=>(match v with | .nilFunc=>true | _=>false)
 | .fm cs,v=>(match cs,v with | [],.map none=>true | _,_=>false)
 | .agg cs,v=>(match v with | .agg vs=>okCs cs vs.toList | _=>false)
 | .dead,_=>true
 | _,_=>false
def okCs:List D→List Value→Bool
 | [],[]=>true
 | c :: cs,v :: vs=>okC c v && okCs cs vs
 | _,_=>false
end
mutual
theorem okC_rel {K:Km}{Q:Pm} : ∀ (d:D) (v:Value),okC d v=true→Rel K Q d v
 | .bool a,v,h=>by cases v<;>simp_all [okC]; exact .bool _
 | .int k n,v,h=>by cases v<;>simp_all [okC]; exact .int _ _
 | .str s,v,h=>by cases v<;>simp_all [okC]; exact .str _
 | .fz nz esz xs,v,h=>by
   simp only [okC] at h
   split at h
   · exact .fzNil _ _
   · cases h
 | .nilp,v,h=>by
   simp only [okC] at h
   split at h
   · exact .nilp
   · cases h
 | .nilfn,v,h=>by cases v<;>simp_all [okC]; exact .nilfn
 | .fm cs,v,h=>by
   simp only [okC] at h
   split at h
   · exact .fmNil
   · cases h
 | .mp _,_,h=>by simp [okC] at h
 | .agg cs,v,h=>by
   cases v<;>simp only [okC] at h<;>try (cases h; done)
   have:=okCs_rel (K:=K) (Q:=Q) cs _ h
   exact Rel.agg this
 | .dead,v,h=>.dead v
 | .tup _,_,h=>by simp [okC] at h
 | .fp _ _,_,h=>by simp [okC] at h
 | .ow _,_,h=>by simp [okC] at h
 | .win _ _ _,_,h=>by simp [okC] at h
 | .ptr _ _,_,h=>by simp [okC] at h
 | .ep _ _ _,_,h=>by simp [okC] at h
 | .fn _ _,_,h=>by simp [okC] at h
theorem okCs_rel {K:Km}{Q:Pm} : ∀ (ds:List D) (vs:List Value),okCs ds vs=true→RelL K Q ds vs
 | [],[],_=>.nil
 | [],_ :: _,h=>by simp [okCs] at h
 | _ :: _,[],h=>by simp [okCs] at h
 | d :: ds,v :: vs,h=>by
   simp only [okCs,Bool.and_eq_true] at h
   exact .cons (okC_rel d v h.1) (okCs_rel ds vs h.2)
end
mutual
def eqG:D→D→Bool
 | .bool a,d=>(match d with | .bool b=>a == b | _=>false)
 | .int k n,d=>(match d with | .int j m=>decide (k=j) && decide (n=m) | _=>false)
 | .str s,d=>(match d with | .str t=>decide (s=t) | _=>false)
 | .agg cs,d=>(match d with | .agg ds=>eqGs cs ds | _=>false)
 | .fz nz esz xs,d=>(match d with | .fz nz' esz' ys=>nz == nz' && esz == esz' && eqGs xs ys | _=>false)
 | _,_=>false
def eqGs:List D→List D→Bool
 | [],[]=>true
 | c :: cs,d :: ds=>eqG c d && eqGs cs ds
 | _,_=>false
end
mutual
theorem eqG_eq:∀ (c d:D),eqG c d=true→c=d
 | .bool a,d,h=>by cases d<;>simp_all [eqG]
 | .int k n,d,h=>by cases d<;>simp_all [eqG]
 | .str s,d,h=>by cases d<;>simp_all [eqG]
 | .agg cs,d,h=>by
   cases d<;>simp only [eqG] at h<;>try (cases h; done)
   rw [eqGs_eq _ _ h]
 | .fz nz esz xs,d,h=>by
   cases d<;>simp only [eqG] at h<;>try (cases h; done)
   simp only [Bool.and_eq_true,beq_iff_eq] at h
   obtain ⟨⟨h1,h2⟩,h3⟩:=h
   rw [h1,h2,eqGs_eq _ _ h3]
 | .tup _,_,h=>by simp [eqG] at h
 | .fp _ _,_,h=>by simp [eqG] at h
 | .ow _,_,h=>by simp [eqG] at h
 | .win _ _ _,_,h=>by simp [eqG] at h
 | .ptr _ _,_,h=>by simp [eqG] at h
 | .ep _ _ _,_,h=>by simp [eqG] at h
 | .fn _ _,_,h=>by simp [eqG] at h
 | .nilp,_,h=>by simp [eqG] at h
 | .nilfn,_,h=>by simp [eqG] at h
 | .mp _,_,h=>by simp [eqG] at h
 | .fm _,_,h=>by simp [eqG] at h
 | .dead,_,h=>by simp [eqG] at h
theorem eqGs_eq:∀ (cs ds:List D),eqGs cs ds=true→cs=ds
 | [],[],_=>rfl
 | [],_ :: _,h=>by simp [eqGs] at h
 | _ :: _,[],h=>by simp [eqGs] at h
 | c :: cs,d :: ds,h=>by
   simp only [eqGs,Bool.and_eq_true] at h
   rw [eqG_eq c d h.1,eqGs_eq cs ds h.2]
end
def okX (n:Nat):Operand→Opd→Bool
 | .tmp t,.t u=>t == u && decide (t < n)
 | .const v,.c d=>okC d v
 | .func f,.c (.fn g [])=>f == g
 | .global g,.c (.fp cs 0)=>(match GlobTab.gl g with
   | some ds=>eqGs cs ds
   | none=>false)
 | _,_=>false
theorem okX_rel {K:Km}{Q:Pm}{n:Nat}{e:Env}{a:Act}{o:Operand}{x:Opd}(he:RelE K Q n e a.tmps)(h:okX n o x=true):Rel K Q (rho e x) (a.eval o):=by
 cases o with
 | tmp t=>
   cases x with
   | t u=>
     simp only [okX,Bool.and_eq_true,beq_iff_eq,decide_eq_true_eq] at h
     obtain ⟨rfl,h⟩:=h
     exact he.2 t h
   | c d=>simp [okX] at h
 | const v=>
   cases x with
   | t u=>simp [okX] at h
   | c d=>exact okC_rel d v (by simpa [okX] using h)
 | func f=>
   cases x with
   | t u=>simp [okX] at h
   | c d=>
     cases d<;>simp only [okX] at h<;>try (cases h; done)
     rename_i g caps
     cases caps with
     | nil=>
       have:f=g:=by simpa [okX] using h
       subst this
       exact .fn .nil
     | cons _ _=>simp [okX] at h
 | global g=>
   cases x with
   | t u=>simp [okX] at h
   | c d =>
     cases d<;>simp only [okX] at h<;>try (cases h; done)
     rename_i cs off
     cases off with
     | succ k=>simp [okX] at h
     | zero=>
       simp only [okX] at h
       cases hg:GlobTab.gl g with
       | none=>rw [hg] at h; cases h
       | some ds=>
         rw [hg] at h
         have:=eqGs_eq _ _ h
         subst this
         obtain ⟨h1,h2⟩:=he.1.2 g cs hg
         have hr:Rel K Q (.fp cs 0) (pt g 0):=.fp 0 (RelAt.map (m:=fun _=>none) (K:=fun _=>none) ⟨fun b c i h=>(by cases h),fun _ _ _ h=>h⟩ h2 h1) h1
         exact hr
def okXs (n:Nat):List Operand→List Opd→Bool
 | [],[]=>true
 | o :: os,x :: xs=>okX n o x && okXs n os xs
 | _,_=>false
theorem okXs_rel {K:Km}{Q:Pm}{n:Nat}{e:Env}{a:Act}(he:RelE K Q n e a.tmps):∀ {os:List Operand} {xs:List Opd},okXs n os xs=true→RelL K Q (rhos e xs) (os.map a.eval)
 | [],[],_=>.nil
 | [],_ :: _,h=>by simp [okXs] at h
 | _ :: _,[],h=>by simp [okXs] at h
 | o :: os,x :: xs,h=>by
   simp only [okXs,Bool.and_eq_true] at h
   exact .cons (okX_rel he h.1) (okXs_rel he h.2)
def aggT (P:Program)(t:TypeId):Option Bool:=
 match P.underlying t with
 | some (.struct _)=>some true
 | some (.array _ _)=>some true
 | some _=>some false
 | none=>none
def sizeT (P:Program)(t:TypeId):Option Nat:=(P.info? t).map (·.size)
def zeroT (P:Program)(t:TypeId):Option Value:=(P.info? t).bind (·.zero)
section
variable {P:Program} {w:World}
theorem run_aggT {t:TypeId}{ag:Bool}(h:aggT P t=some ag):(isAgg t).run P w = .ok ag w:=by
 unfold aggT at h
 split at h<;>rename_i hu
 · injection h with h; subst h; simp [isAgg,Go.run_underlying hu]
 · injection h with h; subst h; simp [isAgg,Go.run_underlying hu]
 · rename_i h1 h2
   injection h with h; subst h
   simp only [isAgg,Sem.run_bind,Go.run_underlying hu,Result.andThen_ok]
   rename_i d
   cases d<;>first | rfl | exact absurd hu (h1 _) | exact absurd hu (h2 _ _)
 · cases h
theorem run_info {t:TypeId}{i:TypeInfo}(h:P.info? t=some i):(typeInfo t).run P w = .ok i w:=by
 simp only [typeInfo,Sem.run_bind]
 show ((Sem.program .pure).run P w).andThen _=_
 simp [Sem.run,Result.andThen,h]
theorem run_sizeT {t:TypeId}{n:Nat}(h:sizeT P t=some n):(Go.sizeOf t).run P w = .ok n w:=by
 unfold sizeT at h
 cases hi:P.info? t with
 | none=>simp [hi] at h
 | some i=>simp [hi] at h; simp [Go.sizeOf,run_info hi,h]
theorem run_zeroT {t:TypeId}{v:Value}(h:zeroT P t=some v):(zeroValue t).run P w = .ok v w:=by
 unfold zeroT at h
 cases hi:P.info? t with
 | none=>simp [hi] at h
 | some i=>simp [hi] at h; simp [zeroValue,run_info hi,h]
end
end Gs
