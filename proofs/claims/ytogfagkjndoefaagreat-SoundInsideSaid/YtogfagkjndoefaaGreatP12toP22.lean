/- part P12; part P22; no conditions. -/
import Derived.Test.YtogfagkjndoefaaGreatS148toS149
import Derived.Test.YtogfagkjndoefaaGreatP21
set_option linter.all false
open Gs Go
namespace Tz
structure Sub (c b:Box):Prop where
 x0:b.x0≤c.x0
 y0:b.y0≤c.y0
 z0:b.z0≤c.z0
 x1:c.x1≤b.x1
 y1:c.y1≤b.y1
 z1:c.z1≤b.z1
section
variable {s:Survey} {b c:Box} {ax at_:Int}
theorem ok3 {b:Box} : b.ok=true↔(b.x0 < b.x1∧b.y0 < b.y1)∧b.z0 < b.z1:=by
 simp only [Box.ok,Bool.and_eq_true,decide_eq_true_eq]
theorem sub_err (h0:sbErr s b=0)(hc:c.ok=true)(hs:Sub c b):sbErr s c=0:=by
 obtain ⟨hok,hb0⟩:=sb_ok h0
 obtain ⟨h1,h2⟩:=boxed_ok hb0
 unfold sbErr at h0 ⊢
 cases h3:decide (surveyErr s=0) with
 | false=>rw [h3] at h0; exact absurd h0 (of_decide_eq_false h3)
 | true=>
   simp only [cond_true]
   unfold boxedErr
   rw [hc]
   have:outOf c s.pit=false:=by
     simp only [outOf,Bool.or_eq_false_iff,decide_eq_false_iff_not] at h2 ⊢
     have a1:=hs.x0; have a2:=hs.y0; have a3:=hs.z0; have a4:=hs.x1; have a5:=hs.y1; have a6:=hs.z1
     omega
   rw [this]; rfl
theorem mem_thrR (h0:sbErr s b=0){x:ByteArray} : x∈thrR s b↔(∃ d∈s.beds,bHit b d=true∧d.name=x)∨(∃ j∈s.joints,jtHit b j=true∧j.name=x):=by
 unfold thrR
 rw [decide_eq_true h0,cond_true,(sortB_perm _).mem_iff,thrL,List.mem_append]
 simp only [List.mem_map,List.mem_filter,and_assoc]
theorem mem_flawsR (h0:sbErr s b=0){x:ByteArray} : x∈flawsR s b↔∃ f∈s.flaws,fHit b f=true∧f.name=x:=by
 unfold flawsR
 rw [decide_eq_true h0,cond_true]
 simp only [List.mem_map,List.mem_filter,and_assoc]
theorem bHit_sub (hs:Sub c b){d:Bed}(h:bHit c d=true):bHit b d=true:=by
 simp only [bHit,Bool.and_eq_true,decide_eq_true_eq] at h ⊢
 have:=hs.z0; have:=hs.z1; omega
theorem jtHit_sub (hs:Sub c b){j:Joint}(h:jtHit c j=true):jtHit b j=true:=by
 simp only [jtHit,Bool.and_eq_true,decide_eq_true_eq,Box.lo,Box.hi] at h ⊢
 have:=hs.x0; have:=hs.y0; have:=hs.z0; have:=hs.x1; have:=hs.y1; have:=hs.z1
 split at h<;>simp_all<;>omega
theorem thr_sub (h0:sbErr s b=0)(hc:sbErr s c=0)(hs:Sub c b){x:ByteArray}(h:x∈thrR s c):x∈thrR s b:=by
 rw [mem_thrR hc] at h
 rw [mem_thrR h0]
 rcases h with ⟨d,h1,h2,h3⟩ | ⟨j,h1,h2,h3⟩
 · exact .inl ⟨d,h1,bHit_sub hs h2,h3⟩
 · exact .inr ⟨j,h1,jtHit_sub hs h2,h3⟩
theorem off_sub {p:List Pt}(hb:b.ok=true)(hc:c.ok=true)(hs:Sub c b)(h:Off p b):Off p c:=by
 rw [ok3] at hb hc
 have a1:=hs.x0; have a2:=hs.y0; have a3:=hs.z0; have a4:=hs.x1; have a5:=hs.y1; have a6:=hs.z1
 exact part_of (by omega) (by omega) (by omega) (by omega) h
theorem fHit_sub (hb:b.ok=true)(hc:c.ok=true)(hs:Sub c b){f:Flaw}(h:fHit c f=true):fHit b f=true:=by
 unfold fHit at h ⊢
 rw [meets_off hc] at h
 rw [meets_off hb]
 have a3:=hs.z0; have a6:=hs.z1
 exact ⟨by omega,fun ho=>h.2 (off_sub hb hc hs ho)⟩
theorem flw_sub (h0:sbErr s b=0)(hc:sbErr s c=0)(hs:Sub c b){x:ByteArray}(h:x∈flawsR s c):x∈flawsR s b:=by
 rw [mem_flawsR hc] at h
 rw [mem_flawsR h0]
 obtain ⟨f,h1,h2,h3⟩:=h
 exact ⟨f,h1,fHit_sub (boxed_ok (sb_ok h0).2).1 (boxed_ok (sb_ok hc).2).1 hs h2,h3⟩
theorem names_nodup (h:SurveyOk s):s.names.Nodup:=by
 have hd:=h.dis
 simp only [disordered,Bool.or_eq_false_iff,decide_eq_false_iff_not,ne_eq,Classical.not_not] at hd
 have h1:=(dd_nodup _ (sortB_sorted s.names)).1 (by rw [hd.2.2.2,(sortB_perm _).length_eq])
 exact (sortB_perm s.names).nodup_iff.1 h1
end
end Tz
open Gs Go
namespace Tz
structure Wit where
 kind:Int
 name:ByteArray
 cell:V3
 st:Int
abbrev zW:Wit:=⟨0,.empty,⟨0,0,0⟩,0⟩
def evSt (l:List Ev):Prop:=∀ e∈l,e.st=1∨e.st=2
theorem join_in {a b:Int}(ha:a=0∨a=1∨a=2∨a=3)(hb:b=1∨b=2):joinS a b=0∨joinS a b=1∨joinS a b=2∨joinS a b=3:=by
 unfold joinS
 split
 · omega
 · split
   · omega
   · omega
theorem st_go {p:V3} : ∀ (l:List Ev) (s:Int),evSt l→(s=0∨s=1∨s=2∨s=3)→(l.foldl (stStep p) s=0∨l.foldl (stStep p) s=1∨l.foldl (stStep p) s=2∨l.foldl (stStep p) s=3)
 | [],s,_,hs=>hs
 | e :: l,s,h,hs=>by
   rw [List.foldl_cons]
   refine st_go l _ (fun x hx=>h x (List.mem_cons_of_mem _ hx)) ?_
   unfold stStep
   cases e.box.has p with
   | true=>exact join_in hs (h e (by simp))
   | false=>exact hs
theorem st_in {l:List Ev}(h:evSt l)(p:V3):stAt l p=0∨stAt l p=1∨stAt l p=2∨stAt l p=3:=st_go l 0 h (.inl rfl)
def cw1 (n:Int)(w:Wit)(o:Option V3):Wit:=match o with
  | none=>w
  | some c=>bif decide (w.kind=0) || bef c w.cell then ⟨1,.empty,c,n⟩ else w
def cellF (f:Int→Option V3):Wit:=cw1 3 (cw1 2 (cw1 0 zW (f 0)) (f 2)) (f 3)
structure CellW (l:List Ev) (b:Box) (w:Wit):Prop where
 no:w.kind=0→w=zW∧∀ c,b.has c=true→stAt l c=1
 yes:w.kind≠0→w.kind=1∧w=⟨1,.empty,w.cell,w.st⟩∧b.has w.cell=true∧stAt l w.cell=w.st∧w.st≠1
theorem cw1_ok {l:List Ev}{b:Box}{w:Wit}{n:Int}{o:Option V3}(done:Int→Prop)(ho:Least b (stAt l) n o)(hn:n≠1)
   (h:(w.kind=0→w=zW∧∀ c,b.has c=true→¬ done (stAt l c))∧(w.kind≠0→w.kind=1∧w=⟨1,.empty,w.cell,w.st⟩∧b.has w.cell=true∧stAt l w.cell=w.st∧w.st≠1)) :
   (((cw1 n w o).kind=0→cw1 n w o=zW∧∀ c,b.has c=true→¬ (done (stAt l c)∨stAt l c=n))∧((cw1 n w o).kind≠0→(cw1 n w o).kind=1∧cw1 n w o=⟨1,.empty,(cw1 n w o).cell,(cw1 n w o).st⟩∧b.has (cw1 n w o).cell=true∧stAt l (cw1 n w o).cell=(cw1 n w o).st∧(cw1 n w o).st≠1)):=by
 cases o with
 | none=>
   simp only [cw1]
   refine ⟨fun hk=>⟨(h.1 hk).1,fun c hc hd=>?_⟩,h.2⟩
   rcases hd with hd | hd
   · exact (h.1 hk).2 c hc hd
   · exact ho.no rfl c hc hd
 | some m=>
   obtain ⟨h1,h2,_⟩:=ho.yes m rfl
   simp only [cw1]
   cases hb:decide (w.kind=0) || bef m w.cell with
   | true=>exact ⟨fun hk=>by simp at hk,fun _=>⟨rfl,rfl,h1,h2,hn⟩⟩
   | false=>
     simp only [cond_false]
     simp only [Bool.or_eq_false_iff,decide_eq_false_iff_not] at hb
     exact ⟨fun hk=>absurd hk hb.1,h.2⟩
theorem cellF_ok {l:List Ev}(hl:evSt l){b:Box}{f:Int→Option V3}(hf:∀ n,Least b (stAt l) n (f n)):CellW l b (cellF f):=by
 have h0:=cw1_ok (w:=zW) (fun _=>False) (hf 0) (by decide) ⟨fun _=>⟨rfl,fun _ _ h=>h⟩,fun h=>absurd rfl h⟩
 have h2:=cw1_ok (fun x=>False∨x=0) (hf 2) (by decide) h0
 have h3:=cw1_ok (fun x=>(False∨x=0)∨x=2) (hf 3) (by decide) h2
 refine ⟨fun hk=>⟨(h3.1 hk).1,fun c hc=>?_⟩,h3.2⟩
 have:=(h3.1 hk).2 c hc
 rcases st_in hl c with g | g | g | g
 · exact absurd (.inl (.inl (.inr g))) this
 · exact g
 · exact absurd (.inl (.inr g)) this
 · exact absurd (.inr g) this
def headW (k:Int)(l:List ByteArray)(els:Wit):Wit:=match l with
  | n :: _=>⟨k,n,⟨0,0,0⟩,0⟩
  | []=>els
def isBed (s:Survey)(n:ByteArray):Bool:=s.beds.any fun x=>seq x.name n
def bedsT (s:Survey)(b:Box):List ByteArray:=(thrR s b).filter (isBed s)
def jntsT (s:Survey)(b:Box):List ByteArray:=(thrR s b).filter fun n=>!isBed s n
def findW (s:Survey)(cw:Wit)(b:Box):Wit:=bif outOf b s.pit then ⟨5,.empty,⟨0,0,0⟩,0⟩ else bif decide (cw.kind=0) then headW 2 (flawsR s b) (headW 3 (bedsT s b) (headW 4 (jntsT s b) zW)) else cw
theorem headW_zero {k:Int}(hk:k≠0){l:List ByteArray}{w:Wit} : (headW k l w).kind=0↔l=[]∧w.kind=0:=by
 cases l with
 | nil=>simp [headW]
 | cons a r=>simp [headW,hk]
structure SoundOk (s:Survey) (l:List Ev) (b:Box):Prop where
 inn:outOf b s.pit=false
 cells:∀ c,b.has c=true→stAt l c=1
 fl:flawsR s b=[]
 bd:bedsT s b=[]
 jn:jntsT s b=[]
theorem find_zero {s:Survey}{l:List Ev}{b:Box}{cw:Wit}(hc:CellW l b cw):(findW s cw b).kind=0↔SoundOk s l b:=by
 unfold findW
 cases ho:outOf b s.pit with
 | true=>exact ⟨fun h=>by simp at h,fun h=>by have:=h.inn; rw [ho] at this; cases this⟩
 | false=>
   simp only [cond_false]
   by_cases hk:cw.kind=0
   · rw [decide_eq_true hk,cond_true,headW_zero (by decide),headW_zero (by decide),headW_zero (by decide)]
     exact ⟨fun ⟨h1,h2,h3,_⟩=>⟨ho,(hc.no hk).2,h1,h2,h3⟩,fun h=>⟨h.fl,h.bd,h.jn,rfl⟩⟩
   · rw [decide_eq_false hk,cond_false]
     refine ⟨fun h=>absurd h hk,fun h=>?_⟩
     obtain ⟨_,_,h3,h4,h5⟩:=hc.yes hk
     exact absurd ((h.cells _ h3).symm.trans h4).symm h5
theorem thr_parts {s:Survey}{b:Box} : thrR s b=[]↔bedsT s b=[]∧jntsT s b=[]:=by
 unfold bedsT jntsT
 constructor
 · intro h; rw [h]; exact ⟨rfl,rfl⟩
 · rintro ⟨h1,h2⟩
   cases ht:thrR s b with
   | nil=>rfl
   | cons a r=>
     rw [ht] at h1 h2
     have k1:=List.filter_eq_nil_iff.1 h1 a (by simp)
     have k2:=List.filter_eq_nil_iff.1 h2 a (by simp)
     cases h:isBed s a<;>simp_all
theorem nil_of_sub {l m:List ByteArray}(h:∀ x∈l,x∈m)(hm:m=[]):l=[]:=by
 subst hm
 cases l with
 | nil=>rfl
 | cons a r=>exact absurd (h a (by simp)) (List.not_mem_nil)
theorem sound_sub {s:Survey}{l:List Ev}{b c:Box}(h:SoundOk s l b)(h0:sbErr s b=0)(hc:c.ok=true)(hs:Sub c b):SoundOk s l c:=by
 have h0':=sub_err h0 hc hs
 have ho:=(boxed_ok (sb_ok h0').2).2
 obtain ⟨h1,h2⟩:=thr_parts.1 (nil_of_sub (fun x hx=>thr_sub h0 h0' hs hx) (thr_parts.2 ⟨h.bd,h.jn⟩))
 refine ⟨ho,fun p hp=>h.cells p ?_,nil_of_sub (fun x hx=>flw_sub h0 h0' hs hx) h.fl,h1,h2⟩
 have k:=has_iff.1 hp
 have a1:=hs.x0; have a2:=hs.y0; have a3:=hs.z0; have a4:=hs.x1; have a5:=hs.y1; have a6:=hs.z1
 exact has_iff.2 ⟨by omega,by omega,by omega,by omega,by omega,by omega⟩
end Tz
