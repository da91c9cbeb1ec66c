/- part S98; no conditions. -/
import Derived.Test.YthndcpffehneaaaGreatS92toS97
import Derived.Test.YthndcpffehneaaaGreatS0A
set_option linter.unusedVariables false
set_option linter.unusedSimpArgs false
set_option linter.unusedSectionVars false
set_option linter.defProp false
set_option linter.deprecated false
set_option maxRecDepth 100000
open Gs Go
namespace Tz.C18
theorem site_names {s:Site} (h:siteErr s=0):∀ b∈s.blocks,seq b.name nob=false:=by
  have hr:=h
  rw [←site_eq] at hr
  unfold rSiteErr at hr
  cases h1:decide (surveyErr s.survey=0) with
  | false=>rw [h1] at hr; simp only [Bool.not_false,cond_true] at hr; rw [hr] at h1; simp at h1
  | true=>
  rw [h1] at hr
  cases h2:cMany s with
  | true=>rw [h2] at hr; simp at hr
  | false=>
  rw [h2] at hr
  cases h3:rngR s with
  | true=>rw [h3] at hr; simp at hr
  | false=>
  rw [h3] at hr
  cases h4:s.benches.any badE with
  | true=>rw [h4] at hr; simp at hr
  | false=>
  rw [h4] at hr
  cases h5:s.blocks.any badK with
  | true=>rw [h5] at hr; simp at hr
  | false=>
  intro b hb
  have:=List.any_eq_false.1 h5 b hb
  simp only [badK,Bool.not_eq_true',Bool.not_eq_false] at this
  rw [←name_eq] at this
  unfold pName at this
  simp only [Bool.and_eq_true,Bool.not_eq_true',Bool.or_eq_false_iff] at this
  exact this.1.1.1.1
def hP (s:Site) (tk:List ByteArray) (x:Block):Bool:=!taken tk x && (restL [under x.box] (tkB s tk)).isEmpty
theorem under_full {b:Box} (h:BoxIn b):fullB (under b)=true∧Near (under b)∧(under b).z1=(under b).z0 + 1:=by
  obtain ⟨h1,h2,h3,h4,h5,h6,h7,h8,h9⟩:=h
  have w:wsub b.z0 1=b.z0 - 1:=wrap_in (by omega) (by omega)
  unfold under
  rw [w]
  exact ⟨full_iff.2 (by simp only; omega),by constructor<;>simp only<;>omega,by simp only; omega⟩
theorem hP_eq {s:Site} (hok:SiteOk s) (tk:List ByteArray) {x:Block} (hx:x∈s.blocks) (hn:seq x.name nob=false):hP s tk x=firstP tk nob (fun b=>openSt s tk (under b)) x:=by
  obtain ⟨h1,h2,_⟩:=under_full (box_in hok hx)
  have:openSt s tk (under x.box)=(restL [under x.box] (tkB s tk)).isEmpty:=by
    rw [Bool.eq_iff_iff,List.isEmpty_iff,rest_nil h1,open_iff hok tk h2]
    simp only [cov_iff]
  unfold hP firstP
  rw [hn]
  show _=(!false && !taken tk x && openSt s tk (under x.box))
  rw [this]
  rfl
theorem lp_rhang {s:Site} (hok:SiteOk s) (hF:s.Fit) (h12:s.blocks.length≤12) (nz:Bool) (tk:List ByteArray) (ht:tk.length < 1000000) (e:Env) (H:Heap) (h1:Gs.get e 1=strz nz tk) (h2:Gs.get e 2 = .ptr 2 0) (h6:Gs.get e 6=int 0) (hH2:hget H 2=some (.box s.cells false)) :
    Ends T 28002 e H (fun X e' H'=>match s.blocks.find? (hP s tk) with
      | some x=>X = .ret∧Gs.get e' 4 = .str x.name∧Gs.get e' 5 = .bool true
      | none=>X = .ex 0):=by
  have hbl:=hF.bl
  have f1:=e_boxes s hF nz tk ht
  have htl:=tkB_len s tk
  refine (loop_findH (T:=T) (key:=28002) (li:=l28002) rfl s.blocks (hP s tk) (fun i e H=>Gs.get e 1=strz nz tk∧Gs.get e 2 = .ptr 2 0∧Gs.get e 6=int i∧hget H 2=some (.box s.cells false))
    (fun x X e' H'=>X = .ret∧Gs.get e' 4 = .str x.name∧Gs.get e' 5 = .bool true) (fun X e' H'=>X = .ex 0) ?_ ?_ e H ⟨h1,h2,h6,hH2⟩).mono fun X e' H' h=>by cases hf:s.blocks.find? (hP s tk)<;>rw [hf] at h<;>exact h
  · rintro i x e H hx hi ⟨h1,h2,h6,hH2⟩
    have hxm:=List.mem_of_getElem? hx
    have hx':(s.blocks.map Block.enc)[i]?=some x.enc:=by simp [hx]
    have hc:=e_rhas nz tk ht x.name
    rw [←seq_any] at hc
    have f2:=e_rout5 x.box
    obtain ⟨hf,_,hthin⟩:=under_full (box_in hok hxm)
    have hsm:=rest_few (c:=under x.box) (bs:=tkB s tk) (ss:=[]) hf (by omega) (by simp) (by simp) (.inr (.inr ⟨hthin,rfl⟩))
    rw [List.append_nil] at hsm
    obtain ⟨p,q,r,f3⟩:=e_gapB true (tkB s tk) (under x.box) (by omega) hsm
    have hw:=wrap_succ (show i < 4611686018427387904 by omega)
    unfold hP
    cases hp:taken tk x with
    | true=>unfold taken at hp; rw [hp] at hc; simp only [↓eA,eB,seval,l28002,h1,h2,h6,hH2,hi,hx',hc,hw]<;>and_intros<;>first | trivial | rfl
    | false=>
      unfold taken at hp
      rw [hp] at hc
      cases hq:(restL [under x.box] (tkB s tk)).isEmpty<;>rw [hq] at f3<;>simp only [↓eA,eB,seval,l28002,h1,h2,h6,hH2,hi,hx',hc,f1,f2,f3,hw]<;>and_intros<;>first | trivial | rfl
  · rintro e H ⟨h1,h2,h6,hH2⟩
    simp only [↓eA,eB,seval,l28002,h1,h2,h6,hH2,Nat.lt_irrefl]
    and_intros<;>first | trivial | rfl
theorem e_rHanging {s:Site} (hs:siteErr s=0) (hF:s.Fit) (h12:s.blocks.length≤12) (nz:Bool) (tk:List ByteArray) (ht:tk.length < 1000000) :
    L.call 28 [s.enc,strz nz tk] []=some (.tup [.str (match hangR s tk with | some b=>b.name | none=>nob),.bool (hangR s tk).isSome],[]):=by
  have hok:=site_ok hs
  have hn:=site_names hs
  have hh:s.blocks.find? (hP s tk)=hangR s tk:=find_congr fun x hx=>hP_eq hok tk hx (hn x hx)
  refine call_eq rfl rfl ?_
  simp only [↓eA,eB,seval,c28]
  generalize hE:(lim T).loop 28002 _ _=R
  obtain ⟨X,e',H',rfl,hp⟩:=Ends.at hE (lp_rhang hok hF h12 nz tk ht _ _ (by simp only [↓eA,eB,seval]) (by simp only [↓eA,eB,seval]) (by simp only [↓eA,eB,seval]) rfl)
  rw [hh] at hp
  cases hc:hangR s tk with
  | some b=>rw [hc] at hp; obtain ⟨rfl,g4,g5⟩:=hp; simp only [↓eA,eB,seval,g4,g5]; rfl
  | none=>rw [hc] at hp; subst hp; simp only [↓eA,eB,seval]; rfl
theorem small18b (s:Site) (nz:Bool) (tk:List ByteArray):∃ v,L.call 19 [s.enc,.fz nz 1 (tk.map .str)] []=some (.bool v,[])∧(v=true→s.Fit∧tk.length≤20∧(s.blocks.length≤12∨256 < s.blocks.length)):=by
  obtain ⟨w,e1,hw⟩:=small17 s
  refine ⟨(w && (decide ((s.blocks.length:Int)≤12) || decide (256 < (s.blocks.length:Int)))) && decide ((tk.length:Int)≤20),call_eq rfl rfl (by simp only [↓eA,eB,seval,c19,e1,List.length_map]),fun h=>?_⟩
  simp only [Bool.and_eq_true,Bool.or_eq_true,decide_eq_true_eq] at h
  exact ⟨hw h.1.1,by omega,by omega⟩
theorem few12 {s:Site} (hok:SiteOk s) (h:s.blocks.length≤12∨256 < s.blocks.length):s.blocks.length≤12:=by
  have hm:=hok.many
  simp only [cMany,Bool.or_eq_false_iff,decide_eq_false_iff_not] at hm
  omega
theorem seq_e1:seq ByteArray.empty ByteArray.empty=true:=seq_refl _
theorem seq_e2:seq ByteArray.empty nob=true:=seq_refl _
theorem seq_e3:seq ByteArray.empty ⟨#[]⟩=true:=seq_refl _
theorem e_hangs (s:Site) (tk:List ByteArray):L.call 6 [s.enc,strs tk] []=some (.bool true,[]):=by
  have aw:L.call 10 [] []=some (.bool true,[]):=Aw.aw_run
  obtain ⟨v,e1,hv⟩:=small18b s false tk
  cases v with
  | false=>exact call_eq rfl rfl (by simp only [↓eA,eB,seval,c6,aw,e1,seq_e1,seq_e2,seq_e3,beq_self_eq_true,Option.isSome_none,Option.isSome_some])
  | true=>
  obtain ⟨hF,ht,hb⟩:=hv rfl
  have f1:=e_checkTaken s hF false tk (by omega)
  cases hs:decide (startErr s tk=0) with
  | false=>
    have f2:=e_Hanging_bad s hF false tk (by omega) hs
    generalize startErr s tk=er at hs f1 f2
    exact call_eq rfl rfl (by simp only [↓eA,eB,seval,c6,aw,e1,seq_e1,seq_e2,seq_e3,beq_self_eq_true,Option.isSome_none,Option.isSome_some,f1,f2,hs]<;>rfl)
  | true=>
    have hs0:=of_decide_eq_true hs
    have hsite:=(start_ok hs0).1
    have hok:=site_ok hsite
    have h12:=few12 hok hb
    have f3:=e_rHanging hsite hF h12 false tk (by omega)
    rw [hs0] at f1
    cases hh:hangR s tk with
    | none=>
      have f2:=e_Hanging_none s hF false tk (by omega) hs0 hh
      rw [hh] at f3
      exact call_eq rfl rfl (by simp only [↓eA,eB,seval,c6,aw,e1,seq_e1,seq_e2,seq_e3,beq_self_eq_true,Option.isSome_none,Option.isSome_some,f1,f2,f3]<;>rfl)
    | some b=>
      have f2:=e_Hanging_some s hF false tk (by omega) hs0 b hh
      rw [hh] at f3
      exact call_eq rfl rfl (by simp only [↓eA,eB,seval,c6,aw,e1,seq_e1,seq_e2,seq_e3,beq_self_eq_true,Option.isSome_none,Option.isSome_some,f1,f2,f3,seq_refl]<;>rfl)
end Tz.C18
