/- part S98; no conditions. -/
import Derived.Test.YthndcpffehneaaaGreatS97
import Derived.Test.YthndcpffehneaaaGreatS0A
set_option linter.unusedVariables false
set_option linter.unusedSimpArgs false
set_option linter.unusedSectionVars false
set_option linter.defProp false
set_option linter.deprecated false
set_option maxRecDepth 100000
open Gs Go
namespace Tz.C18
def hP (s:Site)(tk:List ByteArray)(x:Block):Bool:=!taken tk x && (restL [under x.box] (tkB s tk)).isEmpty
theorem small18b (s:Site)(nz:Bool)(tk:List ByteArray):∃ v,L.call 19 [s.enc,.fz nz 1 (tk.map .str)] []=some (.bool v,[])∧(v=true→s.Fit∧tk.length≤20∧(s.blocks.length≤12∨256 < s.blocks.length)):=by
  obtain ⟨w,e1,hw⟩:=small17 s
  refine ⟨(w && (decide ((s.blocks.length:Int)≤12) || decide (256 < (s.blocks.length:Int)))) && decide ((tk.length:Int)≤20),call_eq rfl rfl (by simp only [↓eA,eB,seval,c19,e1,List.length_map]),fun h=>?_⟩
  simp only [Bool.and_eq_true,Bool.or_eq_true,decide_eq_true_eq] at h
  exact ⟨hw h.1.1,by omega,by omega⟩
theorem few12 {s:Site}(hok:SiteOk s)(h:s.blocks.length≤12∨256 < s.blocks.length):s.blocks.length≤12:=by
  have hm:=hok.many
  simp only [cMany,Bool.or_eq_false_iff,decide_eq_false_iff_not] at hm
  omega
theorem seq_e1:seq ByteArray.empty ByteArray.empty=true:=seq_refl _
theorem seq_e2:seq ByteArray.empty nob=true:=seq_refl _
theorem seq_e3:seq ByteArray.empty ⟨#[]⟩=true:=seq_refl _
set_option maxHeartbeats 4000000 in
theorem e_whys (s:Site)(tk:List ByteArray)(nm:ByteArray):L.call 5 [s.enc,strs tk,.str nm] []=some (.bool true,[]):=by
  have aw:L.call 10 [] []=some (.bool true,[]):=Aw.aw_run
  obtain ⟨v,e1,hv⟩:=small18b s false tk
  cases hg : !v || decide (100 < (nm.size:Int)) with
  | true=>exact call_eq rfl rfl (by simp only [↓eA,eB,seval,c5,aw,e1,seq_e1,seq_e2,seq_e3,beq_self_eq_true,Option.isSome_none,Option.isSome_some,hg])
  | false=>
  have hg':=hg
  simp only [Bool.or_eq_false_iff,Bool.not_eq_false'] at hg'
  obtain ⟨hF,ht,hb⟩:=hv hg'.1
  have f1:=e_checkTaken s hF false tk (by omega)
  cases hs:decide (startErr s tk=0) with
  | false=>
    have f2:=e_Faces_bad s hF false tk (by omega) nm hs
    have f3:=e_Why_bad s hF false tk (by omega) nm hs
    have f4:=e_Frontier_bad s hF false tk (by omega) hs
    generalize startErr s tk=er at hs f1 f2 f3 f4
    exact call_eq rfl rfl (by simp only [↓eA,eB,seval,c5,aw,e1,seq_e1,seq_e2,seq_e3,beq_self_eq_true,Option.isSome_none,Option.isSome_some,hg,f1,f2,f3,f4,hs]<;>rfl)
  | true=>
    have hs0:=of_decide_eq_true hs
    have hsite:=(start_ok hs0).1
    have hok:=site_ok hsite
    have h12:=few12 hok hb
    have hsr:=sorted_of hok.srt
    rw [hs0] at f1
    have f4:=e_Frontier_ok s hF false tk (by omega) hs0
    rw [names_sorted hsr] at f4
    have f5:=e_rFrontier hok hF h12 false tk (by omega)
    have f6:=e_same true true (namesOf (possible s tk) s.blocks) (by have h1:(namesOf (possible s tk) s.blocks).length≤s.blocks.length:=namesOf_len _ _; omega)
    have f7:=e_rCheck s.blocks hF.bl nm
    cases hn:s.blocks.find? (named nm) with
    | none=>
      have hn':s.blocks.find? (called nm)=none:=by
        rw [show called nm=named nm from by funext c; exact seq_comm _ _]; exact hn
      have f2:=e_Faces_no s hF false tk (by omega) nm hs0 hn'
      have f3:=e_Why_no s hF false tk (by omega) nm hs0 hn'
      have hfr:(findR s.blocks nm).1=3:=by
        have hm:=hok.many
        simp only [cMany,Bool.or_eq_false_iff] at hm
        have h1:s.blocks.find? badBox=none:=List.find?_eq_none.2 fun c hc=>by
          unfold badBox
          rw [decide_eq_true (box_err (box_in hok hc))]; simp
        have h2:dupF [] s.blocks=false:=dupF_sorted _ _ hsr
        unfold findR
        rw [hm.2,h1,h2,hn]
        rfl
      rw [hfr] at f7
      exact call_eq rfl rfl (by simp only [↓eA,eB,seval,c5,aw,e1,seq_e1,seq_e2,seq_e3,beq_self_eq_true,Option.isSome_none,Option.isSome_some,hg,f1,f2,f3,f4,f5,f6,f7]<;>rfl)
    | some b=>
      have hbm:=List.mem_of_find?_eq_some hn
      have hnn:named nm b=true:=List.find?_some hn
      have hbn:nm=b.name:=seq_iff.1 hnn
      subst hbn
      have hn':s.blocks.find? (called b.name)=some b:=sorted_find hsr hbm
      have f2:=e_Faces_ok s hF false tk (by omega) b.name hs0 b hn'
      have f3:=e_Why_ok s hF false tk (by omega) b.name hs0 b hn'
      have f8:=e_rFaces hok hF h12 false tk (by omega) b.name hn
      have f9:=e_rWhy hok hF h12 false tk (by omega) hbm
      rw [find_ok hok hbm] at f7
      generalize (whyB s tk b).1=k at f3 f9
      generalize (whyB s tk b).2=u at f3 f9
      generalize freeB s tk b.box 0=g0 at f2 f8
      generalize freeB s tk b.box 1=g1 at f2 f8
      generalize freeB s tk b.box 2=g2 at f2 f8
      generalize freeB s tk b.box 3=g3 at f2 f8
      exact call_eq rfl rfl (by
        simp only [↓eA,eB,seval,c5,aw,e1,seq_e1,seq_e2,seq_e3,beq_self_eq_true,Option.isSome_none,Option.isSome_some,hg,f1,f2,f3,f4,f5,f6,f7,f8,f9,seq_refl]
        skip)
end Tz.C18
