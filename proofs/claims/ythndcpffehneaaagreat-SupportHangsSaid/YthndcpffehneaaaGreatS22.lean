/- Set and Same, reference; no conditions. -/
import Derived.Test.YthndcpffehneaaaGreatS18toS21
set_option linter.unusedVariables false
set_option linter.unusedSimpArgs false
set_option linter.unusedSectionVars false
set_option linter.defProp false
set_option linter.deprecated false
set_option maxHeartbeats 2000000
set_option maxRecDepth 100000
open Gs Go
namespace Tz
def formL (op:Int) (a b:List (Int×Int)):List (Int×Int):=(List.range ((endsL (a ++ b)).length - 1)).foldl (fstep op a b (endsL (a ++ b))) []
theorem wrap_in1 {n:Int} (h : -1000000000002≤n) (h':n≤1000000000002):IntKind.i64.wrap n=n:=wrap_in (by omega) (by omega)
theorem endsL_all (l:List (Int×Int)) (hin:∀ p∈l,inB p):(∀ y∈endsL l,-1000000000000≤y∧y≤1000000000001)∧(endsL l).length≤2 * l.length:=by
  have:∀ (l:List (Int×Int)) (acc:List Int),(∀ p∈l,inB p)→(∀ y∈acc,-1000000000000≤y∧y≤1000000000001)→(∀ y∈l.foldl estep acc,-1000000000000≤y∧y≤1000000000001)∧(l.foldl estep acc).length≤acc.length + 2 * l.length:=by
    intro l
    induction l with
    | nil=>intro acc _ h; exact ⟨h,by simp⟩
    | cons x r ih=>
      intro acc hp h
      have hx:=hp x (by simp)
      obtain ⟨h1,h2,h3,h4⟩:=hx
      have h5:∀ y∈estep acc x,-1000000000000≤y∧y≤1000000000001:=by
        intro y hy
        rcases addL_mem hy with hy | rfl
        · rcases addL_mem hy with hy | rfl
          · exact h y hy
          · omega
        · omega
      have h6:(estep acc x).length≤acc.length + 2:=by
        have:=addL_len acc x.1; have:=addL_len (addL acc x.1) (x.2 + 1); unfold estep; omega
      have:=ih (estep acc x) (fun p h=>hp p (by simp [h])) h5
      refine ⟨this.1,?_⟩
      have h7:=this.2
      simp only [List.foldl_cons,List.length_cons]; omega
  have:=this l [] hin (by simp)
  refine ⟨this.1,?_⟩
  have h:=this.2
  unfold endsL; simp only [List.length_nil] at h; omega
def setR (op:Int) (a b:List (Int×Int)):List (Int×Int)×Int:=bif decide (listsErr a b=0) then (formL op a b,0) else ([],listsErr a b)
theorem lists_in {a b:List (Int×Int)} (h:listsErr a b=0):∀ p∈a ++ b,inB p:=by
  unfold listsErr at h
  cases hc:(decide (10000 < (a.length:Int)) || decide (10000 < (b.length:Int))) with
  | true=>rw [hc] at h; cases h
  | false=>rw [hc] at h; exact ivErr_in h
def getIv (l:List (Int×Int)) (i:Nat):Int×Int:=l[i]?.getD (0,0)
theorem getIv_get {l:List (Int×Int)} {i:Nat} (h:i < l.length):(l.map ivD)[i]?=some (.agg [int (getIv l i).1,int (getIv l i).2]):=by
  have:l[i]?=some l[i]:=List.getElem?_eq_getElem h
  simp [getIv,this,ivD]
def neIv (a b:List (Int×Int)) (i:Nat):Bool:=!(decide ((getIv a i).1=(getIv b i).1) && decide ((getIv a i).2=(getIv b i).2))
theorem same_iff {a b:List (Int×Int)} (hab:a.length=b.length):(List.range a.length).any (neIv a b) = !decide (a=b):=by
  cases hc:(List.range a.length).any (neIv a b) with
  | true=>
    obtain ⟨i,hi,hn⟩:=List.any_eq_true.1 hc
    have:a≠b:=by
      rintro rfl
      simp [neIv] at hn
    simp [this]
  | false=>
    have:a=b:=by
      apply List.ext_getElem hab
      intro i h1 h2
      have:=List.any_eq_false.1 hc i (by simpa using h1)
      have e1:getIv a i=a[i]:=by simp [getIv,List.getElem?_eq_getElem h1]
      have e2:getIv b i=b[i]:=by simp [getIv,List.getElem?_eq_getElem h2]
      simp only [neIv,e1,e2,Bool.not_eq_true',Bool.and_eq_false_iff,decide_eq_false_iff_not,not_or,Classical.not_not] at this
      exact Prod.ext this.1 this.2
    simp [this]
end Tz
