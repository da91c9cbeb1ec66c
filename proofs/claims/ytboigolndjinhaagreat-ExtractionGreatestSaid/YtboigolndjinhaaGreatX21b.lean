/- Closed cells of the row; no conditions. -/
import Derived.Test.YtboigolndjinhaaGreatRows
import Derived.ProofKit
import Derived.Handed
import Derived.Carry
set_option linter.unusedVariables false
set_option linter.unusedSimpArgs false
set_option linter.unusedSectionVars false
set_option linter.defProp false
set_option linter.deprecated false
namespace Go.Proofs.YtboigolndjinhaaGreat
open Go.ChangeShapes Go.WideShapes Go.ChangeAt Go.RowKit
theorem closed_recurses5:(Rows.extractionGreatestRow.recurses == Tryz.pinned.checked.prog.recurses 5)=true:=by kernel_rfl
theorem closed_varsNamed5:(Rows.extractionGreatestRow.named == Tryz.pinned.checked.prog.varsNamed 5)=true:=by kernel_rfl
end Go.Proofs.YtboigolndjinhaaGreat
