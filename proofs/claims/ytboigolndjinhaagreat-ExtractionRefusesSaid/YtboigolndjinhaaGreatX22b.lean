/- Closed cells of the row; no conditions. -/
import Derived.Test.YtboigolndjinhaaGreatRows
import Derived.ProofKit
import Derived.Handed
import Derived.Carry
set_option linter.unusedVariables false
set_option linter.unusedSimpArgs false
set_option linter.unusedSectionVars false
set_option linter.defProp false
set_option linter.deprecated false
namespace Go.Proofs.YtboigolndjinhaaGreat
open Go.ChangeShapes Go.WideShapes Go.ChangeAt Go.RowKit
theorem closed_recurses3:(Rows.extractionRefusesRow.recurses == Tryz.pinned.checked.prog.recurses 3)=true:=by kernel_rfl
theorem closed_varsNamed3:(Rows.extractionRefusesRow.named == Tryz.pinned.checked.prog.varsNamed 3)=true:=by kernel_rfl
end Go.Proofs.YtboigolndjinhaaGreat
