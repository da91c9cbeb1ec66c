/- Closed cells of the row; no conditions. -/
import Derived.Test.YtboigolndjinhaaGreatRows
import Derived.ProofKit
import Derived.Handed
import Derived.Carry
set_option linter.unusedVariables false
set_option linter.unusedSimpArgs false
set_option linter.unusedSectionVars false
set_option linter.defProp false
set_option linter.deprecated false
namespace Go.Proofs.YtboigolndjinhaaGreat
open Go.ChangeShapes Go.WideShapes Go.ChangeAt Go.RowKit
theorem closed_inPlace3:(Rows.extractionRefusesRow.inPlace == Tryz.pinned.checked.prog.inPlace 3)=true:=by kernel_rfl
theorem closed_unfollowed3:(Rows.extractionRefusesRow.unfollowed == Tryz.pinned.checked.prog.unfollowed 3)=true:=by kernel_rfl
end Go.Proofs.YtboigolndjinhaaGreat
