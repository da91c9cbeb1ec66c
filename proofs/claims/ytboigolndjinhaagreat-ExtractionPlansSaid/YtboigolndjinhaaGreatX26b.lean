/- Closed cells of the row; no conditions. -/
import Derived.Test.YtboigolndjinhaaGreatRows
import Derived.ProofKit
import Derived.Handed
import Derived.Carry
set_option linter.all false
namespace Go.Proofs.YtboigolndjinhaaGreat
open Go.ChangeShapes Go.WideShapes Go.ChangeAt Go.RowKit
theorem closed_recurses6:(Rows.extractionPlansRow.recurses == Tryz.pinned.checked.prog.recurses 6)=true:=by kernel_rfl
theorem closed_varsNamed6:(Rows.extractionPlansRow.named == Tryz.pinned.checked.prog.varsNamed 6)=true:=by kernel_rfl
end Go.Proofs.YtboigolndjinhaaGreat
