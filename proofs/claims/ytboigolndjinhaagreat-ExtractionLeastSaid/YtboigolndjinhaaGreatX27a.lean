/- Closed cells of the row; no conditions. -/
import Derived.Test.YtboigolndjinhaaGreatRows
import Derived.ProofKit
import Derived.Handed
import Derived.Carry
set_option linter.all false
namespace Go.Proofs.YtboigolndjinhaaGreat
open Go.ChangeShapes Go.WideShapes Go.ChangeAt Go.RowKit
theorem closed_inPlace7:(Rows.extractionLeastRow.inPlace == Tryz.pinned.checked.prog.inPlace 7)=true:=by kernel_rfl
theorem closed_unfollowed7:(Rows.extractionLeastRow.unfollowed == Tryz.pinned.checked.prog.unfollowed 7)=true:=by kernel_rfl
end Go.Proofs.YtboigolndjinhaaGreat
