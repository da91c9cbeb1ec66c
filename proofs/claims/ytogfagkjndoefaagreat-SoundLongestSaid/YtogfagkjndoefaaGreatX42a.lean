/- Closed cells of the row; no conditions. -/
import Derived.Test.YtogfagkjndoefaaGreatRows
import Derived.ProofKit
import Derived.Handed
import Derived.Carry
set_option linter.all false
namespace Go.Proofs.YtogfagkjndoefaaGreat
open Go.ChangeShapes Go.WideShapes Go.ChangeAt Go.RowKit
theorem closed_inPlace5:(Rows.soundLongestRow.inPlace == Tryz.pinned.checked.prog.inPlace 5)=true:=by kernel_rfl
theorem closed_unfollowed5:(Rows.soundLongestRow.unfollowed == Tryz.pinned.checked.prog.unfollowed 5)=true:=by kernel_rfl
end Go.Proofs.YtogfagkjndoefaaGreat
