/- Closed cells of the row; no conditions. -/
import Derived.Test.YtogfagkjndoefaaGreatRows
import Derived.ProofKit
import Derived.Handed
import Derived.Carry
set_option linter.all false
namespace Go.Proofs.YtogfagkjndoefaaGreat
open Go.ChangeShapes Go.WideShapes Go.ChangeAt Go.RowKit
theorem closed_inPlace8:(Rows.soundGrowsRow.inPlace == Tryz.pinned.checked.prog.inPlace 8)=true:=by kernel_rfl
theorem closed_unfollowed8:(Rows.soundGrowsRow.unfollowed == Tryz.pinned.checked.prog.unfollowed 8)=true:=by kernel_rfl
end Go.Proofs.YtogfagkjndoefaaGreat
