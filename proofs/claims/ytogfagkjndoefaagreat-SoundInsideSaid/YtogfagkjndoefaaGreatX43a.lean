/- Closed cells of the row; no conditions. -/
import Derived.Test.YtogfagkjndoefaaGreatRows
import Derived.ProofKit
import Derived.Handed
import Derived.Carry
set_option linter.all false
namespace Go.Proofs.YtogfagkjndoefaaGreat
open Go.ChangeShapes Go.WideShapes Go.ChangeAt Go.RowKit
theorem closed_inPlace7:(Rows.soundInsideRow.inPlace == Tryz.pinned.checked.prog.inPlace 7)=true:=by kernel_rfl
theorem closed_unfollowed7:(Rows.soundInsideRow.unfollowed == Tryz.pinned.checked.prog.unfollowed 7)=true:=by kernel_rfl
end Go.Proofs.YtogfagkjndoefaaGreat
