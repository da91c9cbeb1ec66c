/- Closed cells of the row; no conditions. -/
import Derived.Test.YtogfagkjndoefaaGreatRows
import Derived.ProofKit
import Derived.Handed
import Derived.Carry
set_option linter.all false
namespace Go.Proofs.YtogfagkjndoefaaGreat
open Go.ChangeShapes Go.WideShapes Go.ChangeAt Go.RowKit
theorem closed_inPlace10:(Rows.soundWitnessRow.inPlace == Tryz.pinned.checked.prog.inPlace 10)=true:=by kernel_rfl
theorem closed_unfollowed10:(Rows.soundWitnessRow.unfollowed == Tryz.pinned.checked.prog.unfollowed 10)=true:=by kernel_rfl
end Go.Proofs.YtogfagkjndoefaaGreat
