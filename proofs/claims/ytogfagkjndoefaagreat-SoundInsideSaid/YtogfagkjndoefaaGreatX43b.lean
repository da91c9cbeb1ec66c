/- Closed cells of the row; no conditions. -/
import Derived.Test.YtogfagkjndoefaaGreatRows
import Derived.ProofKit
import Derived.Handed
import Derived.Carry
set_option linter.all false
namespace Go.Proofs.YtogfagkjndoefaaGreat
open Go.ChangeShapes Go.WideShapes Go.ChangeAt Go.RowKit
theorem closed_recurses7:(Rows.soundInsideRow.recurses == Tryz.pinned.checked.prog.recurses 7)=true:=by kernel_rfl
theorem closed_varsNamed7:(Rows.soundInsideRow.named == Tryz.pinned.checked.prog.varsNamed 7)=true:=by kernel_rfl
end Go.Proofs.YtogfagkjndoefaaGreat
