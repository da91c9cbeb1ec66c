/- Closed cells of the row; no conditions. -/
import Derived.Test.YtogfagkjndoefaaGreatRows
import Derived.ProofKit
import Derived.Handed
import Derived.Carry
set_option linter.all false
namespace Go.Proofs.YtogfagkjndoefaaGreat
open Go.ChangeShapes Go.WideShapes Go.ChangeAt Go.RowKit
theorem closed_recurses10:(Rows.soundWitnessRow.recurses == Tryz.pinned.checked.prog.recurses 10)=true:=by kernel_rfl
theorem closed_varsNamed10:(Rows.soundWitnessRow.named == Tryz.pinned.checked.prog.varsNamed 10)=true:=by kernel_rfl
end Go.Proofs.YtogfagkjndoefaaGreat
