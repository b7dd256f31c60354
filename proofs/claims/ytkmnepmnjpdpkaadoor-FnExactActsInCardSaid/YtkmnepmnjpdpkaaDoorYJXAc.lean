/- Contracts of functions that the laws of this seat call. -/
import Derived.Test.YtkmnepmnjpdpkaaDoorCards
import Derived.ProofKit
import Derived.JoinedOf
import Derived.SevenTiedAt
set_option linter.all false
namespace Go.Proofs.YtkmnepmnjpdpkaaDoor
open Go Go.Proofs.YtkmnepmnjpdpkaaDoor
set_option maxRecDepth 100000
theorem jf_XAc : joinedFacts Tryd.pinned.checked.prog 4 Tryd.f4 YtkmnepmnjpdpkaaDoor.Rows.fnExactActsInSpec YtkmnepmnjpdpkaaDoor.Rows.fnExactActsInRow = true := by kernel_rfl
end Go.Proofs.YtkmnepmnjpdpkaaDoor
