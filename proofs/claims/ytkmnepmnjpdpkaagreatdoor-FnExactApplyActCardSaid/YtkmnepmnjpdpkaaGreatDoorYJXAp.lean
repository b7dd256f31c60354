/- Contracts of functions that the laws of this seat call. -/
import Derived.Test.YtkmnepmnjpdpkaaGreatDoorCards
import Derived.ProofKit
import Derived.JoinedOf
import Derived.SevenTiedAt
set_option linter.all false
namespace Go.Proofs.YtkmnepmnjpdpkaaGreatDoor
open Go Go.Proofs.YtkmnepmnjpdpkaaGreatDoor
set_option maxRecDepth 100000
theorem jf_XAp : joinedFacts Tryz.pinned.checked.prog 12 Tryz.f12 YtkmnepmnjpdpkaaGreatDoor.Rows.fnExactApplyActSpec YtkmnepmnjpdpkaaGreatDoor.Rows.fnExactApplyActRow = true := by kernel_rfl
end Go.Proofs.YtkmnepmnjpdpkaaGreatDoor
