/- Contracts of functions that the laws of this seat call. -/
import Derived.Test.YtkmnepmnjpdpkaaGreatDoorCards
import Derived.ProofKit
import Derived.JoinedOf
import Derived.SevenTiedAt
set_option linter.all false
namespace Go.Proofs.YtkmnepmnjpdpkaaGreatDoor
open Go Go.Proofs.YtkmnepmnjpdpkaaGreatDoor
set_option maxRecDepth 100000
theorem jf_RunA : joinedFacts Tryz.pinned.checked.prog 10 Tryz.f10 YtkmnepmnjpdpkaaGreatDoor.Rows.fnRunActsSpec YtkmnepmnjpdpkaaGreatDoor.Rows.fnRunActsRow = true := by kernel_rfl
end Go.Proofs.YtkmnepmnjpdpkaaGreatDoor
