/- Contracts of functions that the laws of this seat call. -/
import Derived.Test.YtkmnepmnjpdpkaaGreatDoorYU
import Derived.Test.YtkmnepmnjpdpkaaGreatDoorXz
set_option linter.all false
namespace Go.Proofs.YtkmnepmnjpdpkaaGreatDoor
open Go Go.Ev Go.RowKit Go.Ev.Enc Go.Pl Go.WideShapes Go.ChangeShapes
set_option maxRecDepth 100000
theorem aftS : AftS := fun s hs L => isp_BufferAfterS sndA rfl rfl rfl rfl s hs L newS applyS cpBS
end Go.Proofs.YtkmnepmnjpdpkaaGreatDoor
