/- Contracts of functions that the laws of this seat call. -/
import Derived.Test.YtkmnepmnjpdpkaaGreatDoorYT
import Derived.Test.YtkmnepmnjpdpkaaGreatDoorXy
set_option linter.all false
namespace Go.Proofs.YtkmnepmnjpdpkaaGreatDoor
open Go Go.Ev Go.RowKit Go.Ev.Enc Go.Pl Go.WideShapes Go.ChangeShapes
set_option maxRecDepth 100000
theorem sesP : SesP := fun hC hb p hp => isp_session sndA rfl rfl rfl rfl rfl rfl rfl hC hb p hp newS someAct applyS mutP
theorem drBuf : DrTxt 14 := fun bs hb L => isp_DrawBufferAfter sndA rfl rfl bs hb L sesP
end Go.Proofs.YtkmnepmnjpdpkaaGreatDoor
