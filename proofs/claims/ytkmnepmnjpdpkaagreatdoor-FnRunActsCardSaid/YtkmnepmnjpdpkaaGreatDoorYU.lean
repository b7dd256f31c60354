/- Contracts of functions that the laws of this seat call. -/
import Derived.Test.YtkmnepmnjpdpkaaGreatDoorYT
import Derived.Test.YtkmnepmnjpdpkaaGreatDoorXy
set_option linter.all false
namespace Go.Proofs.YtkmnepmnjpdpkaaGreatDoor
open Go Go.Ev Go.RowKit Go.Ev.Enc Go.Pl Go.WideShapes Go.ChangeShapes
set_option maxRecDepth 100000
theorem sesP : SesP := fun hC hb p hp => isp_session sndA rfl rfl rfl rfl rfl rfl rfl hC hb p hp newS someAct applyS mutP
theorem drRun : DrTxt 22 := fun bs hb L => isp_DrawRunActs sndA rfl rfl bs hb L sesP
theorem runS2 : RunS := fun s hs L => isp_RunActsS sndA rfl rfl rfl s hs L newS applyS
end Go.Proofs.YtkmnepmnjpdpkaaGreatDoor
