/- Contracts of functions that the laws of this seat call. -/
import Derived.Test.YtokpibajolhelaaGreatY8
set_option linter.all false
namespace Go.Proofs.YtokpibajolhelaaGreat
open Go Go.Ev Go.RowKit Go.Ev.Enc Go.Pl
set_option maxRecDepth 100000
theorem idOf : IdOf := fun hC hb p hp => isp_idOf sndA rfl rfl rfl hC hb p hp someB
theorem drFilX : DrFilX := fun bs hb L => isp_DrawFillExport sndA rfl rfl rfl rfl bs hb L idOf
theorem drCpyX : DrCpyX := fun bs hb L => isp_DrawCopyExport sndA rfl rfl rfl rfl bs hb L idOf
theorem drExP : DrExP := fun bs hb L => isp_DrawExportPart sndA rfl rfl rfl rfl rfl bs hb L idOf
end Go.Proofs.YtokpibajolhelaaGreat
