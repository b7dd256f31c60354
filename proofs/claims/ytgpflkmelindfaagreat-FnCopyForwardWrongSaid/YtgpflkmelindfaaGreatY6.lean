/- Contracts of functions that the laws of this seat call. -/
import Derived.Test.YtgpflkmelindfaaGreatY4
set_option linter.all false
namespace Go.Proofs.YtgpflkmelindfaaGreat
open Go Go.Ev Go.RowKit Go.Ev.Enc Go.Pl Go.WideShapes Go.ChangeShapes
set_option maxRecDepth 100000
theorem valV : ValV := fun hC hb p hp v hv => isp_valuesFor sndA rfl rfl rfl rfl hC hb p hp v hv
theorem pairV : PairV := fun hC hb p hp => isp_memPair sndA rfl rfl hC hb p hp someM copyOfV
end Go.Proofs.YtgpflkmelindfaaGreat
