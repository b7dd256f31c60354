/- Contracts of functions that the laws of this seat call. -/
import Derived.Test.YtgpflkmelindfaaY4
set_option linter.all false
namespace Go.Proofs.Ytgpflkmelindfaa
open Go Go.Ev Go.RowKit Go.Ev.Enc Go.Pl Go.WideShapes Go.ChangeShapes
set_option maxRecDepth 100000
theorem goodV : ∀ {bs : List UInt8} {b n : Nat} {rL : Int → List Blk} (hC : RC bs b n rL) (hb : bs.length ≤ 2000) (p : Int) (hp : 0 ≤ p ∧ p ≤ 800000000), ISpec Try.prog 120 [.ptr b 1 0 0] (rL p) fun r L' => ∃ (v : Vi) (p' : Int), v.sh.length ≤ 4 ∧ v.st.length = v.sh.length ∧ r = viS n v ∧ p ≤ p' ∧ p' ≤ p + 200 ∧ L' = rL p' ++ [stB v.st] := fun hC hb p hp => isp_goodView sndA rfl rfl rfl rfl rfl rfl rfl rfl rfl rfl rfl rfl rfl rfl rfl hC hb p hp chgV
theorem tilO : TilO := fun hC hb p hp => isp_tiling sndA rfl rfl rfl rfl rfl rfl hC hb p hp someV goodV
theorem dimV : DimV := fun hC hb p hp => isp_dimOf sndA rfl rfl rfl hC hb p hp someV
theorem ixAt : IxAt := fun s k h1 h2 => o_IndexAt (sndA.hide 98) rfl rfl rfl s k h1 h2
end Go.Proofs.Ytgpflkmelindfaa
