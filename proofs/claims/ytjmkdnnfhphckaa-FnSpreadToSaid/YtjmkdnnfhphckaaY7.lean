/- Contracts of functions that the laws of this seat call. -/
import Derived.Test.YtjmkdnnfhphckaaY0
set_option linter.all false
namespace Go.Proofs.Ytjmkdnnfhphckaa
open Go Go.Ev Go.RowKit Go.Ev.Enc Go.Pl Go.WideShapes Go.ChangeShapes
set_option maxRecDepth 100000
theorem copyO : CopyV := fun l h => o_copyInts sndA l h
theorem copyVi : CopyVi := fun v h => o_copyView (sndA.hide 15) rfl v h copyO
theorem madeV : MadeV := fun v h => o_made sndA rfl rfl v h copyVi
theorem rowSt : RowSt := fun s h => o_rowStrides sndA s h
theorem cutV : CutV := fun v d s h hd hx hs => o_cutDim sndA rfl rfl rfl rfl rfl rfl v d s h hd hx hs copyVi
theorem sliV : SliV := fun v d s h => o_SliceDim sndA rfl rfl rfl rfl rfl v d s h cutV madeV
theorem perV : PerV := fun v o h ho hx => o_permuted sndA v o h ho hx
theorem insV : InsV := fun l a x h ha => o_insert sndA l a x h ha
theorem chgV : ChgV where
  new := fun s h t L => isp_NewView sndA rfl rfl rfl rfl s h t L rowSt
  cpy := copyVi
  sli := sliV
  flip := fun v d h => o_FlipDim sndA rfl v d h sliV
  per := fun v o h hd ho => o_PermuteDims sndA rfl rfl rfl rfl v o h hd ho perV madeV
  win := fun v d k h hd => o_WindowsOf sndA rfl rfl rfl rfl rfl v d k h hd copyVi madeV
  add := fun v d h hd => o_AddDim sndA rfl rfl rfl rfl v d h hd insV madeV
theorem someV : SomeV := fun hC hb p hp => isp_someView sndA rfl rfl rfl hC hb p hp fun hC p hp => isp_goodView sndA rfl rfl rfl rfl rfl rfl rfl rfl rfl rfl rfl rfl rfl rfl rfl hC hb p hp chgV
theorem ixAt : IxAt := fun s k h1 h2 => o_IndexAt (sndA.hide 28) rfl rfl rfl s k h1 h2
theorem sprV : SprV := fun v S h => o_SpreadTo (sndA.hide 26) rfl rfl rfl rfl v S h madeV
end Go.Proofs.Ytjmkdnnfhphckaa
