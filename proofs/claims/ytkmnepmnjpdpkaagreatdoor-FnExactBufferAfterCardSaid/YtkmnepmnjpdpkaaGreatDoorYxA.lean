/- Contracts of functions on views and memories that the laws of this seat call. -/
import Derived.Test.YtkmnepmnjpdpkaaGreatDoorSig
import Derived.Test.YtkmnepmnjpdpkaaGreatDoorRows
set_option linter.all false
namespace Go.Proofs.YtkmnepmnjpdpkaaGreatDoor
open Go Go.Ev Go.RowKit Go.Ev.Enc Go.Pl Go.WideShapes Go.ChangeShapes

theorem Tryz.laidOut : laidOutB Tryz.prog = true := by kernel_rfl
theorem Tryz.own : ownKnob Tryz.prog.godebug = none := by kernel_rfl

end Go.Proofs.YtkmnepmnjpdpkaaGreatDoor
namespace Go.Proofs.YtkmnepmnjpdpkaaGreatDoor
open Go Go.Ev Go.RowKit Go.Ev.Enc Go.Pl Go.WideShapes Go.ChangeShapes
set_option maxRecDepth 100000
theorem copyO : CopyV := fun l h => o_copyInts sndA l h
theorem copyVi : CopyVi := fun v h => o_copyView (sndA.hide 105) rfl v h copyO
theorem madeV : MadeV := fun v h => o_made sndA rfl rfl v h copyVi
theorem cutV : CutV := fun v d s h hd hx hs => o_cutDim sndA rfl rfl rfl rfl rfl rfl v d s h hd hx hs copyVi
theorem sliV : SliV := fun v d s h => o_SliceDim sndA rfl rfl rfl rfl rfl v d s h cutV madeV
theorem cpBS : CpBS := cpBS_of sndA rfl
theorem addV : AddV := addV_of sndA rfl rfl
theorem putV : PutV := fun m v V h1 h2 => o_put (sndA.hide 105) rfl rfl m v V h1 h2 copyO
theorem cpyVS : CpyVS := fun m a b h => o_CopyViewS (sndA.hide 201) rfl rfl rfl m a b h putV
theorem spB : SpB where
  rsz := fun B n h => o_ResizeBufferS sndA rfl rfl rfl rfl B n h cpBS
  exv := fun B v h => o_ExportViewS sndA rfl rfl rfl rfl B v h addV
  exp := fun B id d s h => o_ExportPartS sndA rfl rfl rfl rfl B id d s h addV sliV
  fil := fun B id x h => o_FillExportS (sndA.hide 169) rfl rfl rfl rfl rfl B id x h cpBS copyO fun m v x h1 h2 => o_FillViewS (sndA.hide 105) rfl rfl rfl rfl m v x h1 h2 copyO
  cpy := fun B a b h => o_CopyExportS (sndA.hide 170) rfl rfl rfl rfl B a b h cpBS cpyVS
  rel := fun B id h => o_ReleaseExportS sndA rfl rfl rfl rfl B id h cpBS
theorem sndD : Sound Tryz.prog (hide (hide (hide (hide sgA 137) 138) 139) 140) := (((sndA.hide _).hide _).hide _).hide _
theorem applyS : ApplyS := fun B hB a ha t lo M hlo v hv => isp_applyS sndA rfl rfl rfl rfl spB B hB a ha t lo M hlo v hv fun M v h1 h2 => isp_doneS sndD rfl rfl rfl rfl rfl rfl rfl spB B hB a ha t lo M h1 v h2
theorem newS : NewS := fun n h => o_NewBufferS sndA rfl n h
end Go.Proofs.YtkmnepmnjpdpkaaGreatDoor
namespace Go.Proofs.YtkmnepmnjpdpkaaGreatDoor
open Go Go.Ev Go.RowKit Go.Ev.Enc Go.Pl Go.WideShapes Go.ChangeShapes
set_option maxRecDepth 100000
end Go.Proofs.YtkmnepmnjpdpkaaGreatDoor
