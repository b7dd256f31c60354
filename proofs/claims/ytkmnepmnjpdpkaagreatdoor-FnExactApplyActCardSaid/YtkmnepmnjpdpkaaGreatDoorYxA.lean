/- Contracts of functions on views and memories that the laws of this seat call. -/
import Derived.Test.YtkmnepmnjpdpkaaGreatDoorSig
import Derived.Test.YtkmnepmnjpdpkaaGreatDoorRows
set_option linter.all false
namespace Go.Proofs.YtkmnepmnjpdpkaaGreatDoor
open Go Go.Ev Go.RowKit Go.Ev.Enc Go.Pl Go.WideShapes Go.ChangeShapes

theorem cellsOf_of {P : Program} {t : TypeId} {n : Nat} (h : tsize P t = some n) : P.cellsOf t = n := by
  unfold tsize at h
  unfold Program.cellsOf
  rw [h]; rfl
theorem Tryz.laidOut : laidOutB Tryz.prog = true := by kernel_rfl
theorem Tryz.own : ownKnob Tryz.prog.godebug = none := by kernel_rfl

theorem op_int : Opens Tryz.prog 3 (α := Int) i64B := opens_int Tryz.underlying3
theorem op_ints : Opens Tryz.prog 24 (α := List Int) (allS i64B) := opens_list Tryz.underlying24 1 (cellsOf_of Tryz.tsize3) (by omega) op_int
end Go.Proofs.YtkmnepmnjpdpkaaGreatDoor
namespace Go.Proofs.YtkmnepmnjpdpkaaGreatDoor
open Go Go.Ev Go.RowKit Go.Ev.Enc Go.Pl Go.WideShapes Go.ChangeShapes
set_option maxRecDepth 100000
theorem copyO : CopyV := fun l h => o_copyInts sndA l h
theorem copyVi : CopyVi := fun v h => o_copyView (sndA.hide 105) rfl v h copyO
theorem madeV : MadeV := fun v h => o_made sndA rfl rfl v h copyVi
theorem cutV : CutV := fun v d s h hd hx hs => o_cutDim sndA rfl rfl rfl rfl rfl rfl v d s h hd hx hs copyVi
theorem sliV : SliV := fun v d s h => o_SliceDim sndA rfl rfl rfl rfl rfl v d s h cutV madeV
theorem cpBS : CpBS := cpBS_of sndA rfl
theorem addV : AddV := addV_of sndA rfl rfl
theorem putV : PutV := fun m v V h1 h2 => o_put (sndA.hide 105) rfl rfl m v V h1 h2 copyO
theorem cpyVS : CpyVS := fun m a b h => o_CopyViewS (sndA.hide 201) rfl rfl rfl m a b h putV
theorem spB : SpB where
  rsz := fun B n h => o_ResizeBufferS sndA rfl rfl rfl rfl B n h cpBS
  exv := fun B v h => o_ExportViewS sndA rfl rfl rfl rfl B v h addV
  exp := fun B id d s h => o_ExportPartS sndA rfl rfl rfl rfl B id d s h addV sliV
  fil := fun B id x h => o_FillExportS (sndA.hide 169) rfl rfl rfl rfl rfl B id x h cpBS copyO fun m v x h1 h2 => o_FillViewS (sndA.hide 105) rfl rfl rfl rfl m v x h1 h2 copyO
  cpy := fun B a b h => o_CopyExportS (sndA.hide 170) rfl rfl rfl rfl B a b h cpBS cpyVS
  rel := fun B id h => o_ReleaseExportS sndA rfl rfl rfl rfl B id h cpBS
theorem sndD : Sound Tryz.prog (hide (hide (hide (hide sgA 137) 138) 139) 140) := (((sndA.hide _).hide _).hide _).hide _
end Go.Proofs.YtkmnepmnjpdpkaaGreatDoor
namespace Go.Proofs.YtkmnepmnjpdpkaaGreatDoor
open Go Go.Ev Go.RowKit Go.Ev.Enc Go.Pl Go.WideShapes Go.ChangeShapes
set_option maxRecDepth 100000
end Go.Proofs.YtkmnepmnjpdpkaaGreatDoor
