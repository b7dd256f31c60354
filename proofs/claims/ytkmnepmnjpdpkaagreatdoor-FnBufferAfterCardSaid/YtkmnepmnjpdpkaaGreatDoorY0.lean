/- Contracts of functions that the laws of this seat call. -/
import Derived.Test.YtkmnepmnjpdpkaaGreatDoorSig
import Derived.Test.YtkmnepmnjpdpkaaGreatDoorRows
set_option linter.all false
namespace Go.Proofs.YtkmnepmnjpdpkaaGreatDoor
open Go Go.Ev Go.RowKit Go.Ev.Enc Go.Pl Go.WideShapes Go.ChangeShapes

theorem cellsOf_of {P : Program} {t : TypeId} {n : Nat} (h : tsize P t = some n) : P.cellsOf t = n := by
  unfold tsize at h
  unfold Program.cellsOf
  rw [h]; rfl
theorem Tryz.laidOut : laidOutB Tryz.prog = true := by kernel_rfl
theorem Tryz.own : ownKnob Tryz.prog.godebug = none := by kernel_rfl

theorem op_u8 : Opens Tryz.prog 5 (α := UInt8) (fun _ => True) := opens_u8 Tryz.underlying5
theorem op_bytes : Opens Tryz.prog 22 (α := List UInt8) (allS fun _ => True) := opens_list Tryz.underlying22 1 (cellsOf_of Tryz.tsize5) (by omega) op_u8

end Go.Proofs.YtkmnepmnjpdpkaaGreatDoor
