/- Contracts of functions that the laws of this seat call. -/
import Derived.Test.YtjmkdnnfhphckaaSig
import Derived.Test.YtjmkdnnfhphckaaRows
set_option linter.all false
namespace Go.Proofs.Ytjmkdnnfhphckaa
open Go Go.Ev Go.RowKit Go.Ev.Enc Go.Pl Go.WideShapes Go.ChangeShapes

theorem cellsOf_of {P : Program} {t : TypeId} {n : Nat} (h : tsize P t = some n) : P.cellsOf t = n := by
  unfold tsize at h
  unfold Program.cellsOf
  rw [h]; rfl
theorem Try.laidOut : laidOutB Try.prog = true := by kernel_rfl
theorem Try.own : ownKnob Try.prog.godebug = none := by kernel_rfl

theorem op_int : Opens Try.prog 3 (α := Int) i64B := opens_int Try.underlying3
theorem op_ints : Opens Try.prog 23 (α := List Int) (allS i64B) := opens_list Try.underlying23 1 (cellsOf_of Try.tsize3) (by omega) op_int
theorem big_of_allS {l : List (List Int)} (h : allS (allS i64B) l) : bigRows l := fun k hk => by
  have := (h.2 (l.getD k []) (by simp [hk])).1
  omega
theorem tsrs_of_allS {l : List Tsr} (h : allS (fun x => allS i64B x.sh ∧ allS i64B x.vl) l) : tsrsBig l := fun k hk => by
  have := h.2 (l.getD k ⟨[], []⟩) (by simp [hk])
  have a := this.1.1
  have b := this.2.1
  exact ⟨by omega, by omega⟩
theorem op_u8 : Opens Try.prog 5 (α := UInt8) (fun _ => True) := opens_u8 Try.underlying5
theorem op_bytes : Opens Try.prog 22 (α := List UInt8) (allS fun _ => True) := opens_list Try.underlying22 1 (cellsOf_of Try.tsize5) (by omega) op_u8

end Go.Proofs.Ytjmkdnnfhphckaa
