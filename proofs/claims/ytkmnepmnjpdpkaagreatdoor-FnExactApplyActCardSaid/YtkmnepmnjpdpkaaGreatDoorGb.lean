/- Contracts of functions that the laws of this seat call. -/
import Derived.Test.YtkmnepmnjpdpkaaGreatDoorGa
set_option linter.all false
namespace Go.Proofs.YtkmnepmnjpdpkaaGreatDoor
open Go Go.Ev Go.RowKit Go.Ev.Enc Go.Pl

set_option maxHeartbeats 4000000 in
set_option maxRecDepth 100000 in
theorem o_copyInts {Sg : FuncId → Option (List AV → Option AV)} (hS : Sound Tryz.prog Sg) (l : List Int) (h : l.length ≤ 1048576) : OSpec Tryz.prog 105 [ints 0 l] (fun n => .sl n l.length 0 l.length l.length) (fun _ => [⟨1, l.map fun n => .int .i64 n⟩]) := by
  refine OSpec.intro Tryz.func105 rfl (vc_sound Tryz.pf hS _ _ _ ?_)
  repeat' (first | with_reducible first | refine kI (by kernel_rfl) ?_ | refine kN (by kernel_rfl) ?_ | (first | refine kB1 ?_ ?_ | refine kB2 ?_ ?_) <;> intro hp | (first | refine kD1 ?_ ?_ | refine kD2 ?_ ?_ | refine kS1 ?_ ?_ | refine kS2 ?_ ?_) <;> intro hp <;> try simp only [hp] | simp -implicitDefEqProofs (disch := omega) only [go_sem, Nat.reduceAdd, Nat.reduceSub, reduceCtorEq, Nat.reduceLT, Nat.reduceLeDiff, Nat.reduceEqDiff, Nat.reduceMul, Int.reduceToNat, ↓reduceIte, List.take_of_length_le, if_pos, if_neg, getD_tsrs, fillA_len, fillA_at, fillA_full, evApp_z0, evApp_z1, evApp_z2, evApp_z3, evApp_i6, cnE, Tryz.ntmps105, Tryz.results105])
  exact ⟨[0], by simp, by simp, fun _ => rfl, fun _ => by simp only [List.map, List.getD_cons_zero, renB_ints]⟩
end Go.Proofs.YtkmnepmnjpdpkaaGreatDoor
