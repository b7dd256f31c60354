/- Contracts of functions that the laws of this seat call. -/
import Derived.Test.YtkmnepmnjpdpkaaGreatDoorXv
import Derived.Test.YtkmnepmnjpdpkaaGreatDoorXw
set_option linter.all false
namespace Go.Proofs.YtkmnepmnjpdpkaaGreatDoor
open Go Go.Ev Go.RowKit Go.Ev.Enc Go.Pl

def DrTxt (f : FuncId) : Prop := ∀ (bs : List UInt8), bs.length ≤ 1048576 → ∀ L : List Blk, ISpec Tryz.prog f [bytesA 0 bs] L fun r L' => ∃ s : ByteArray, s.size ≤ 5000 ∧ r = .str s ∧ L' = L
def SesP : Prop := ∀ {bs : List UInt8} {b n : Nat} {rL : Int → List Blk} (hC : RC bs b n rL) (hb : bs.length ≤ 2000) (p : Int) (hp : 0 ≤ p ∧ p ≤ 600000000), ISpec Tryz.prog 50 [.ptr b 1 0 0] (rL p) fun r L' => ∃ (s : ByteArray) (p' : Int), r = .str s ∧ s.size ≤ 5000 ∧ L' = rL p'
theorem can_DrawRunActs : CanCall Tryz.prog 22 := ⟨_, Tryz.func22, rfl, rfl⟩
set_option maxHeartbeats 4000000 in
set_option maxRecDepth 100000 in
theorem isp_DrawRunActs {Sg : FuncId → Option (List AV → Option AV)} (hS : Sound Tryz.prog Sg) (n1 : Sg 51 = none) (n2 : Sg 50 = none) (bs : List UInt8) (hb : bs.length ≤ 1048576) (L : List Blk) (hse : SesP) : ISpec Tryz.prog 22 [bytesA 0 bs] (L) (fun r L' => ∃ s : ByteArray, s.size ≤ 5000 ∧ r = .str s ∧ L' = L) := by
  refine ISpec.ret Tryz.func22 rfl (vc3_sound Tryz.pf hS hS _ _ _ ?_)
  repeat' (first | with_reducible first | refine kI (by kernel_rfl) ?_ | refine kN (by kernel_rfl) ?_ | simp -implicitDefEqProofs (disch := omega) only [go_sem, Nat.reduceAdd, Nat.reduceSub, reduceCtorEq, Nat.reduceLT, Nat.reduceLeDiff, Nat.reduceEqDiff, ↓reduceIte, List.take_of_length_le, if_pos, if_neg, getD_exs, evApp_st0, cnE, cnV, Tryz.ntmps22, Tryz.results22,  n1, opQ_none])
  refine InlK_intro rfl rfl can_newRd ((isp_newReader hS bs hb _).mono ?_)
  rintro r L1 ⟨rfl, rfl⟩
  have hb2 : (bs.take 2000).length ≤ 2000 := by simp; omega
  repeat' (first | with_reducible first | refine kI (by kernel_rfl) ?_ | refine kN (by kernel_rfl) ?_ | simp -implicitDefEqProofs (disch := omega) only [go_sem, Nat.reduceAdd, Nat.reduceSub, reduceCtorEq, Nat.reduceLT, Nat.reduceLeDiff, Nat.reduceEqDiff, ↓reduceIte, List.take_of_length_le, if_pos, if_neg, getD_exs, evApp_st0, cnE, cnV, Tryz.ntmps22, Tryz.results22,  n2, opQ_none])
  refine InlK_intro rfl rfl can_session ((hse (RC.new (bs.take 2000) L) hb2 0 (by omega)).mono ?_)
  rintro r L1 ⟨s, p1, rfl, hs, rfl⟩
  repeat' (first | with_reducible first | refine kI (by kernel_rfl) ?_ | refine kN (by kernel_rfl) ?_ | simp -implicitDefEqProofs (disch := omega) only [go_sem, Nat.reduceAdd, Nat.reduceSub, reduceCtorEq, Nat.reduceLT, Nat.reduceLeDiff, Nat.reduceEqDiff, ↓reduceIte, List.take_of_length_le, if_pos, if_neg, getD_exs, evApp_st0, cnE, cnV, Tryz.ntmps22, Tryz.results22])
  exact RetQ.top ⟨s, hs, rfl, rfl⟩
theorem lin_snoc (l : List Ac) (a : Ac) : linL (l ++ [a]) = linL l ++ fmtL a ++ [10] := by
  unfold linL
  rw [List.flatMap_append]
  simp
end Go.Proofs.YtkmnepmnjpdpkaaGreatDoor
