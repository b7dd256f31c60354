/- Contracts of functions that the laws of this seat call. -/
import Derived.Test.YtkmnepmnjpdpkaaGreatDoorXv
import Derived.Test.YtkmnepmnjpdpkaaGreatDoorXw
set_option linter.all false
namespace Go.Proofs.YtkmnepmnjpdpkaaGreatDoor
open Go Go.Ev Go.RowKit Go.Ev.Enc Go.Pl

def DrTxt (f : FuncId) : Prop := ∀ (bs : List UInt8), bs.length ≤ 1048576 → ∀ L : List Blk, ISpec Tryz.prog f [bytesA 0 bs] L fun r L' => ∃ s : ByteArray, s.size ≤ 5000 ∧ r = .str s ∧ L' = L
def SesP : Prop := ∀ {bs : List UInt8} {b n : Nat} {rL : Int → List Blk} (hC : RC bs b n rL) (hb : bs.length ≤ 2000) (p : Int) (hp : 0 ≤ p ∧ p ≤ 600000000), ISpec Tryz.prog 50 [.ptr b 1 0 0] (rL p) fun r L' => ∃ (s : ByteArray) (p' : Int), r = .str s ∧ s.size ≤ 5000 ∧ L' = rL p'
theorem can_DrawBufferAfter : CanCall Tryz.prog 14 := ⟨_, Tryz.func14, rfl, rfl⟩
set_option maxHeartbeats 4000000 in
set_option maxRecDepth 100000 in
theorem isp_DrawBufferAfter {Sg : FuncId → Option (List AV → Option AV)} (hS : Sound Tryz.prog Sg) (n1 : Sg 51 = none) (n2 : Sg 50 = none) (bs : List UInt8) (hb : bs.length ≤ 1048576) (L : List Blk) (hse : SesP) : ISpec Tryz.prog 14 [bytesA 0 bs] (L) (fun r L' => ∃ s : ByteArray, s.size ≤ 5000 ∧ r = .str s ∧ L' = L) := by
  refine ISpec.ret Tryz.func14 rfl (vc3_sound Tryz.pf hS hS _ _ _ ?_)
  repeat' (first | with_reducible first | refine kI (by kernel_rfl) ?_ | refine kN (by kernel_rfl) ?_ | simp -implicitDefEqProofs (disch := omega) only [go_sem, Nat.reduceAdd, Nat.reduceSub, reduceCtorEq, Nat.reduceLT, Nat.reduceLeDiff, Nat.reduceEqDiff, ↓reduceIte, List.take_of_length_le, if_pos, if_neg, getD_exs, evApp_st0, cnE, cnV, Tryz.ntmps14, Tryz.results14,  n1, opQ_none])
  refine InlK_intro rfl rfl can_newRd ((isp_newReader hS bs hb _).mono ?_)
  rintro r L1 ⟨rfl, rfl⟩
  have hb2 : (bs.take 2000).length ≤ 2000 := by simp; omega
  repeat' (first | with_reducible first | refine kI (by kernel_rfl) ?_ | refine kN (by kernel_rfl) ?_ | simp -implicitDefEqProofs (disch := omega) only [go_sem, Nat.reduceAdd, Nat.reduceSub, reduceCtorEq, Nat.reduceLT, Nat.reduceLeDiff, Nat.reduceEqDiff, ↓reduceIte, List.take_of_length_le, if_pos, if_neg, getD_exs, evApp_st0, cnE, cnV, Tryz.ntmps14, Tryz.results14,  n2, opQ_none])
  refine InlK_intro rfl rfl can_session ((hse (RC.new (bs.take 2000) L) hb2 0 (by omega)).mono ?_)
  rintro r L1 ⟨s, p1, rfl, hs, rfl⟩
  repeat' (first | with_reducible first | refine kI (by kernel_rfl) ?_ | refine kN (by kernel_rfl) ?_ | simp -implicitDefEqProofs (disch := omega) only [go_sem, Nat.reduceAdd, Nat.reduceSub, reduceCtorEq, Nat.reduceLT, Nat.reduceLeDiff, Nat.reduceEqDiff, ↓reduceIte, List.take_of_length_le, if_pos, if_neg, getD_exs, evApp_st0, cnE, cnV, Tryz.ntmps14, Tryz.results14])
  exact RetQ.top ⟨s, hs, rfl, rfl⟩
theorem acs_ok (n : Nat) (hn : n ≤ 60) (S : List UInt8) : acsB (actsF n S) := by
  have h1 := actsF_len n S
  refine ⟨by omega, fun i hi => ?_⟩
  have := (actsF_val n S _ (mem_ac hi)).1.2
  have := ned_4 ((actsF n S).getD i ac0).k
  omega
end Go.Proofs.YtkmnepmnjpdpkaaGreatDoor
