/- Contracts of functions that the laws of this seat call. -/
import Derived.Test.YtkmnepmnjpdpkaaGreatDoorX6
set_option linter.all false
namespace Go.Proofs.YtkmnepmnjpdpkaaGreatDoor
open Go Go.Ev Go.RowKit Go.Ev.Enc Go.Pl

def filO (m : List Int) (v : Vi) (x : Int) : Option (List Int) := if holdB m v = true ∧ inR x 0 255 = true then some (stoT m (offF v) (repV v x) (offF v).length) else none
set_option maxHeartbeats 4000000 in
set_option maxRecDepth 100000 in
theorem o_FillViewI {Sg : FuncId → Option (List AV → Option AV)} (hS : Sound Tryz.prog Sg) (hc : Sg 163 = some (F2 gHolds)) (hr : Sg 145 = some (F1 gIsVal)) (ho : Sg 116 = some (F1 gOffsets)) (m : List Int) (v : Vi) (y : Int) (h : memB m v) : OSpec Tryz.prog 132 [ints 0 m, .agg [i64 v.b, ints 0 v.sh, ints 0 v.st], i64 y] (icR (filO m v y)) (icN (filO m v y)) := by
  refine OSpec.ofR Tryz.func132 rfl (vc3_sound Tryz.pf hS hS _ _ _ ?_)
  have q1 := gHolds_eq h
  have q2 := gIsVal_eq y
  unfold filO
  cases e : holdB m v with
  | false =>
    rw [e] at q1
    rw [if_neg (by simp)]
    repeat' (first | with_reducible first | refine kI (by kernel_rfl) ?_ | refine kN (by kernel_rfl) ?_ | simp -implicitDefEqProofs (disch := omega) only [go_sem, Nat.reduceAdd, Nat.reduceSub, reduceCtorEq, Nat.reduceLT, Nat.reduceLeDiff, Nat.reduceEqDiff, ↓reduceIte, if_pos, if_neg, Tryz.ntmps132, Tryz.results132,  hc, q1])
    exact ret_ic0
  | true =>
    rw [e] at q1
    cases e2 : inR y 0 255 with
    | false =>
      rw [e2] at q2
      rw [if_neg (by simp)]
      repeat' (first | with_reducible first | refine kI (by kernel_rfl) ?_ | refine kN (by kernel_rfl) ?_ | simp -implicitDefEqProofs (disch := omega) only [go_sem, Nat.reduceAdd, Nat.reduceSub, reduceCtorEq, Nat.reduceLT, Nat.reduceLeDiff, Nat.reduceEqDiff, ↓reduceIte, List.take_of_length_le, if_pos, if_neg, getD_exs, cnE, cnV, Tryz.ntmps132, Tryz.results132,  hc, q1, hr, q2])
      exact ret_ic0
    | true =>
      rw [e2] at q2
      rw [if_pos ⟨rfl, rfl⟩]
      obtain ⟨h1, h2, h3⟩ := fit_in e
      have hm := (memOK_iff.1 h1).1
      have h6 := offF_60 (vOK h2).1
      have q3 := gOffsets_eq (vOK h2)
      have hV : ∀ k, k < (offF v).length → (repV v y).getD k 0 = y := fun k hk => by simp [repV, hk]
      generalize repV v y = V at *
      repeat' (first | with_reducible first | refine kI (by kernel_rfl) ?_ | refine kN (by kernel_rfl) ?_ | simp -implicitDefEqProofs (disch := omega) only [go_sem, Nat.reduceAdd, Nat.reduceSub, reduceCtorEq, Nat.reduceLT, Nat.reduceLeDiff, Nat.reduceEqDiff, Nat.reduceMul, Int.reduceToNat, ↓reduceIte, List.take_of_length_le, if_pos, if_neg, List.getElem?_set_self, List.set_set, getD_exs, cnE, cnV, Tryz.ntmps132, Tryz.results132,  hc, q1, hr, q2, ho, q3])
      generalize offF v = A at *
      refine LoopQ.mix (fun t0 L0 nn ss => ∃ (k : Nat) (_ : Unit), (∃ x : Nat → AV, ss = ⟨mixL 0 (.k :: .k :: .k :: .k :: .k :: .k :: .k :: .k :: .k :: .k :: .s :: .k :: .k :: .k :: .k :: .k :: .k :: .k :: .k :: .k :: .k :: .k :: .k :: .k :: .k :: .k :: .v (i64 (k : Nat)) :: .s :: .s :: .s :: .s :: .s :: .s :: .s :: .s :: .k :: []) t0 x, [viB0 v, ⟨1, (stoT m A V k).map fun n => .int .i64 n⟩]⟩) ∧ (k ≤ A.length) ∧ nn = A.length - k) ?_ ?_
      · exact ⟨_, ⟨0, (), mixI rfl, Nat.zero_le _, rfl⟩⟩
      · rintro I0 hI0 nn s ⟨k, _, ⟨x, rfl⟩, g1, rfl⟩
        have hl := stoT_len m A V k
        by_cases hk : k < A.length
        · have hki : (k : Int) < (A.length : Int) := by omega
          obtain ⟨j, hj, hjm⟩ := in_at h3 hk
          have hs : (stoT m A V k).set j y = stoT m A V (k + 1) := by rw [stoT, hj, Int.toNat_natCast, hV k hk]
          have hjl : j < (stoT m A V k).length := by omega
          repeat' (first | with_reducible first | refine kI (by kernel_rfl) ?_ | refine kN (by kernel_rfl) ?_ | simp -implicitDefEqProofs (disch := omega) only [go_sem, Nat.reduceAdd, Nat.reduceSub, reduceCtorEq, Nat.reduceLT, Nat.reduceLeDiff, Nat.reduceEqDiff, ↓reduceIte, List.take_of_length_le, if_pos, if_neg, getD_exs, cnE, cnV, Tryz.ntmps132, Tryz.results132,  hki, getD_ints hk, hj, hl, hjm, hs])
          exact ⟨A.length - (k + 1), by omega, hI0 _ _ ⟨k + 1, (), mixI rfl, hk, rfl⟩⟩
        · obtain rfl : k = A.length := by omega
          repeat' (first | with_reducible first | refine kI (by kernel_rfl) ?_ | refine kN (by kernel_rfl) ?_ | simp -implicitDefEqProofs (disch := omega) only [go_sem, Nat.reduceAdd, Nat.reduceSub, reduceCtorEq, Nat.reduceLT, Nat.reduceLeDiff, Nat.reduceEqDiff, Nat.reduceMul, Int.reduceToNat, ↓reduceIte, List.take_of_length_le, if_pos, if_neg, List.getElem?_set_self, List.set_set, getD_exs, cnE, cnV, Tryz.ntmps132, Tryz.results132])
          rw [← hl]
          exact ret_ic (i := 1) rfl
set_option maxHeartbeats 4000000 in
set_option maxRecDepth 100000 in
theorem o_storeViewI {Sg : FuncId → Option (List AV → Option AV)} (hS : Sound Tryz.prog Sg) (ho : Sg 116 = some (F1 gOffsets)) (m : List Int) (v : Vi) (V : List Int) (e : holdB m v = true) (hV : V.length = (offF v).length) : OSpec Tryz.prog 165 [ints 0 m, .agg [i64 v.b, ints 0 v.sh, ints 0 v.st], ints 0 V] (fun n => .sl n (stoV m v V).length 0 (stoV m v V).length (stoV m v V).length) (fun _ => [stB (stoV m v V)]) := by
  refine OSpec.ofR Tryz.func165 rfl (vc3_sound Tryz.pf hS hS _ _ _ ?_)
  obtain ⟨h1, h2, h3⟩ := fit_in e
  have hm := (memOK_iff.1 h1).1
  have h6 := offF_60 (vOK h2).1
  have q3 := gOffsets_eq (vOK h2)
  unfold stoV
  repeat' (first | with_reducible first | refine kI (by kernel_rfl) ?_ | refine kN (by kernel_rfl) ?_ | simp -implicitDefEqProofs (disch := omega) only [go_sem, Nat.reduceAdd, Nat.reduceSub, reduceCtorEq, Nat.reduceLT, Nat.reduceLeDiff, Nat.reduceEqDiff, Nat.reduceMul, Int.reduceToNat, ↓reduceIte, List.take_of_length_le, if_pos, if_neg, List.getElem?_set_self, List.set_set, getD_exs, cnE, cnV, Tryz.ntmps165, Tryz.results165,  ho, q3])
  generalize offF v = A at *
  refine LoopQ.mix (fun t0 L0 nn ss => ∃ (k : Nat) (_ : Unit), (∃ x : Nat → AV, ss = ⟨mixL 0 (.k :: .k :: .k :: .k :: .k :: .k :: .k :: .k :: .s :: .s :: .k :: .k :: .k :: .k :: .k :: .k :: .v (i64 (k : Nat)) :: .s :: .s :: .s :: .s :: .s :: .s :: .s :: .s :: .s :: .s :: .s :: .s :: .k :: []) t0 x, [viB0 v, ⟨1, (stoT m A V k).map fun n => .int .i64 n⟩]⟩) ∧ (k ≤ A.length) ∧ nn = A.length - k) ?_ ?_
  · exact ⟨_, ⟨0, (), mixI rfl, Nat.zero_le _, rfl⟩⟩
  · rintro I0 hI0 nn s ⟨k, _, ⟨x, rfl⟩, g1, rfl⟩
    have hl := stoT_len m A V k
    by_cases hk : k < A.length
    · have hki : (k : Int) < (A.length : Int) := by omega
      have hkV : k < V.length := by omega
      obtain ⟨j, hj, hjm⟩ := in_at h3 hk
      have hs : (stoT m A V k).set j (V.getD k 0) = stoT m A V (k + 1) := by rw [stoT, hj, Int.toNat_natCast]
      have hjl : j < (stoT m A V k).length := by omega
      repeat' (first | with_reducible first | refine kI (by kernel_rfl) ?_ | refine kN (by kernel_rfl) ?_ | simp -implicitDefEqProofs (disch := omega) only [go_sem, Nat.reduceAdd, Nat.reduceSub, reduceCtorEq, Nat.reduceLT, Nat.reduceLeDiff, Nat.reduceEqDiff, ↓reduceIte, List.take_of_length_le, if_pos, if_neg, getD_exs, cnE, cnV, Tryz.ntmps165, Tryz.results165,  hki, getD_ints hk, getD_ints hkV, hj, hl, hjm, hs])
      exact ⟨A.length - (k + 1), by omega, hI0 _ _ ⟨k + 1, (), mixI rfl, hk, rfl⟩⟩
    · obtain rfl : k = A.length := by omega
      repeat' (first | with_reducible first | refine kI (by kernel_rfl) ?_ | refine kN (by kernel_rfl) ?_ | simp -implicitDefEqProofs (disch := omega) only [go_sem, Nat.reduceAdd, Nat.reduceSub, reduceCtorEq, Nat.reduceLT, Nat.reduceLeDiff, Nat.reduceEqDiff, ↓reduceIte, List.take_of_length_le, if_pos, if_neg, getD_exs, cnE, cnV, Tryz.ntmps165, Tryz.results165])
      rw [← hl]
      exact ret_il (i := 1) rfl
theorem can_storeView : CanCall Tryz.prog 165 := ⟨_, Tryz.func165, rfl, rfl⟩
def StoI : Prop := ∀ (m : List Int) (v : Vi) (V : List Int), holdB m v = true → V.length = (offF v).length → OSpec Tryz.prog 165 [ints 0 m, .agg [i64 v.b, ints 0 v.sh, ints 0 v.st], ints 0 V] (fun n => .sl n (stoV m v V).length 0 (stoV m v V).length (stoV m v V).length) (fun _ => [stB (stoV m v V)])
set_option maxHeartbeats 4000000 in
set_option maxRecDepth 100000 in
theorem o_CopyViewI {Sg : FuncId → Option (List AV → Option AV)} (hS : Sound Tryz.prog Sg) (hc : Sg 164 = some (F3 gCanC)) (hl : Sg 135 = some (F2 gLoadI)) (n1 : Sg 165 = none) (m : List Int) (a b : Vi) (h : mB2 m a b) (hpu : StoI) : OSpec Tryz.prog 133 [ints 0 m, .agg [i64 a.b, ints 0 a.sh, ints 0 a.st], .agg [i64 b.b, ints 0 b.sh, ints 0 b.st]] (icR (cpyO m a b)) (icN (cpyO m a b)) := by
  refine OSpec.ofR Tryz.func133 rfl (vc3_sound Tryz.pf hS hS _ _ _ ?_)
  have q1 := gCanC_eq h
  unfold cpyO
  cases e : cpyB m a b with
  | false =>
    rw [e] at q1
    rw [if_neg (by simp)]
    repeat' (first | with_reducible first | refine kI (by kernel_rfl) ?_ | refine kN (by kernel_rfl) ?_ | simp -implicitDefEqProofs (disch := omega) only [go_sem, Nat.reduceAdd, Nat.reduceSub, reduceCtorEq, Nat.reduceLT, Nat.reduceLeDiff, Nat.reduceEqDiff, ↓reduceIte, if_pos, if_neg, Tryz.ntmps133, Tryz.results133,  hc, q1])
    exact ret_ic0
  | true =>
    rw [e] at q1
    rw [if_pos rfl]
    obtain ⟨e1, e2, e3⟩ := cpyB_iff.1 e
    have q2 := gLoadI_eq e2
    have hlen : (tkn m (offF b)).length = (offF a).length := (tkn_len _ _).trans (len_off e3)
    generalize tkn m (offF b) = V at *
    repeat' (first | with_reducible first | refine kI (by kernel_rfl) ?_ | simp -implicitDefEqProofs (disch := omega) only [go_sem, Nat.reduceAdd, Nat.reduceSub, reduceCtorEq, Nat.reduceLT, Nat.reduceLeDiff, Nat.reduceEqDiff, ↓reduceIte, if_pos, if_neg, Tryz.ntmps133, Tryz.results133,  hc, q1])
    refine DrawQ.any [([0, 1, 2, 3, 4], 5)] [6, 7] [] (by kernel_rfl) ?_
    repeat' (first | with_reducible first | refine kI (by kernel_rfl) ?_ | simp -implicitDefEqProofs (disch := omega) only [go_sem, Nat.reduceAdd, Nat.reduceSub, reduceCtorEq, Nat.reduceLT, Nat.reduceLeDiff, Nat.reduceEqDiff, ↓reduceIte, if_pos, if_neg, Tryz.ntmps133, Tryz.results133,  hl, q2, n1, opQ_none])
    refine InlK_intro rfl rfl can_storeView ((hpu m a V e1 hlen).call (by simp only [go_sem, ints]) ?_)
    repeat' (first | with_reducible first | refine kI (by kernel_rfl) ?_ | simp -implicitDefEqProofs (disch := omega) only [go_sem, Nat.reduceAdd, Nat.reduceSub, reduceCtorEq, Nat.reduceLT, Nat.reduceLeDiff, Nat.reduceEqDiff, ↓reduceIte, if_pos, if_neg, Tryz.ntmps133, Tryz.results133])
    exact ret_ic (i := 2) rfl
theorem can_FillViewI : CanCall Tryz.prog 132 := ⟨_, Tryz.func132, rfl, rfl⟩
theorem can_CopyViewI : CanCall Tryz.prog 133 := ⟨_, Tryz.func133, rfl, rfl⟩
end Go.Proofs.YtkmnepmnjpdpkaaGreatDoor
