/- Contracts of functions that the laws of this seat call. -/
import Derived.Test.YtkmnepmnjpdpkaaGreatDoorXh
set_option linter.all false
namespace Go.Proofs.YtkmnepmnjpdpkaaGreatDoor
open Go Go.Ev Go.RowKit Go.Ev.Enc Go.Pl

theorem bfB0 : bfB ⟨[], []⟩ := ⟨by decide, by decide, fun i hi => absurd hi (Nat.not_lt_zero _)⟩
def DrApp : Prop := ∀ (bs : List UInt8), bs.length ≤ 1048576 → ∀ L : List Blk, ISpec Tryz.prog 28 [bytesA 0 bs] L fun r L' => ∃ (B : Bf) (a : Ac), bfS B ∧ a.n.length ≤ 5 ∧ r = .tup [bfA 1 B, acA 1 a] ∧ L' = L
theorem can_DrawApplyAct : CanCall Tryz.prog 28 := ⟨_, Tryz.func28, rfl, rfl⟩
theorem appO_some {B : Bf} {a : Ac} {p : Bf × ByteArray} (h : appO B a = some p) : (bufOK B = true ∧ actB a = true) ∧ appF B a = p := by
  unfold appO at h
  split at h
  · exact ⟨by assumption, Option.some.inj h⟩
  · cases h
set_option maxHeartbeats 8000000 in
set_option maxRecDepth 100000 in
theorem law_ApplyAct {Sg Sd : FuncId → Option (List AV → Option AV)} (hS : Sound Tryz.prog Sg) (hD : Sound Tryz.prog Sd) (n1 : Sg 28 = none) (h1 : Sg 20 = some (F2 gAppX)) (h2 : Sg 29 = some (F2 gAppX)) (h3 : Sg 16 = some (F2 gEqB)) (h4 : Sg 21 = some (F1 gBuf)) (hDr : DrApp) : ∀ a r, F1 gTrueW a = some r → CSpec Tryz.prog 5 a r := by
  refine F1_spec ?_
  intro bs r hr
  obtain ⟨g1, rfl⟩ := gd_some hr
  refine law3 Tryz.func5 rfl Tryz.pf hS hD ?_
  by_cases hb : 1048576 < bs.length
  · repeat' (first | with_reducible first | refine kI (by kernel_rfl) ?_ | refine kN (by kernel_rfl) ?_ | simp -implicitDefEqProofs (disch := omega) only [go_sem, Nat.reduceAdd, Nat.reduceSub, reduceCtorEq, Nat.reduceLT, Nat.reduceLeDiff, Nat.reduceEqDiff, Nat.reduceMul, Int.reduceToNat, ↓reduceIte, List.take_of_length_le, if_pos, if_neg, List.getElem?_set_self, List.set_set, getD_exs, cnE, cnV, Tryz.ntmps5, Tryz.results5])
  · repeat' (first | with_reducible first | refine kI (by kernel_rfl) ?_ | refine kN (by kernel_rfl) ?_ | simp -implicitDefEqProofs (disch := omega) only [go_sem, Nat.reduceAdd, Nat.reduceSub, reduceCtorEq, Nat.reduceLT, Nat.reduceLeDiff, Nat.reduceEqDiff, Nat.reduceMul, Int.reduceToNat, ↓reduceIte, List.take_of_length_le, if_pos, if_neg, List.getElem?_set_self, List.set_set, getD_exs, cnE, cnV, Tryz.ntmps5, Tryz.results5,  n1, opQ_none])
    refine InlK_intro rfl rfl can_DrawApplyAct ((hDr bs (by omega) _).mono ?_)
    rintro r L1 ⟨B, a, hB, ha, rfl, rfl⟩
    obtain ⟨k, n⟩ := a
    have q1 := gAppX_eq (B := B) (a := ⟨k, n⟩) ⟨hB.1, by dsimp only at ha ⊢; omega⟩
    cases e : appO B ⟨k, n⟩ with
    | none =>
      rw [e] at q1
      simp only [btP] at q1
      have q3 := gEqB_eq bfB0 bfB0
      rw [decide_eq_true rfl] at q3
      have s1 := strEq_t ⟨#[]⟩
      repeat' (first | with_reducible first | refine kI (by kernel_rfl) ?_ | refine kN (by kernel_rfl) ?_ | simp -implicitDefEqProofs (disch := omega) only [go_sem, Nat.reduceAdd, Nat.reduceSub, reduceCtorEq, Nat.reduceLT, Nat.reduceLeDiff, Nat.reduceEqDiff, Nat.reduceMul, Int.reduceToNat, ↓reduceIte, List.take_of_length_le, if_pos, if_neg, List.getElem?_set_self, List.set_set, getD_exs, cnE, cnV, Tryz.ntmps5, Tryz.results5,  h1, q1, h2, h3, q3, s1])
    | some p =>
      rw [e] at q1
      simp only [btP] at q1
      obtain ⟨⟨c1, c2⟩, hp⟩ := appO_some e
      have hok := app_ok (a := ⟨k, n⟩) c1
      have hne := app_ne (B := B) (a := ⟨k, n⟩)
      have hsa := app_same (B := B) (a := ⟨k, n⟩)
      rw [hp] at hok hne hsa
      obtain ⟨B', s⟩ := p
      dsimp only at hok hne hsa
      have q3 := gEqB_eq (bfB_of hok) (bfB_of hok)
      rw [decide_eq_true rfl] at q3
      have q4 := gBuf_eq (bfB_of hok)
      rw [hok] at q4
      have s1 := strEq_t s
      have s2 := strEq_f hne
      by_cases hx : s = cNo ∨ k = 6
      · obtain rfl := hsa hx
        by_cases hs : s = cNo
        · have s3 := strEq cNo cNo
          rw [decide_eq_true rfl] at s3
          subst hs
          repeat' (first | with_reducible first | refine kI (by kernel_rfl) ?_ | refine kN (by kernel_rfl) ?_ | simp -implicitDefEqProofs (disch := omega) only [go_sem, Nat.reduceAdd, Nat.reduceSub, reduceCtorEq, Nat.reduceLT, Nat.reduceLeDiff, Nat.reduceEqDiff, Nat.reduceMul, Int.reduceToNat, ↓reduceIte, List.take_of_length_le, if_pos, if_neg, List.getElem?_set_self, List.set_set, getD_exs, cnE, cnV, Tryz.ntmps5, Tryz.results5,  h1, q1, h2, h3, q3, h4, q4, s1, s2])
        · have s3 := strEq_f hs
          have hk : (k == 6) = true := beq_t (hx.resolve_left hs)
          repeat' (first | with_reducible first | refine kI (by kernel_rfl) ?_ | refine kN (by kernel_rfl) ?_ | simp -implicitDefEqProofs (disch := omega) only [go_sem, Nat.reduceAdd, Nat.reduceSub, reduceCtorEq, Nat.reduceLT, Nat.reduceLeDiff, Nat.reduceEqDiff, Nat.reduceMul, Int.reduceToNat, ↓reduceIte, List.take_of_length_le, if_pos, if_neg, List.getElem?_set_self, List.set_set, getD_exs, cnE, cnV, Tryz.ntmps5, Tryz.results5,  h1, q1, h2, h3, q3, h4, q4, s1, s2, s3, hk])
      · have s3 := strEq_f (fun h => hx (.inl h))
        have hk : (k == 6) = false := beq_f (fun h => hx (.inr h))
        repeat' (first | with_reducible first | refine kI (by kernel_rfl) ?_ | refine kN (by kernel_rfl) ?_ | simp -implicitDefEqProofs (disch := omega) only [go_sem, Nat.reduceAdd, Nat.reduceSub, reduceCtorEq, Nat.reduceLT, Nat.reduceLeDiff, Nat.reduceEqDiff, Nat.reduceMul, Int.reduceToNat, ↓reduceIte, List.take_of_length_le, if_pos, if_neg, List.getElem?_set_self, List.set_set, getD_exs, cnE, cnV, Tryz.ntmps5, Tryz.results5,  h1, q1, h2, h3, q3, h4, q4, s1, s2, s3, hk])
end Go.Proofs.YtkmnepmnjpdpkaaGreatDoor
