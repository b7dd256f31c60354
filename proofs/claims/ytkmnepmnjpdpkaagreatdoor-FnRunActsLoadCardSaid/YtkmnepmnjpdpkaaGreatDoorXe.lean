/- Contracts of functions that the laws of this seat call. -/
import Derived.Test.YtkmnepmnjpdpkaaGreatDoorXd
set_option linter.all false
namespace Go.Proofs.YtkmnepmnjpdpkaaGreatDoor
open Go Go.Ev Go.RowKit Go.Ev.Enc Go.Pl

theorem appF_no {B : Bf} {a : Ac} (e : doneO B a = none) : appF B a = (B, cNo) := by unfold appF; rw [e]
theorem appF_at {B B' : Bf} {a : Ac} (e : doneO B a = some B') (h : a.k = 1 ∨ a.k = 2 ∨ a.k = 3) : appF B a = (B', cAt ++ numB ((B'.e.length : Int) - 1)) := by
  unfold appF; rw [e]; dsimp only; rw [if_neg (by omega), if_pos h]
theorem appF_do {B B' : Bf} {a : Ac} (e : doneO B a = some B') (h6 : a.k ≠ 6) (h : ¬ (a.k = 1 ∨ a.k = 2 ∨ a.k = 3)) : appF B a = (B', cOk) := by
  unfold appF; rw [e]; dsimp only; rw [if_neg h6, if_neg h]
theorem appF_has {B B' : Bf} {a : Ac} (e : doneO B a = some B') (h6 : a.k = 6) : appF B a = (B, cHas ++ numsB (tkn B.c (offF (vwB B (a.n.getD 0 0))))) := by
  unfold appF; rw [e]; dsimp only; rw [if_pos h6]
instance (a : Ac) : Decidable (actV a) := by unfold actV actN; infer_instance
def gAppI (B : Bf) (a : Ac) : Option (Bf × ByteArray) := gd (bufOK B = true ∧ actV a) (appF B a)
theorem gAppI_eq {B : Bf} {a : Ac} (h1 : bufOK B = true) (h2 : actV a) : gAppI B a = some (appF B a) := gd_eq ⟨h1, h2⟩
theorem dec_vi1 (b x y : Int) : (dec (.agg [.int .i64 b, .ds 0 [.int .i64 x], .ds 0 [.int .i64 y]]) : Option Vi) = some ⟨b, [x], [y]⟩ := (ok _ _).2 rfl
attribute [go_sem] dec_vi1
def gAppK (j : Int) (B : Bf) (a : Ac) : Option (Bf × ByteArray) := gd ((bufOK B = true ∧ actV a) ∧ a.k = j) (appF B a)
theorem gAppK_eq {j : Int} {B : Bf} {a : Ac} (h1 : bufOK B = true) (h2 : actV a) (h3 : a.k = j) : gAppK j B a = some (appF B a) := gd_eq ⟨⟨h1, h2⟩, h3⟩
set_option maxHeartbeats 4000000 in
set_option maxRecDepth 100000 in
theorem law_appK0 {Sg : FuncId → Option (List AV → Option AV)} (hS : Sound Tryz.prog Sg) (h0 : Sg 91 = some (F2 gRszX)) (hcb : Sg 99 = some (F1 gCpB)) : ∀ a r, F2 (gAppK 0) a = some r → CSpec Tryz.prog 53 a r := by
  refine F2_spec ?_
  rintro B ⟨k, n⟩ r hr0
  obtain ⟨⟨⟨hB, ha⟩, hk⟩, rfl⟩ := gd_some hr0
  have hbb := bfB_of hB
  have qc := gCpB_eq (bfM_of hB)
  obtain ⟨⟨⟨k0, k7⟩, hn⟩, hxx⟩ := ha
  dsimp only at hk k0 k7 hn hxx
  subst hk
  obtain ⟨n0, rfl⟩ := list1 hn
  refine CSpec.intro Tryz.func53 rfl (own _) (vc3_sound Tryz.pf hS hS _ _ _ ?_)
  have hd : doneO B ⟨0, [n0]⟩ = rszXO B n0 := rfl
  have q := gRszX_eq hbb n0
  cases e : rszXO B n0 with
  | none =>
    rw [e] at q hd
    simp only [bbP] at q
    rw [appF_no hd]
    repeat' (first | with_reducible first | refine kI (by kernel_rfl) ?_ | simp -implicitDefEqProofs (disch := omega) only [go_sem, Nat.reduceAdd, Nat.reduceSub, reduceCtorEq, Nat.reduceLT, Nat.reduceLeDiff, Nat.reduceEqDiff, Nat.reduceMul, Int.reduceToNat, ↓reduceIte, List.take_of_length_le, if_pos, if_neg, getD_exs, cnE, cnV, Tryz.ntmps53, Tryz.results53])
    refine DrawQ.any [([0, 1, 2, 3, 4, 5, 6, 7, 8], 9)] [10] [8] (by kernel_rfl) ?_
    repeat' (first | with_reducible first | refine kI (by kernel_rfl) ?_ | simp -implicitDefEqProofs (disch := omega) only [go_sem, Nat.reduceAdd, Nat.reduceSub, reduceCtorEq, Nat.reduceLT, Nat.reduceLeDiff, Nat.reduceEqDiff, Nat.reduceMul, Int.reduceToNat, ↓reduceIte, List.take_of_length_le, if_pos, if_neg, getD_exs, cnE, cnV, Tryz.ntmps53, Tryz.results53,  h0, q, hcb, qc])
    try rfl
  | some B' =>
    rw [e] at q hd
    simp only [bbP] at q
    rw [appF_do hd (show (0 : Int) ≠ 6 by decide) (show ¬ ((0 : Int) = 1 ∨ (0 : Int) = 2 ∨ (0 : Int) = 3) by decide)]
    repeat' (first | with_reducible first | refine kI (by kernel_rfl) ?_ | simp -implicitDefEqProofs (disch := omega) only [go_sem, Nat.reduceAdd, Nat.reduceSub, reduceCtorEq, Nat.reduceLT, Nat.reduceLeDiff, Nat.reduceEqDiff, Nat.reduceMul, Int.reduceToNat, ↓reduceIte, List.take_of_length_le, if_pos, if_neg, getD_exs, cnE, cnV, Tryz.ntmps53, Tryz.results53])
    refine DrawQ.any [([0, 1, 2, 3, 4, 5, 6, 7, 8], 9)] [10] [8] (by kernel_rfl) ?_
    repeat' (first | with_reducible first | refine kI (by kernel_rfl) ?_ | simp -implicitDefEqProofs (disch := omega) only [go_sem, Nat.reduceAdd, Nat.reduceSub, reduceCtorEq, Nat.reduceLT, Nat.reduceLeDiff, Nat.reduceEqDiff, Nat.reduceMul, Int.reduceToNat, ↓reduceIte, List.take_of_length_le, if_pos, if_neg, getD_exs, cnE, cnV, Tryz.ntmps53, Tryz.results53,  h0, q])
    try rfl
set_option maxHeartbeats 4000000 in
set_option maxRecDepth 100000 in
theorem law_appK1 {Sg : FuncId → Option (List AV → Option AV)} (hS : Sound Tryz.prog Sg) (h1 : Sg 92 = some (F2 gExpV)) (hcb : Sg 99 = some (F1 gCpB)) (hi : Sg 63 = some (F1 gNum)) : ∀ a r, F2 (gAppK 1) a = some r → CSpec Tryz.prog 53 a r := by
  refine F2_spec ?_
  rintro B ⟨k, n⟩ r hr0
  obtain ⟨⟨⟨hB, ha⟩, hk⟩, rfl⟩ := gd_some hr0
  have hbb := bfB_of hB
  have qc := gCpB_eq (bfM_of hB)
  obtain ⟨⟨⟨k0, k7⟩, hn⟩, hxx⟩ := ha
  dsimp only at hk k0 k7 hn hxx
  subst hk
  obtain ⟨n0, n1, n2, rfl⟩ := list3 hn
  refine CSpec.intro Tryz.func53 rfl (own _) (vc3_sound Tryz.pf hS hS _ _ _ ?_)
  have hd : doneO B ⟨1, [n0, n1, n2]⟩ = expVO B ⟨n0, [n1], [n2]⟩ := rfl
  have q := gExpV_eq (v := ⟨n0, [n1], [n2]⟩) ⟨hbb, (show 1 < 4294967296 by decide), (show 1 < 4294967296 by decide)⟩
  cases e : expVO B ⟨n0, [n1], [n2]⟩ with
  | none =>
    rw [e] at q hd
    simp only [bbP] at q
    rw [appF_no hd]
    repeat' (first | with_reducible first | refine kI (by kernel_rfl) ?_ | simp -implicitDefEqProofs (disch := omega) only [go_sem, Nat.reduceAdd, Nat.reduceSub, reduceCtorEq, Nat.reduceLT, Nat.reduceLeDiff, Nat.reduceEqDiff, Nat.reduceMul, Int.reduceToNat, ↓reduceIte, List.take_of_length_le, if_pos, if_neg, getD_exs, cnE, cnV, Tryz.ntmps53, Tryz.results53])
    refine DrawQ.any [([0, 1, 2, 3, 4, 5, 6, 7, 8, 9, 10, 11, 12, 13, 14, 15, 16, 17, 18, 19], 20)] [21] [19] (by kernel_rfl) ?_
    repeat' (first | with_reducible first | refine kI (by kernel_rfl) ?_ | simp -implicitDefEqProofs (disch := omega) only [go_sem, Nat.reduceAdd, Nat.reduceSub, reduceCtorEq, Nat.reduceLT, Nat.reduceLeDiff, Nat.reduceEqDiff, Nat.reduceMul, Int.reduceToNat, ↓reduceIte, List.take_of_length_le, if_pos, if_neg, getD_exs, cnE, cnV, Tryz.ntmps53, Tryz.results53,  h1, q, hcb, qc])
    try rfl
  | some B' =>
    rw [e] at q hd
    simp only [bbP] at q
    have h8 := (bufOK_iff.1 (ok_done hB hd)).2.1
    rw [appF_at hd (show (1 : Int) = 1 ∨ (1 : Int) = 2 ∨ (1 : Int) = 3 by decide)]
    have hwr : IntKind.i64.wrap ((B'.e.length : Int) - 1) = (B'.e.length : Int) - 1 := wrap_in (by omega)
    have qi := gNum_eq (n := (B'.e.length : Int) - 1) (by unfold i64R; omega)
    have hnb := numB_len (n := (B'.e.length : Int) - 1) (by unfold i64R; omega)
    have w1 : cAt.size + (numB ((B'.e.length : Int) - 1)).size ≤ 9223372036854775807 := by rw [z_at]; omega
    generalize numB ((B'.e.length : Int) - 1) = S at *
    repeat' (first | with_reducible first | refine kI (by kernel_rfl) ?_ | simp -implicitDefEqProofs (disch := omega) only [go_sem, Nat.reduceAdd, Nat.reduceSub, reduceCtorEq, Nat.reduceLT, Nat.reduceLeDiff, Nat.reduceEqDiff, Nat.reduceMul, Int.reduceToNat, ↓reduceIte, List.take_of_length_le, if_pos, if_neg, getD_exs, cnE, cnV, Tryz.ntmps53, Tryz.results53])
    refine DrawQ.any [([0, 1, 2, 3, 4, 5, 6, 7, 8, 9, 10, 11, 12, 13, 14, 15, 16, 17, 18, 19], 20)] [21] [19] (by kernel_rfl) ?_
    repeat' (first | with_reducible first | refine kI (by kernel_rfl) ?_ | simp -implicitDefEqProofs (disch := omega) only [go_sem, Nat.reduceAdd, Nat.reduceSub, reduceCtorEq, Nat.reduceLT, Nat.reduceLeDiff, Nat.reduceEqDiff, Nat.reduceMul, Int.reduceToNat, ↓reduceIte, List.take_of_length_le, if_pos, if_neg, getD_exs, cnE, cnV, Tryz.ntmps53, Tryz.results53,  h1, q])
    refine DrawQ.any [([0, 1, 2, 3, 4, 5, 6], 7)] [8] [6] (by kernel_rfl) ?_
    repeat' (first | with_reducible first | refine kI (by kernel_rfl) ?_ | simp -implicitDefEqProofs (disch := omega) only [go_sem, Nat.reduceAdd, Nat.reduceSub, reduceCtorEq, Nat.reduceLT, Nat.reduceLeDiff, Nat.reduceEqDiff, Nat.reduceMul, Int.reduceToNat, ↓reduceIte, List.take_of_length_le, if_pos, if_neg, getD_exs, cnE, cnV, Tryz.ntmps53, Tryz.results53,  len_exs, hwr, hi, qi, w1])
    try rfl
set_option maxHeartbeats 4000000 in
set_option maxRecDepth 100000 in
theorem law_appK2 {Sg : FuncId → Option (List AV → Option AV)} (hS : Sound Tryz.prog Sg) (h2 : Sg 93 = some (F4 gExpP)) (hcb : Sg 99 = some (F1 gCpB)) (hi : Sg 63 = some (F1 gNum)) : ∀ a r, F2 (gAppK 2) a = some r → CSpec Tryz.prog 53 a r := by
  refine F2_spec ?_
  rintro B ⟨k, n⟩ r hr0
  obtain ⟨⟨⟨hB, ha⟩, hk⟩, rfl⟩ := gd_some hr0
  have hbb := bfB_of hB
  have qc := gCpB_eq (bfM_of hB)
  obtain ⟨⟨⟨k0, k7⟩, hn⟩, hxx⟩ := ha
  dsimp only at hk k0 k7 hn hxx
  subst hk
  obtain ⟨n0, n1, n2, n3, rfl⟩ := list4 hn
  refine CSpec.intro Tryz.func53 rfl (own _) (vc3_sound Tryz.pf hS hS _ _ _ ?_)
  have hd : doneO B ⟨2, [n0, n1, n2, n3]⟩ = expPO B n0 0 ⟨n1, n2, n3, true, true⟩ := rfl
  have q := gExpP_eq hbb n0 0 ⟨n1, n2, n3, true, true⟩
  cases e : expPO B n0 0 ⟨n1, n2, n3, true, true⟩ with
  | none =>
    rw [e] at q hd
    simp only [bbP] at q
    rw [appF_no hd]
    repeat' (first | with_reducible first | refine kI (by kernel_rfl) ?_ | simp -implicitDefEqProofs (disch := omega) only [go_sem, Nat.reduceAdd, Nat.reduceSub, reduceCtorEq, Nat.reduceLT, Nat.reduceLeDiff, Nat.reduceEqDiff, Nat.reduceMul, Int.reduceToNat, ↓reduceIte, List.take_of_length_le, if_pos, if_neg, getD_exs, cnE, cnV, Tryz.ntmps53, Tryz.results53])
    refine DrawQ.any [([0, 1, 2, 3, 4, 5, 6, 7, 8, 9, 10, 11, 12, 13, 14, 15, 16, 17, 18, 19, 20, 21], 22)] [23] [21] (by kernel_rfl) ?_
    repeat' (first | with_reducible first | refine kI (by kernel_rfl) ?_ | simp -implicitDefEqProofs (disch := omega) only [go_sem, Nat.reduceAdd, Nat.reduceSub, reduceCtorEq, Nat.reduceLT, Nat.reduceLeDiff, Nat.reduceEqDiff, Nat.reduceMul, Int.reduceToNat, ↓reduceIte, List.take_of_length_le, if_pos, if_neg, getD_exs, cnE, cnV, Tryz.ntmps53, Tryz.results53,  h2, q, hcb, qc])
    try rfl
  | some B' =>
    rw [e] at q hd
    simp only [bbP] at q
    have h8 := (bufOK_iff.1 (ok_done hB hd)).2.1
    rw [appF_at hd (show (2 : Int) = 1 ∨ (2 : Int) = 2 ∨ (2 : Int) = 3 by decide)]
    have hwr : IntKind.i64.wrap ((B'.e.length : Int) - 1) = (B'.e.length : Int) - 1 := wrap_in (by omega)
    have qi := gNum_eq (n := (B'.e.length : Int) - 1) (by unfold i64R; omega)
    have hnb := numB_len (n := (B'.e.length : Int) - 1) (by unfold i64R; omega)
    have w1 : cAt.size + (numB ((B'.e.length : Int) - 1)).size ≤ 9223372036854775807 := by rw [z_at]; omega
    generalize numB ((B'.e.length : Int) - 1) = S at *
    repeat' (first | with_reducible first | refine kI (by kernel_rfl) ?_ | simp -implicitDefEqProofs (disch := omega) only [go_sem, Nat.reduceAdd, Nat.reduceSub, reduceCtorEq, Nat.reduceLT, Nat.reduceLeDiff, Nat.reduceEqDiff, Nat.reduceMul, Int.reduceToNat, ↓reduceIte, List.take_of_length_le, if_pos, if_neg, getD_exs, cnE, cnV, Tryz.ntmps53, Tryz.results53])
    refine DrawQ.any [([0, 1, 2, 3, 4, 5, 6, 7, 8, 9, 10, 11, 12, 13, 14, 15, 16, 17, 18, 19, 20, 21], 22)] [23] [21] (by kernel_rfl) ?_
    repeat' (first | with_reducible first | refine kI (by kernel_rfl) ?_ | simp -implicitDefEqProofs (disch := omega) only [go_sem, Nat.reduceAdd, Nat.reduceSub, reduceCtorEq, Nat.reduceLT, Nat.reduceLeDiff, Nat.reduceEqDiff, Nat.reduceMul, Int.reduceToNat, ↓reduceIte, List.take_of_length_le, if_pos, if_neg, getD_exs, cnE, cnV, Tryz.ntmps53, Tryz.results53,  h2, q])
    refine DrawQ.any [([0, 1, 2, 3, 4, 5, 6], 7)] [8] [6] (by kernel_rfl) ?_
    repeat' (first | with_reducible first | refine kI (by kernel_rfl) ?_ | simp -implicitDefEqProofs (disch := omega) only [go_sem, Nat.reduceAdd, Nat.reduceSub, reduceCtorEq, Nat.reduceLT, Nat.reduceLeDiff, Nat.reduceEqDiff, Nat.reduceMul, Int.reduceToNat, ↓reduceIte, List.take_of_length_le, if_pos, if_neg, getD_exs, cnE, cnV, Tryz.ntmps53, Tryz.results53,  len_exs, hwr, hi, qi, w1])
    try rfl
set_option maxHeartbeats 4000000 in
set_option maxRecDepth 100000 in
theorem law_appK3 {Sg : FuncId → Option (List AV → Option AV)} (hS : Sound Tryz.prog Sg) (h2 : Sg 93 = some (F4 gExpP)) (hcb : Sg 99 = some (F1 gCpB)) (hi : Sg 63 = some (F1 gNum)) : ∀ a r, F2 (gAppK 3) a = some r → CSpec Tryz.prog 53 a r := by
  refine F2_spec ?_
  rintro B ⟨k, n⟩ r hr0
  obtain ⟨⟨⟨hB, ha⟩, hk⟩, rfl⟩ := gd_some hr0
  have hbb := bfB_of hB
  have qc := gCpB_eq (bfM_of hB)
  obtain ⟨⟨⟨k0, k7⟩, hn⟩, hxx⟩ := ha
  dsimp only at hk k0 k7 hn hxx
  subst hk
  obtain ⟨n0, rfl⟩ := list1 hn
  refine CSpec.intro Tryz.func53 rfl (own _) (vc3_sound Tryz.pf hS hS _ _ _ ?_)
  have hd : doneO B ⟨3, [n0]⟩ = expPO B n0 0 flipS := rfl
  have q := gExpP_eq hbb n0 0 flipS
  cases e : expPO B n0 0 flipS with
  | none =>
    rw [e] at q hd
    simp only [bbP, flipS] at q
    rw [appF_no hd]
    repeat' (first | with_reducible first | refine kI (by kernel_rfl) ?_ | simp -implicitDefEqProofs (disch := omega) only [go_sem, Nat.reduceAdd, Nat.reduceSub, reduceCtorEq, Nat.reduceLT, Nat.reduceLeDiff, Nat.reduceEqDiff, Nat.reduceMul, Int.reduceToNat, ↓reduceIte, List.take_of_length_le, if_pos, if_neg, getD_exs, cnE, cnV, Tryz.ntmps53, Tryz.results53])
    refine DrawQ.any [([0, 1, 2, 3, 4, 5, 6, 7, 8, 9], 10)] [11] [9] (by kernel_rfl) ?_
    repeat' (first | with_reducible first | refine kI (by kernel_rfl) ?_ | simp -implicitDefEqProofs (disch := omega) only [go_sem, Nat.reduceAdd, Nat.reduceSub, reduceCtorEq, Nat.reduceLT, Nat.reduceLeDiff, Nat.reduceEqDiff, Nat.reduceMul, Int.reduceToNat, ↓reduceIte, List.take_of_length_le, if_pos, if_neg, getD_exs, cnE, cnV, Tryz.ntmps53, Tryz.results53,  h2, q, hcb, qc])
    try rfl
  | some B' =>
    rw [e] at q hd
    simp only [bbP, flipS] at q
    have h8 := (bufOK_iff.1 (ok_done hB hd)).2.1
    rw [appF_at hd (show (3 : Int) = 1 ∨ (3 : Int) = 2 ∨ (3 : Int) = 3 by decide)]
    have hwr : IntKind.i64.wrap ((B'.e.length : Int) - 1) = (B'.e.length : Int) - 1 := wrap_in (by omega)
    have qi := gNum_eq (n := (B'.e.length : Int) - 1) (by unfold i64R; omega)
    have hnb := numB_len (n := (B'.e.length : Int) - 1) (by unfold i64R; omega)
    have w1 : cAt.size + (numB ((B'.e.length : Int) - 1)).size ≤ 9223372036854775807 := by rw [z_at]; omega
    generalize numB ((B'.e.length : Int) - 1) = S at *
    repeat' (first | with_reducible first | refine kI (by kernel_rfl) ?_ | simp -implicitDefEqProofs (disch := omega) only [go_sem, Nat.reduceAdd, Nat.reduceSub, reduceCtorEq, Nat.reduceLT, Nat.reduceLeDiff, Nat.reduceEqDiff, Nat.reduceMul, Int.reduceToNat, ↓reduceIte, List.take_of_length_le, if_pos, if_neg, getD_exs, cnE, cnV, Tryz.ntmps53, Tryz.results53])
    refine DrawQ.any [([0, 1, 2, 3, 4, 5, 6, 7, 8, 9], 10)] [11] [9] (by kernel_rfl) ?_
    repeat' (first | with_reducible first | refine kI (by kernel_rfl) ?_ | simp -implicitDefEqProofs (disch := omega) only [go_sem, Nat.reduceAdd, Nat.reduceSub, reduceCtorEq, Nat.reduceLT, Nat.reduceLeDiff, Nat.reduceEqDiff, Nat.reduceMul, Int.reduceToNat, ↓reduceIte, List.take_of_length_le, if_pos, if_neg, getD_exs, cnE, cnV, Tryz.ntmps53, Tryz.results53,  h2, q])
    refine DrawQ.any [([0, 1, 2, 3, 4, 5, 6], 7)] [8] [6] (by kernel_rfl) ?_
    repeat' (first | with_reducible first | refine kI (by kernel_rfl) ?_ | simp -implicitDefEqProofs (disch := omega) only [go_sem, Nat.reduceAdd, Nat.reduceSub, reduceCtorEq, Nat.reduceLT, Nat.reduceLeDiff, Nat.reduceEqDiff, Nat.reduceMul, Int.reduceToNat, ↓reduceIte, List.take_of_length_le, if_pos, if_neg, getD_exs, cnE, cnV, Tryz.ntmps53, Tryz.results53,  len_exs, hwr, hi, qi, w1])
    try rfl
set_option maxHeartbeats 4000000 in
set_option maxRecDepth 100000 in
theorem law_appK4 {Sg : FuncId → Option (List AV → Option AV)} (hS : Sound Tryz.prog Sg) (h4 : Sg 94 = some (F3 gFilX)) (hcb : Sg 99 = some (F1 gCpB)) : ∀ a r, F2 (gAppK 4) a = some r → CSpec Tryz.prog 53 a r := by
  refine F2_spec ?_
  rintro B ⟨k, n⟩ r hr0
  obtain ⟨⟨⟨hB, ha⟩, hk⟩, rfl⟩ := gd_some hr0
  have hbb := bfB_of hB
  have qc := gCpB_eq (bfM_of hB)
  obtain ⟨⟨⟨k0, k7⟩, hn⟩, hxx⟩ := ha
  dsimp only at hk k0 k7 hn hxx
  subst hk
  obtain ⟨n0, n1, rfl⟩ := list2 hn
  refine CSpec.intro Tryz.func53 rfl (own _) (vc3_sound Tryz.pf hS hS _ _ _ ?_)
  have hd : doneO B ⟨4, [n0, n1]⟩ = filXO B n0 n1 := rfl
  have q := gFilX_eq hbb n0 n1
  cases e : filXO B n0 n1 with
  | none =>
    rw [e] at q hd
    simp only [bbP] at q
    rw [appF_no hd]
    repeat' (first | with_reducible first | refine kI (by kernel_rfl) ?_ | simp -implicitDefEqProofs (disch := omega) only [go_sem, Nat.reduceAdd, Nat.reduceSub, reduceCtorEq, Nat.reduceLT, Nat.reduceLeDiff, Nat.reduceEqDiff, Nat.reduceMul, Int.reduceToNat, ↓reduceIte, List.take_of_length_le, if_pos, if_neg, getD_exs, cnE, cnV, Tryz.ntmps53, Tryz.results53])
    refine DrawQ.any [([0, 1, 2, 3, 4, 5, 6, 7, 8, 9, 10, 11, 12], 13)] [14] [12] (by kernel_rfl) ?_
    repeat' (first | with_reducible first | refine kI (by kernel_rfl) ?_ | simp -implicitDefEqProofs (disch := omega) only [go_sem, Nat.reduceAdd, Nat.reduceSub, reduceCtorEq, Nat.reduceLT, Nat.reduceLeDiff, Nat.reduceEqDiff, Nat.reduceMul, Int.reduceToNat, ↓reduceIte, List.take_of_length_le, if_pos, if_neg, getD_exs, cnE, cnV, Tryz.ntmps53, Tryz.results53,  h4, q, hcb, qc])
    try rfl
  | some B' =>
    rw [e] at q hd
    simp only [bbP] at q
    rw [appF_do hd (show (4 : Int) ≠ 6 by decide) (show ¬ ((4 : Int) = 1 ∨ (4 : Int) = 2 ∨ (4 : Int) = 3) by decide)]
    repeat' (first | with_reducible first | refine kI (by kernel_rfl) ?_ | simp -implicitDefEqProofs (disch := omega) only [go_sem, Nat.reduceAdd, Nat.reduceSub, reduceCtorEq, Nat.reduceLT, Nat.reduceLeDiff, Nat.reduceEqDiff, Nat.reduceMul, Int.reduceToNat, ↓reduceIte, List.take_of_length_le, if_pos, if_neg, getD_exs, cnE, cnV, Tryz.ntmps53, Tryz.results53])
    refine DrawQ.any [([0, 1, 2, 3, 4, 5, 6, 7, 8, 9, 10, 11, 12], 13)] [14] [12] (by kernel_rfl) ?_
    repeat' (first | with_reducible first | refine kI (by kernel_rfl) ?_ | simp -implicitDefEqProofs (disch := omega) only [go_sem, Nat.reduceAdd, Nat.reduceSub, reduceCtorEq, Nat.reduceLT, Nat.reduceLeDiff, Nat.reduceEqDiff, Nat.reduceMul, Int.reduceToNat, ↓reduceIte, List.take_of_length_le, if_pos, if_neg, getD_exs, cnE, cnV, Tryz.ntmps53, Tryz.results53,  h4, q])
    try rfl
set_option maxHeartbeats 4000000 in
set_option maxRecDepth 100000 in
theorem law_appK5 {Sg : FuncId → Option (List AV → Option AV)} (hS : Sound Tryz.prog Sg) (h5 : Sg 95 = some (F3 gCpyX)) (hcb : Sg 99 = some (F1 gCpB)) : ∀ a r, F2 (gAppK 5) a = some r → CSpec Tryz.prog 53 a r := by
  refine F2_spec ?_
  rintro B ⟨k, n⟩ r hr0
  obtain ⟨⟨⟨hB, ha⟩, hk⟩, rfl⟩ := gd_some hr0
  have hbb := bfB_of hB
  have qc := gCpB_eq (bfM_of hB)
  obtain ⟨⟨⟨k0, k7⟩, hn⟩, hxx⟩ := ha
  dsimp only at hk k0 k7 hn hxx
  subst hk
  obtain ⟨n0, n1, rfl⟩ := list2 hn
  refine CSpec.intro Tryz.func53 rfl (own _) (vc3_sound Tryz.pf hS hS _ _ _ ?_)
  have hd : doneO B ⟨5, [n0, n1]⟩ = cpyXO B n0 n1 := rfl
  have q := gCpyX_eq hbb n0 n1
  cases e : cpyXO B n0 n1 with
  | none =>
    rw [e] at q hd
    simp only [bbP] at q
    rw [appF_no hd]
    repeat' (first | with_reducible first | refine kI (by kernel_rfl) ?_ | simp -implicitDefEqProofs (disch := omega) only [go_sem, Nat.reduceAdd, Nat.reduceSub, reduceCtorEq, Nat.reduceLT, Nat.reduceLeDiff, Nat.reduceEqDiff, Nat.reduceMul, Int.reduceToNat, ↓reduceIte, List.take_of_length_le, if_pos, if_neg, getD_exs, cnE, cnV, Tryz.ntmps53, Tryz.results53])
    refine DrawQ.any [([0, 1, 2, 3, 4, 5, 6, 7, 8, 9, 10, 11, 12], 13)] [14] [12] (by kernel_rfl) ?_
    repeat' (first | with_reducible first | refine kI (by kernel_rfl) ?_ | simp -implicitDefEqProofs (disch := omega) only [go_sem, Nat.reduceAdd, Nat.reduceSub, reduceCtorEq, Nat.reduceLT, Nat.reduceLeDiff, Nat.reduceEqDiff, Nat.reduceMul, Int.reduceToNat, ↓reduceIte, List.take_of_length_le, if_pos, if_neg, getD_exs, cnE, cnV, Tryz.ntmps53, Tryz.results53,  h5, q, hcb, qc])
    try rfl
  | some B' =>
    rw [e] at q hd
    simp only [bbP] at q
    rw [appF_do hd (show (5 : Int) ≠ 6 by decide) (show ¬ ((5 : Int) = 1 ∨ (5 : Int) = 2 ∨ (5 : Int) = 3) by decide)]
    repeat' (first | with_reducible first | refine kI (by kernel_rfl) ?_ | simp -implicitDefEqProofs (disch := omega) only [go_sem, Nat.reduceAdd, Nat.reduceSub, reduceCtorEq, Nat.reduceLT, Nat.reduceLeDiff, Nat.reduceEqDiff, Nat.reduceMul, Int.reduceToNat, ↓reduceIte, List.take_of_length_le, if_pos, if_neg, getD_exs, cnE, cnV, Tryz.ntmps53, Tryz.results53])
    refine DrawQ.any [([0, 1, 2, 3, 4, 5, 6, 7, 8, 9, 10, 11, 12], 13)] [14] [12] (by kernel_rfl) ?_
    repeat' (first | with_reducible first | refine kI (by kernel_rfl) ?_ | simp -implicitDefEqProofs (disch := omega) only [go_sem, Nat.reduceAdd, Nat.reduceSub, reduceCtorEq, Nat.reduceLT, Nat.reduceLeDiff, Nat.reduceEqDiff, Nat.reduceMul, Int.reduceToNat, ↓reduceIte, List.take_of_length_le, if_pos, if_neg, getD_exs, cnE, cnV, Tryz.ntmps53, Tryz.results53,  h5, q])
    try rfl
set_option maxHeartbeats 4000000 in
set_option maxRecDepth 100000 in
theorem law_appK6 {Sg : FuncId → Option (List AV → Option AV)} (hS : Sound Tryz.prog Sg) (ho : Sg 97 = some (F2 gOpn)) (hl : Sg 98 = some (F2 gLoadX)) (hcb : Sg 99 = some (F1 gCpB)) (hi : Sg 63 = some (F1 gNum)) : ∀ a r, F2 (gAppK 6) a = some r → CSpec Tryz.prog 53 a r := by
  refine F2_spec ?_
  rintro B ⟨k, n⟩ r hr0
  obtain ⟨⟨⟨hB, ha⟩, hk⟩, rfl⟩ := gd_some hr0
  have hbb := bfB_of hB
  have qc := gCpB_eq (bfM_of hB)
  obtain ⟨⟨⟨k0, k7⟩, hn⟩, hxx⟩ := ha
  dsimp only at hk k0 k7 hn hxx
  subst hk
  obtain ⟨n0, rfl⟩ := list1 hn
  have hd : doneO B ⟨6, [n0]⟩ = opt (opnB B n0 = true) B := rfl
  have q := gOpn_eq hbb n0
  rw [hB] at q
  cases e : opnB B n0 with
  | false =>
    rw [e] at q hd
    rw [opt_f (by simp)] at hd
    rw [appF_no hd]
    refine CSpec.intro Tryz.func53 rfl (own _) (vc3_sound Tryz.pf hS hS _ _ _ ?_)
    repeat' (first | with_reducible first | refine kI (by kernel_rfl) ?_ | refine kN (by kernel_rfl) ?_ | simp -implicitDefEqProofs (disch := omega) only [go_sem, Nat.reduceAdd, Nat.reduceSub, reduceCtorEq, Nat.reduceLT, Nat.reduceLeDiff, Nat.reduceEqDiff, Nat.reduceMul, Int.reduceToNat, ↓reduceIte, List.take_of_length_le, if_pos, if_neg, getD_exs, cnE, cnV, Tryz.ntmps53, Tryz.results53,  ho, q, hcb, qc])
    try rfl
  | true =>
    rw [e] at q hd
    rw [opt_t rfl] at hd
    obtain ⟨m, rfl, hm, hmo⟩ := opnB_iff.1 e
    have hap : appF B ⟨6, [(m : Int)]⟩ = (B, cHas ++ numsB (tkn B.c (offF (vwB B (m : Int))))) := appF_has hd rfl
    rw [hap]
    have q2 := gLoadX_eq hbb (m : Int)
    have hl4 : loaR B (m : Int) = tkn B.c (offF (vwB B (m : Int))) := if_pos ⟨hB, e⟩
    rw [hl4] at q2
    have hold := opn_hold hB hm hmo
    have h60 := offF_60 (vOK (fit_in hold).2.1).1
    have htl := tkn_len B.c (offF (B.e.getD m ex0).v)
    have htv := tkn_val (bufOK_iff.1 hB).1 (fit_in hold).2.2
    have hvw : vwB B (m : Int) = (B.e.getD m ex0).v := rfl
    rw [hvw] at q2 ⊢
    have htv2 : ∀ x ∈ tkn B.c (offF (B.e.getD m ex0).v), i64R x := fun x hx => by have := htv x hx; unfold i64R; omega
    generalize tkn B.c (offF (B.e.getD m ex0).v) = T at *
    refine CSpec.intro Tryz.func53 rfl (own _) (vc3_sound Tryz.pf hS hS _ _ _ ?_)
    repeat' (first | with_reducible first | refine kI (by kernel_rfl) ?_ | refine kN (by kernel_rfl) ?_ | simp -implicitDefEqProofs (disch := omega) only [go_sem, Nat.reduceAdd, Nat.reduceSub, reduceCtorEq, Nat.reduceLT, Nat.reduceLeDiff, Nat.reduceEqDiff, Nat.reduceMul, Int.reduceToNat, ↓reduceIte, List.take_of_length_le, if_pos, if_neg, getD_exs, cnE, cnV, Tryz.ntmps53, Tryz.results53,  ho, q, hl, q2])
    refine LoopQ.mix (fun t0 L0 nn ss => ∃ (j : Nat) (s : ByteArray) (_ : Unit), (∃ x : Nat → AV, ss = ⟨mixL 0 (.k :: .k :: .k :: .k :: .k :: .k :: .k :: .k :: .v (.str s) :: .k :: .s :: .k :: .k :: .k :: .k :: .k :: .k :: .k :: .k :: .k :: .k :: .k :: .k :: .k :: .k :: .k :: .k :: .v (i64 (j : Nat)) :: .s :: .s :: .s :: .s :: .s :: .s :: .s :: .s :: .s :: .k :: .k :: .k :: .k :: .k :: .k :: .k :: .k :: .k :: .k :: .k :: .k :: .k :: .k :: .k :: .k :: .k :: .k :: .k :: .k :: .k :: .k :: .k :: .k :: .k :: .k :: .k :: .k :: .k :: .k :: .k :: .k :: .k :: .k :: .k :: .k :: .k :: .k :: .k :: .k :: .k :: .k :: .k :: .k :: .k :: .k :: .k :: .k :: .k :: .k :: .k :: .k :: .k :: .k :: .k :: .k :: .k :: .k :: .k :: .k :: .k :: .k :: .k :: .k :: .k :: .k :: .k :: .k :: .k :: .k :: .k :: .k :: .k :: .k :: .k :: .k :: .k :: .k :: .k :: .k :: .k :: .k :: .k :: .k :: .k :: .k :: .k :: .k :: .k :: .k :: .k :: .k :: .k :: .k :: .k :: .k :: .k :: .k :: .k :: .k :: .k :: .k :: .k :: .k :: .k :: .k :: .k :: .k :: .k :: .k :: .k :: .k :: .k :: .k :: .k :: .k :: .k :: .k :: .k :: .k :: .k :: .k :: .k :: .k :: .k :: .k :: .k :: .k :: .k :: .k :: .k :: .k :: .k :: .k :: .k :: .k :: .k :: .k :: .k :: .k :: []) t0 x, L0⟩) ∧ (j ≤ T.length) ∧ (s = cHas ++ numsB (T.take j)) ∧ nn = T.length - j) ?_ ?_
    · exact ⟨_, ⟨0, _, (), mixI rfl, Nat.zero_le _, rfl, rfl⟩⟩
    · rintro I0 hI0 nn ss ⟨j, s, _, ⟨y, rfl⟩, g1, g2, rfl⟩
      by_cases hj : j < T.length
      · have hji : (j : Int) < (T.length : Int) := by omega
        have hx := htv2 _ (gmem hj)
        have qn := gNum_eq hx
        have hl := numsB_len (T.take j) fun x hx => htv2 x (List.mem_of_mem_take hx)
        have hsz : s.size = 3 + (numsB (T.take j)).size := by rw [g2, ByteArray.size_append, z_has]
        rw [List.length_take] at hl
        have hs := numsB_s hj
        have hb := numB_len hx
        have hs2 : s ++ (cSp ++ numB (T.getD j 0)) = cHas ++ numsB (T.take (j + 1)) := by
          rw [g2, ← hs, ByteArray.append_assoc, ByteArray.append_assoc]
        have w0 : cSp.size + (numB (T.getD j 0)).size ≤ 9223372036854775807 := by rw [z_sp]; omega
        obtain ⟨A, hA⟩ : ∃ A, cSp ++ numB (T.getD j 0) = A := ⟨_, rfl⟩
        have hAs : A.size = 1 + (numB (T.getD j 0)).size := by rw [← hA, ByteArray.size_append, z_sp]
        have w2 : s.size + A.size ≤ 9223372036854775807 := by omega
        rw [hA] at hs2
        generalize numB (T.getD j 0) = N at *
        repeat' (first | with_reducible first | refine kI (by kernel_rfl) ?_ | refine kN (by kernel_rfl) ?_ | simp -implicitDefEqProofs (disch := omega) only [go_sem, Nat.reduceAdd, Nat.reduceSub, reduceCtorEq, Nat.reduceLT, Nat.reduceLeDiff, Nat.reduceEqDiff, Nat.reduceMul, Int.reduceToNat, ↓reduceIte, List.take_of_length_le, if_pos, if_neg, getD_exs, cnE, cnV, Tryz.ntmps53, Tryz.results53,  hji, getD_ints hj, hi, qn, w0, w2, hA, hs2])
        exact ⟨T.length - (j + 1), by omega, hI0 _ _ ⟨j + 1, _, (), mixI rfl, hj, rfl, rfl⟩⟩
      · obtain rfl : j = T.length := by omega
        rw [List.take_length] at g2
        rw [← g2]
        repeat' (first | with_reducible first | refine kI (by kernel_rfl) ?_ | refine kN (by kernel_rfl) ?_ | simp -implicitDefEqProofs (disch := omega) only [go_sem, Nat.reduceAdd, Nat.reduceSub, reduceCtorEq, Nat.reduceLT, Nat.reduceLeDiff, Nat.reduceEqDiff, Nat.reduceMul, Int.reduceToNat, ↓reduceIte, List.take_of_length_le, if_pos, if_neg, getD_exs, cnE, cnV, Tryz.ntmps53, Tryz.results53,  hcb, qc])
        try rfl
set_option maxHeartbeats 4000000 in
set_option maxRecDepth 100000 in
theorem law_appK7 {Sg : FuncId → Option (List AV → Option AV)} (hS : Sound Tryz.prog Sg) (h7 : Sg 96 = some (F2 gRelX)) (hcb : Sg 99 = some (F1 gCpB)) : ∀ a r, F2 (gAppK 7) a = some r → CSpec Tryz.prog 53 a r := by
  refine F2_spec ?_
  rintro B ⟨k, n⟩ r hr0
  obtain ⟨⟨⟨hB, ha⟩, hk⟩, rfl⟩ := gd_some hr0
  have hbb := bfB_of hB
  have qc := gCpB_eq (bfM_of hB)
  obtain ⟨⟨⟨k0, k7⟩, hn⟩, hxx⟩ := ha
  dsimp only at hk k0 k7 hn hxx
  subst hk
  obtain ⟨n0, rfl⟩ := list1 hn
  refine CSpec.intro Tryz.func53 rfl (own _) (vc3_sound Tryz.pf hS hS _ _ _ ?_)
  have hd : doneO B ⟨7, [n0]⟩ = relXO B n0 := rfl
  have q := gRelX_eq hbb n0
  cases e : relXO B n0 with
  | none =>
    rw [e] at q hd
    simp only [bbP] at q
    rw [appF_no hd]
    repeat' (first | with_reducible first | refine kI (by kernel_rfl) ?_ | simp -implicitDefEqProofs (disch := omega) only [go_sem, Nat.reduceAdd, Nat.reduceSub, reduceCtorEq, Nat.reduceLT, Nat.reduceLeDiff, Nat.reduceEqDiff, Nat.reduceMul, Int.reduceToNat, ↓reduceIte, List.take_of_length_le, if_pos, if_neg, getD_exs, cnE, cnV, Tryz.ntmps53, Tryz.results53])
    refine DrawQ.any [([0, 1, 2, 3, 4, 5, 6, 7, 8], 9)] [10] [8] (by kernel_rfl) ?_
    repeat' (first | with_reducible first | refine kI (by kernel_rfl) ?_ | simp -implicitDefEqProofs (disch := omega) only [go_sem, Nat.reduceAdd, Nat.reduceSub, reduceCtorEq, Nat.reduceLT, Nat.reduceLeDiff, Nat.reduceEqDiff, Nat.reduceMul, Int.reduceToNat, ↓reduceIte, List.take_of_length_le, if_pos, if_neg, getD_exs, cnE, cnV, Tryz.ntmps53, Tryz.results53,  h7, q, hcb, qc])
    try rfl
  | some B' =>
    rw [e] at q hd
    simp only [bbP] at q
    rw [appF_do hd (show (7 : Int) ≠ 6 by decide) (show ¬ ((7 : Int) = 1 ∨ (7 : Int) = 2 ∨ (7 : Int) = 3) by decide)]
    repeat' (first | with_reducible first | refine kI (by kernel_rfl) ?_ | simp -implicitDefEqProofs (disch := omega) only [go_sem, Nat.reduceAdd, Nat.reduceSub, reduceCtorEq, Nat.reduceLT, Nat.reduceLeDiff, Nat.reduceEqDiff, Nat.reduceMul, Int.reduceToNat, ↓reduceIte, List.take_of_length_le, if_pos, if_neg, getD_exs, cnE, cnV, Tryz.ntmps53, Tryz.results53])
    refine DrawQ.any [([0, 1, 2, 3, 4, 5, 6, 7, 8], 9)] [10] [8] (by kernel_rfl) ?_
    repeat' (first | with_reducible first | refine kI (by kernel_rfl) ?_ | simp -implicitDefEqProofs (disch := omega) only [go_sem, Nat.reduceAdd, Nat.reduceSub, reduceCtorEq, Nat.reduceLT, Nat.reduceLeDiff, Nat.reduceEqDiff, Nat.reduceMul, Int.reduceToNat, ↓reduceIte, List.take_of_length_le, if_pos, if_neg, getD_exs, cnE, cnV, Tryz.ntmps53, Tryz.results53,  h7, q])
    try rfl
set_option maxHeartbeats 4000000 in
set_option maxRecDepth 100000 in
theorem spec_applyActI {Sg : FuncId → Option (List AV → Option AV)} (hS : Sound Tryz.prog Sg) (h0 : Sg 91 = some (F2 gRszX)) (h1 : Sg 92 = some (F2 gExpV)) (h2 : Sg 93 = some (F4 gExpP)) (h4 : Sg 94 = some (F3 gFilX)) (h5 : Sg 95 = some (F3 gCpyX)) (h7 : Sg 96 = some (F2 gRelX)) (ho : Sg 97 = some (F2 gOpn)) (hl : Sg 98 = some (F2 gLoadX)) (hcb : Sg 99 = some (F1 gCpB)) (hi : Sg 63 = some (F1 gNum)) : ∀ a r, F2 gAppI a = some r → CSpec Tryz.prog 53 a r := by
  refine F2_spec ?_
  intro B a r hr0
  obtain ⟨⟨hB, ha⟩, rfl⟩ := gd_some hr0
  have hk := ha.1.1
  have e : ∀ j, a.k = j → F2 (gAppK j) [enc 0 B, enc 0 a] = some (enc 1 (appF B a)) := fun j hj => by
    simp only [F2, (ok _ _).2 rfl, Option.bind_some]
    rw [gAppK_eq hB ha hj]; rfl
  rcases (by omega : a.k = 0 ∨ a.k = 1 ∨ a.k = 2 ∨ a.k = 3 ∨ a.k = 4 ∨ a.k = 5 ∨ a.k = 6 ∨ a.k = 7) with h | h | h | h | h | h | h | h
  · exact law_appK0 hS h0 hcb _ _ (e 0 h)
  · exact law_appK1 hS h1 hcb hi _ _ (e 1 h)
  · exact law_appK2 hS h2 hcb hi _ _ (e 2 h)
  · exact law_appK3 hS h2 hcb hi _ _ (e 3 h)
  · exact law_appK4 hS h4 hcb _ _ (e 4 h)
  · exact law_appK5 hS h5 hcb _ _ (e 5 h)
  · exact law_appK6 hS ho hl hcb hi _ _ (e 6 h)
  · exact law_appK7 hS h7 hcb _ _ (e 7 h)
end Go.Proofs.YtkmnepmnjpdpkaaGreatDoor
