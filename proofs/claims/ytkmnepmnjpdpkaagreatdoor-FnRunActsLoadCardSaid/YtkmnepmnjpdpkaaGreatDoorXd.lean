/- Contracts of functions that the laws of this seat call. -/
import Derived.Test.YtkmnepmnjpdpkaaGreatDoorXc
set_option linter.all false
namespace Go.Proofs.YtkmnepmnjpdpkaaGreatDoor
open Go Go.Ev Go.RowKit Go.Ev.Enc Go.Pl

theorem exp_bfR (B : Bf) : exp 1 (bfN B 0) (bfR B 0) = enc 1 B := by
  have := exp_bb (some B)
  simp only [bbN, bbR, bbP, exp, List.map_cons, enc_pairB, AV.tup.injEq, List.cons.injEq] at this
  exact this.1
set_option maxHeartbeats 4000000 in
set_option maxRecDepth 100000 in
theorem spec_ReleaseExportI {Sg : FuncId → Option (List AV → Option AV)} (hS : Sound Tryz.prog Sg) (ho : Sg 97 = some (F2 gOpn)) (hk : Sg 134 = some (F2 gKidT)) (n1 : Sg 99 = none) : ∀ a r, F2 gRelX a = some r → CSpec Tryz.prog 96 a r := by
  refine F2_spec ?_
  have hcbI : CpBI := fun B h => o_copyBufferI (hS.hide 130) (if_pos rfl) B h
  intro B id r hr0
  obtain ⟨h, rfl⟩ := gd_some hr0
  refine CSpec.intro Tryz.func96 rfl (own _) (vc3_sound Tryz.pf hS hS _ _ _ ?_)
  have q2 := gOpn_eq h id
  unfold relXO
  cases e1 : bufOK B with
  | false =>
    rw [e1] at q2
    rw [opt_f (by simp)]
    repeat' (first | with_reducible first | refine kI (by kernel_rfl) ?_ | refine kN (by kernel_rfl) ?_ | simp -implicitDefEqProofs (disch := omega) only [go_sem, Nat.reduceAdd, Nat.reduceSub, reduceCtorEq, Nat.reduceLT, Nat.reduceLeDiff, Nat.reduceEqDiff, ↓reduceIte, List.take_of_length_le, if_pos, if_neg, getD_exs, cnE, cnV, Tryz.ntmps96, Tryz.results96,  ho, q2])
    try rfl
  | true =>
    cases e2 : opnB B id with
    | false =>
      rw [e1, e2] at q2
      rw [opt_f (by simp)]
      repeat' (first | with_reducible first | refine kI (by kernel_rfl) ?_ | refine kN (by kernel_rfl) ?_ | simp -implicitDefEqProofs (disch := omega) only [go_sem, Nat.reduceAdd, Nat.reduceSub, reduceCtorEq, Nat.reduceLT, Nat.reduceLeDiff, Nat.reduceEqDiff, ↓reduceIte, List.take_of_length_le, if_pos, if_neg, getD_exs, cnE, cnV, Tryz.ntmps96, Tryz.results96,  ho, q2])
      try rfl
    | true =>
      rw [e1, e2] at q2
      obtain ⟨k, rfl, hkk, hko⟩ := opnB_iff.1 e2
      have q3 := gKidT_eq h (k : Int)
      rw [if_pos ⟨e1, by unfold inR; simp; omega⟩] at q3
      rw [Int.toNat_natCast]
      by_cases e3 : kidF B (k : Int) = []
      · rw [e3] at q3
        rw [opt_t ⟨rfl, rfl, e3⟩]
        have hge := getD_exs (t := 1) hkk
        have hse := set_exs 1 B.e k (B.e.getD k ex0)
        have hcl : (cloE B.e k).length = B.e.length := List.length_set
        have he : B.e ≠ [] := by intro he; rw [he] at hkk; simp at hkk
        have hx := fun n => exR_ne (n := n) he
        have hN := exN_ne he
        have htk : List.take B.e.length (B.e.set k ⟨(B.e.getD k ex0).p, (B.e.getD k ex0).v, false⟩) = cloE B.e k := List.take_of_length_le (by simp)
        repeat' (first | with_reducible first | refine kI (by kernel_rfl) ?_ | refine kN (by kernel_rfl) ?_ | simp -implicitDefEqProofs (disch := omega) only [go_sem, Nat.reduceAdd, Nat.reduceSub, reduceCtorEq, Nat.reduceLT, Nat.reduceLeDiff, Nat.reduceEqDiff, ↓reduceIte, List.take_of_length_le, if_pos, if_neg, getD_exs, cnE, cnV, Tryz.ntmps96, Tryz.results96,  ho, q2, hk, q3, n1, opQ_none])
        refine InlK_intro rfl rfl can_copyBufferI ((hcbI B (bfM_of e1)).call (by simp only [go_sem, ints]) ?_)
        repeat' (first | with_reducible first | refine kI (by kernel_rfl) ?_ | refine kN (by kernel_rfl) ?_ | simp -implicitDefEqProofs (disch := omega) only [go_sem, Nat.reduceAdd, Nat.reduceSub, reduceCtorEq, Nat.reduceLT, Nat.reduceLeDiff, Nat.reduceEqDiff, ↓reduceIte, List.take_of_length_le, if_pos, if_neg, getD_exs, cnE, cnV, Tryz.ntmps96, Tryz.results96,  hx, hN, hge, hse, htk])
        try rfl
      · have e3' : (0 : Int) < ((kidF B (k : Int)).length : Int) := by
          have := List.length_pos_iff.2 e3
          omega
        rw [opt_f (by simp [e3])]
        repeat' (first | with_reducible first | refine kI (by kernel_rfl) ?_ | refine kN (by kernel_rfl) ?_ | simp -implicitDefEqProofs (disch := omega) only [go_sem, Nat.reduceAdd, Nat.reduceSub, reduceCtorEq, Nat.reduceLT, Nat.reduceLeDiff, Nat.reduceEqDiff, ↓reduceIte, List.take_of_length_le, if_pos, if_neg, getD_exs, cnE, cnV, Tryz.ntmps96, Tryz.results96,  ho, q2, hk, q3, e3'])
        try rfl
set_option maxHeartbeats 4000000 in
set_option maxRecDepth 100000 in
theorem spec_copyBufferI {Sg : FuncId → Option (List AV → Option AV)} (hS : Sound Tryz.prog Sg) : ∀ a r, F1 gCpB a = some r → CSpec Tryz.prog 99 a r := by
  refine F1_spec ?_
  intro B r hr
  obtain ⟨h, rfl⟩ := gd_some hr
  refine (o_copyBufferI (hS.hide 130) (if_pos rfl) B h).cspec ?_ (own B) (exp_bfR _)
  show [_] = [_]
  rw [map_bf0]
theorem ov_rsz (c : List Int) (m : Nat) : overwrite ((List.replicate m (0 : Int)).map fun n => AV.int .i64 n) 0 ((c.take m).map fun n => .int .i64 n) = (rszC c m).map fun n => .int .i64 n := by
  unfold overwrite rszC rszK
  simp only [List.take_zero, List.nil_append, Nat.zero_add, List.length_map, List.length_take, ← List.map_drop, ← List.map_append, List.drop_replicate]
  congr 2
  rcases Nat.le_total m c.length with hm | hm
  · rw [Nat.min_eq_left hm]
  · rw [Nat.min_eq_right hm, List.take_of_length_le hm, List.take_of_length_le (Nat.le_refl _)]
set_option maxHeartbeats 4000000 in
set_option maxRecDepth 100000 in
theorem spec_ResizeBufferI {Sg : FuncId → Option (List AV → Option AV)} (hS : Sound Tryz.prog Sg) (hb : Sg 61 = some (F1 gBuf)) (ha : Sg 60 = some (F1 gAreCells)) (ho : Sg 26 = some (F1 gOpF)) (hcb : Sg 99 = some (F1 gCpB)) : ∀ a r, F2 gRszX a = some r → CSpec Tryz.prog 91 a r := by
  refine F2_spec ?_
  intro B n r hr0
  obtain ⟨h, rfl⟩ := gd_some hr0
  refine CSpec.intro Tryz.func91 rfl (own _) (vc3_sound Tryz.pf hS hS _ _ _ ?_)
  have q1 := gBuf_eq h
  have q2 := gOpF_eq h
  unfold rszXO
  cases e1 : bufOK B with
  | false =>
    rw [e1] at q1
    rw [opt_f (by simp)]
    repeat' (first | with_reducible first | refine kI (by kernel_rfl) ?_ | refine kN (by kernel_rfl) ?_ | simp -implicitDefEqProofs (disch := omega) only [go_sem, Nat.reduceAdd, Nat.reduceSub, reduceCtorEq, Nat.reduceLT, Nat.reduceLeDiff, Nat.reduceEqDiff, ↓reduceIte, List.take_of_length_le, if_pos, if_neg, getD_exs, cnE, cnV, Tryz.ntmps91, Tryz.results91,  hb, q1])
    try rfl
  | true =>
    rw [e1] at q1
    rw [e1, if_pos rfl] at q2
    have q4 := gCpB_eq (bfM_of e1)
    cases e2 : inR n 0 60 with
    | false =>
      have q3 := gAreCells_eq n
      rw [e2] at q3
      rw [opt_f (by simp)]
      repeat' (first | with_reducible first | refine kI (by kernel_rfl) ?_ | refine kN (by kernel_rfl) ?_ | simp -implicitDefEqProofs (disch := omega) only [go_sem, Nat.reduceAdd, Nat.reduceSub, reduceCtorEq, Nat.reduceLT, Nat.reduceLeDiff, Nat.reduceEqDiff, ↓reduceIte, List.take_of_length_le, if_pos, if_neg, getD_exs, cnE, cnV, Tryz.ntmps91, Tryz.results91,  hb, q1, ha, q3])
      try rfl
    | true =>
      have q3 := gAreCells_eq n
      rw [e2] at q3
      unfold inR at e2
      simp only [Bool.and_eq_true, decide_eq_true_eq] at e2
      obtain ⟨m, rfl⟩ : ∃ m : Nat, n = m := ⟨n.toNat, by omega⟩
      rw [Int.toNat_natCast]
      have hm : m ≤ 60 := by omega
      by_cases e3 : opF B = []
      · rw [e3] at q2
        rw [opt_t ⟨rfl, rfl, e3⟩]
        have hov := ov_rsz B.c m
        have htk : List.take m (rszC B.c m) = rszC B.c m := List.take_of_length_le (by rw [rszC_len]; exact Nat.le_refl _)
        repeat' (first | with_reducible first | refine kI (by kernel_rfl) ?_ | refine kN (by kernel_rfl) ?_ | simp -implicitDefEqProofs (disch := omega) only [go_sem, Nat.reduceAdd, Nat.reduceSub, reduceCtorEq, Nat.reduceLT, Nat.reduceLeDiff, Nat.reduceEqDiff, ↓reduceIte, List.take_of_length_le, if_pos, if_neg, getD_exs, cnE, cnV, Tryz.ntmps91, Tryz.results91,  hb, q1, ha, q3, ho, q2, hcb, q4, evCopy, hov, rszC_len, htk])
        try rfl
      · have e3' : (0 : Int) < ((opF B).length : Int) := by
          have := List.length_pos_iff.2 e3
          omega
        rw [opt_f (by simp [e3])]
        repeat' (first | with_reducible first | refine kI (by kernel_rfl) ?_ | refine kN (by kernel_rfl) ?_ | simp -implicitDefEqProofs (disch := omega) only [go_sem, Nat.reduceAdd, Nat.reduceSub, reduceCtorEq, Nat.reduceLT, Nat.reduceLeDiff, Nat.reduceEqDiff, ↓reduceIte, List.take_of_length_le, if_pos, if_neg, getD_exs, cnE, cnV, Tryz.ntmps91, Tryz.results91,  hb, q1, ha, q3, ho, q2, e3'])
        try rfl
end Go.Proofs.YtkmnepmnjpdpkaaGreatDoor
