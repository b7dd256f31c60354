/- Contracts of functions that the laws of this seat call. -/
import Derived.Test.YtkmnepmnjpdpkaaGreatDoorXj
set_option linter.all false
namespace Go.Proofs.YtkmnepmnjpdpkaaGreatDoor
open Go Go.Ev Go.RowKit Go.Ev.Enc Go.Pl

set_option maxHeartbeats 8000000 in
set_option maxRecDepth 100000 in
theorem law_ApplyActOpen {Sg Sd : FuncId → Option (List AV → Option AV)} (hS : Sound Tryz.prog Sg) (hD : Sound Tryz.prog Sd) (n1 : Sg 28 = none) (h1 : Sg 20 = some (F2 gAppX)) (h2 : Sg 29 = some (F2 gAppX)) (h3 : Sg 16 = some (F2 gEqB)) (h4 : Sg 26 = some (F1 gOpF)) (h5 : Sd 30 = some (F2 gFitsT)) (hDr : DrApp) : ∀ a r, F1 gTrueW a = some r → CSpec Tryz.prog 6 a r := by
  refine F1_spec ?_
  intro bs r hr
  obtain ⟨g1, rfl⟩ := gd_some hr
  refine law3 Tryz.func6 rfl Tryz.pf hS hD ?_
  by_cases hb : 1048576 < bs.length
  · repeat' (first | with_reducible first | refine kI (by kernel_rfl) ?_ | refine kN (by kernel_rfl) ?_ | simp -implicitDefEqProofs (disch := omega) only [go_sem, Nat.reduceAdd, Nat.reduceSub, reduceCtorEq, Nat.reduceLT, Nat.reduceLeDiff, Nat.reduceEqDiff, Nat.reduceMul, Int.reduceToNat, ↓reduceIte, List.take_of_length_le, if_pos, if_neg, List.getElem?_set_self, List.set_set, getD_exs, cnE, cnV, Tryz.ntmps6, Tryz.results6])
  · repeat' (first | with_reducible first | refine kI (by kernel_rfl) ?_ | refine kN (by kernel_rfl) ?_ | simp -implicitDefEqProofs (disch := omega) only [go_sem, Nat.reduceAdd, Nat.reduceSub, reduceCtorEq, Nat.reduceLT, Nat.reduceLeDiff, Nat.reduceEqDiff, Nat.reduceMul, Int.reduceToNat, ↓reduceIte, List.take_of_length_le, if_pos, if_neg, List.getElem?_set_self, List.set_set, getD_exs, cnE, cnV, Tryz.ntmps6, Tryz.results6,  n1, opQ_none])
    refine InlK_intro rfl rfl can_DrawApplyAct ((hDr bs (by omega) _).mono ?_)
    rintro r L1 ⟨B, ⟨k, n⟩, hB, ha, rfl, rfl⟩
    have q1 := gAppX_eq (B := B) (a := ⟨k, n⟩) ⟨hB.1, by dsimp only at ha ⊢; omega⟩
    cases e : appO B ⟨k, n⟩ with
    | none =>
      rw [e] at q1
      simp only [btP] at q1
      have q3 := gEqB_eq bfB0 bfB0
      rw [decide_eq_true rfl] at q3
      have s1 := strEq_t ⟨#[]⟩
      repeat' (first | with_reducible first | refine kI (by kernel_rfl) ?_ | refine kN (by kernel_rfl) ?_ | simp -implicitDefEqProofs (disch := omega) only [go_sem, Nat.reduceAdd, Nat.reduceSub, reduceCtorEq, Nat.reduceLT, Nat.reduceLeDiff, Nat.reduceEqDiff, Nat.reduceMul, Int.reduceToNat, ↓reduceIte, List.take_of_length_le, if_pos, if_neg, List.getElem?_set_self, List.set_set, getD_exs, cnE, cnV, Tryz.ntmps6, Tryz.results6,  h1, q1, h2, h3, q3, s1])
    | some p =>
      rw [e] at q1
      simp only [btP] at q1
      obtain ⟨⟨c1, c2⟩, hp⟩ := appO_some e
      have hok := app_ok (a := ⟨k, n⟩) c1
      have hne := app_ne (B := B) (a := ⟨k, n⟩)
      have hle := (app_e (B := B) (a := ⟨k, n⟩)).1
      have hop := (app_e (B := B) (a := ⟨k, n⟩)).2
      rw [hp] at hok hne hle hop
      obtain ⟨B', s⟩ := p
      dsimp only at hok hne hle hop
      have q3 := gEqB_eq (bfB_of hok) (bfB_of hok)
      rw [decide_eq_true rfl] at q3
      have q4 := gOpF_eq (bfB_of hok)
      rw [if_pos hok] at q4
      have s1 := strEq_t s
      have s2 := strEq_f hne
      have hol := opF_len B'
      have h8 := (bufOK_iff.1 hok).2.1
      have h60 := (memOK_iff.1 (bufOK_iff.1 hok).1).1
      have hlt := fun x => @opF_lt B' x
      have hmm := fun k => @opF_mem B' k
      generalize opF B' = O at *
      repeat' (first | with_reducible first | refine kI (by kernel_rfl) ?_ | refine kN (by kernel_rfl) ?_ | simp -implicitDefEqProofs (disch := omega) only [go_sem, Nat.reduceAdd, Nat.reduceSub, reduceCtorEq, Nat.reduceLT, Nat.reduceLeDiff, Nat.reduceEqDiff, Nat.reduceMul, Int.reduceToNat, ↓reduceIte, List.take_of_length_le, if_pos, if_neg, List.getElem?_set_self, List.set_set, getD_exs, cnE, cnV, Tryz.ntmps6, Tryz.results6,  h1, q1, h2, h3, q3, h4, q4, s1, s2])
      refine LoopQ.mix (fun t0 L0 nn ss => ∃ (i : Nat) (_ : Unit), (∃ x : Nat → AV, ss = ⟨mixL 0 (.k :: .k :: .s :: .k :: .k :: .k :: .k :: .k :: .k :: .k :: .v (i64 (i : Nat)) :: .k :: .k :: .k :: .k :: .k :: .k :: .k :: .k :: .k :: .k :: .k :: .k :: .k :: .k :: .k :: .k :: .k :: .k :: .k :: .k :: .k :: .k :: .k :: .k :: .k :: .k :: .k :: .k :: .k :: .k :: .k :: .k :: .k :: .k :: .k :: .k :: .k :: .k :: .k :: .k :: .k :: .k :: .k :: .s :: .s :: .s :: .s :: .s :: .s :: .s :: .s :: .s :: .s :: .s :: .s :: .s :: .s :: .s :: .s :: .s :: .s :: .s :: .s :: .s :: .s :: .s :: .s :: .s :: .s :: .s :: .s :: .s :: .s :: .s :: .s :: .s :: .s :: .s :: .s :: .s :: .s :: .s :: .s :: .s :: .s :: .k :: .k :: .k :: .k :: .k :: .k :: .k :: .k :: .k :: .k :: .k :: .k :: .k :: .k :: .k :: .k :: .k :: []) t0 x, L0⟩) ∧ (i ≤ O.length) ∧ nn = O.length - i) ?_ ?_
      · exact ⟨_, ⟨0, (), mixI rfl, Nat.zero_le _, rfl⟩⟩
      · rintro I0 hI0 nn ss ⟨i, _, ⟨y, rfl⟩, f1, rfl⟩
        by_cases hi : i < O.length
        · have hii : (i : Int) < (O.length : Int) := by omega
          have hgo := getD_ints hi
          have hmem := gmem hi
          obtain ⟨j, hj⟩ : ∃ j : Nat, O.getD i 0 = j := ⟨(O.getD i 0).toNat, by have := hlt _ hmem; omega⟩
          rw [hj] at hgo hmem
          obtain ⟨hj1, hj2⟩ := (hmm j).1 hmem
          have hge := getD_exs (t := 1) hj1
          have hex := exOK_iff.1 ((bufOK_iff.1 hok).2.2 j hj1)
          have qf := gFitsT_eq (ok_viB hex.2.1) (B'.c.length : Int)
          have hir : inR (B'.c.length : Int) 0 60 = true := by unfold inR; simp; omega
          rw [hex.2.1, hir, (hex.2.2 hj2).1] at qf
          have hjl : j < B'.e.length := hj1
          by_cases hjb : j < B.e.length
          · have hjb' : (j : Int) < (B.e.length : Int) := by omega
            have ho := hop j hjb hj2
            have hgb := getD_exs (t := 1) hjb
            rw [ho] at hgb
            repeat' (first | with_reducible first | refine kI (by kernel_rfl) ?_ | refine kN (by kernel_rfl) ?_ | simp -implicitDefEqProofs (disch := omega) only [go_sem, Nat.reduceAdd, Nat.reduceSub, reduceCtorEq, Nat.reduceLT, Nat.reduceLeDiff, Nat.reduceEqDiff, Nat.reduceMul, Int.reduceToNat, ↓reduceIte, List.take_of_length_le, if_pos, if_neg, List.getElem?_set_self, List.set_set, getD_exs, cnE, cnV, Tryz.ntmps6, Tryz.results6,  hii, hgo, hge, h5, qf, hjl, hjb', hjb, hgb])
            exact ⟨O.length - (i + 1), by omega, hI0 _ _ ⟨i + 1, (), mixI rfl, hi, rfl⟩⟩
          · have hjb' : ¬ (j : Int) < (B.e.length : Int) := by omega
            repeat' (first | with_reducible first | refine kI (by kernel_rfl) ?_ | refine kN (by kernel_rfl) ?_ | simp -implicitDefEqProofs (disch := omega) only [go_sem, Nat.reduceAdd, Nat.reduceSub, reduceCtorEq, Nat.reduceLT, Nat.reduceLeDiff, Nat.reduceEqDiff, Nat.reduceMul, Int.reduceToNat, ↓reduceIte, List.take_of_length_le, if_pos, if_neg, List.getElem?_set_self, List.set_set, getD_exs, cnE, cnV, Tryz.ntmps6, Tryz.results6,  hii, hgo, hge, h5, qf, hjl, hjb'])
            exact ⟨O.length - (i + 1), by omega, hI0 _ _ ⟨i + 1, (), mixI rfl, hi, rfl⟩⟩
        · obtain rfl : i = O.length := by omega
          have hl1 : (B.e.length : Int) ≤ (B'.e.length : Int) := by omega
          have hl2 : (B'.e.length : Int) ≤ (B.e.length : Int) + 1 := by omega
          repeat' (first | with_reducible first | refine kI (by kernel_rfl) ?_ | refine kN (by kernel_rfl) ?_ | simp -implicitDefEqProofs (disch := omega) only [go_sem, Nat.reduceAdd, Nat.reduceSub, reduceCtorEq, Nat.reduceLT, Nat.reduceLeDiff, Nat.reduceEqDiff, Nat.reduceMul, Int.reduceToNat, ↓reduceIte, List.take_of_length_le, if_pos, if_neg, List.getElem?_set_self, List.set_set, getD_exs, cnE, cnV, Tryz.ntmps6, Tryz.results6,  hl1, hl2])
end Go.Proofs.YtkmnepmnjpdpkaaGreatDoor
