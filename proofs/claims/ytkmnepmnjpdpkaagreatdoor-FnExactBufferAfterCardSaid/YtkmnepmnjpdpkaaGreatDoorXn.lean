/- Contracts of functions that the laws of this seat call. -/
import Derived.Test.YtkmnepmnjpdpkaaGreatDoorXm
set_option linter.all false
namespace Go.Proofs.YtkmnepmnjpdpkaaGreatDoor
open Go Go.Ev Go.RowKit Go.Ev.Enc Go.Pl

theorem dig_conv {c : UInt8} (h : ¬ c.toNat < 48) : IntKind.i64.wrap (IntKind.u8.wrap ((c.toNat : Int) - 48)) = ((c.toNat - 48 : Nat) : Int) := by
  have hc : c.toNat < 256 := UInt8.toNat_lt c
  rw [IntWalk.u8_in _ (by omega), wrap_in (by omega)]
  omega
theorem rdF_none {w : List UInt8} (h : rdW w = none) : rdF w = (0, false) := by unfold rdF; rw [h]
theorem rdF_some {w : List UInt8} {n : Int} (h : rdW w = some n) : rdF w = (n, decide (w = Lib.itoa n)) := by unfold rdF; rw [h]
theorem rdW_neg {w : List UInt8} (h : w.getD 0 0 = 45 ∧ 0 < w.length) : rdW w = Option.map (fun n : Nat => -(n : Int)) (rdL (w.drop 1) 0) := by
  unfold rdW
  match w, h with
  | c :: t, h =>
    have : c = 45 := h.1
    subst this
    simp
theorem rdW_pos {w : List UInt8} (h : ¬ (w.getD 0 0 = 45 ∧ 0 < w.length)) : rdW w = Option.map (fun n : Nat => (n : Int)) (rdL (w.drop 0) 0) := by
  unfold rdW
  match w, h with
  | [], h => simp
  | c :: t, h =>
    have : c ≠ 45 := fun e => h ⟨e, by simp⟩
    rw [if_neg (by simpa using this)]
    rfl
theorem rd_no {c : UInt8} {m : Nat} (h : c.toNat < 48 ∨ 57 < c.toNat ∨ 99 < m) : rdL [c] m = none := by
  rw [rdL, if_pos h]
theorem rd_yes {c : UInt8} {m : Nat} (h : ¬ (c.toNat < 48 ∨ 57 < c.toNat ∨ 99 < m)) : rdL [c] m = some (10 * m + (c.toNat - 48)) := by
  rw [rdL, if_neg h]; rfl
theorem rd_stop {S : List UInt8} {i m a : Nat} (ha : a ≤ i) (hi : i < S.length) (h : rdL ((S.drop a).take (i - a)) 0 = some m) (hn : rdL [S.getD i 0] m = none) : rdL (S.drop a) 0 = none := by
  have e := List.take_append_drop (i + 1 - a) (S.drop a)
  rw [← e]
  apply rd_more
  rw [rd_step ha hi h, hn]
theorem enc_pairI (t : Nat) (p : Int × Bool) : (enc t p : AV) = .tup [.int .i64 p.1, .bool p.2] := rfl
attribute [go_sem] enc_pairI
theorem num_cmp (s : ByteArray) (n : Int) : (s.toList == (numB n).toList) = decide (s.data.toList = Lib.itoa n) := by
  rw [strEq]
  congr 1
  apply propext
  unfold numB
  constructor
  · rintro rfl; exact data_bs _
  · intro h; rw [← h, bs_data]
set_option maxHeartbeats 4000000 in
set_option maxRecDepth 100000 in
theorem spec_readNumber {Sg : FuncId → Option (List AV → Option AV)} (hS : Sound Tryz.prog Sg) (hn : Sg 104 = some (F1 gNum)) : ∀ a r, F1 gRd a = some r → CSpec Tryz.prog 124 a r := by
  refine F1_spec ?_
  intro s r hr
  obtain ⟨h, rfl⟩ := gd_some hr
  have hz := sz_data s
  refine CSpec.intro Tryz.func124 rfl (own _) (vc3_sound Tryz.pf hS hS _ _ _ ?_)
  by_cases hneg : s.data.toList.getD 0 0 = 45 ∧ 0 < s.data.toList.length
  · have hrw := rdW_neg hneg
    have h0 : (0 : Int) < (s.size : Int) := by have := hneg.2; omega
    have hne : s ≠ ⟨#[]⟩ := by rintro rfl; exact absurd hneg.2 (by decide)
    have s1 := strEq_f hne
    have s2 : (((s.data.toList.getD 0 0).toNat : Int) == 45) = true := by rw [hneg.1]; rfl
    have h1 := hneg.2
    clear hneg
    generalize hS : s.data.toList = S at *
    repeat' (first | with_reducible first | refine kI (by kernel_rfl) ?_ | refine kN (by kernel_rfl) ?_ | simp -implicitDefEqProofs (disch := omega) only [go_sem, Nat.reduceAdd, Nat.reduceSub, reduceCtorEq, Nat.reduceLT, Nat.reduceLeDiff, Nat.reduceEqDiff, Nat.reduceMul, Int.reduceToNat, ↓reduceIte, List.take_of_length_le, if_pos, if_neg, getD_exs, evApp_st0, cnE, cnV, Tryz.ntmps124, Tryz.results124,  s1, s2, h0, hS])
    refine LoopQ.mix (fun t0 L0 nn ss => ∃ (i m : Nat) (_ : Unit), (∃ x : Nat → AV, ss = ⟨mixL 0 (.k :: .k :: .s :: .s :: .v (i64 (m : Nat)) :: .k :: .v (i64 (i : Nat)) :: .k :: .k :: .k :: .k :: .k :: .k :: .k :: .k :: .s :: .s :: .s :: .s :: .s :: .s :: .s :: .s :: .s :: .s :: .s :: .s :: .s :: .s :: .s :: .s :: .s :: .s :: .s :: .s :: .s :: .s :: .s :: .s :: .s :: .s :: .s :: .s :: .k :: .k :: .k :: .k :: .k :: .k :: .k :: .k :: .k :: []) t0 x, L0⟩) ∧ (i ≤ s.size) ∧ (1 ≤ i) ∧ (m ≤ 999) ∧ (rdL ((S.drop 1).take (i - 1)) 0 = some m) ∧ nn = s.size - i) ?_ ?_
    · exact ⟨_, ⟨1, 0, (), mixI rfl, (by omega), Nat.le_refl _, Nat.zero_le _, rfl, rfl⟩⟩
    · rintro I0 hI0 nn ss ⟨i, m, _, ⟨y, rfl⟩, g1, g2, g3, g4, rfl⟩
      by_cases hi : i < s.size
      · have hii : (i : Int) < (s.size : Int) := by omega
        have hst := rd_step g2 (by omega) g4
        have hsp := fun hn => rd_stop g2 (by omega) g4 hn
        generalize hc : S.getD i 0 = c at *
        by_cases k1 : c.toNat < 48
        · rw [rdF_none (by rw [hrw, hsp (rd_no (.inl k1))]; rfl)]
          have k1' : (c.toNat : Int) < 48 := by omega
          repeat' (first | with_reducible first | refine kI (by kernel_rfl) ?_ | refine kN (by kernel_rfl) ?_ | simp -implicitDefEqProofs (disch := omega) only [go_sem, Nat.reduceAdd, Nat.reduceSub, reduceCtorEq, Nat.reduceLT, Nat.reduceLeDiff, Nat.reduceEqDiff, Nat.reduceMul, Int.reduceToNat, ↓reduceIte, List.take_of_length_le, if_pos, if_neg, getD_exs, evApp_st0, cnE, cnV, Tryz.ntmps124, Tryz.results124,  hii, hS, hc, k1'])
          try rfl
        · have k1' : ¬ (c.toNat : Int) < 48 := by omega
          by_cases k2 : 57 < c.toNat
          · rw [rdF_none (by rw [hrw, hsp (rd_no (.inr (.inl k2)))]; rfl)]
            have k2' : (57 : Int) < (c.toNat : Int) := by omega
            repeat' (first | with_reducible first | refine kI (by kernel_rfl) ?_ | refine kN (by kernel_rfl) ?_ | simp -implicitDefEqProofs (disch := omega) only [go_sem, Nat.reduceAdd, Nat.reduceSub, reduceCtorEq, Nat.reduceLT, Nat.reduceLeDiff, Nat.reduceEqDiff, Nat.reduceMul, Int.reduceToNat, ↓reduceIte, List.take_of_length_le, if_pos, if_neg, getD_exs, evApp_st0, cnE, cnV, Tryz.ntmps124, Tryz.results124,  hii, hS, hc, k1', k2'])
            try rfl
          · have k2' : ¬ (57 : Int) < (c.toNat : Int) := by omega
            by_cases k3 : 99 < m
            · rw [rdF_none (by rw [hrw, hsp (rd_no (.inr (.inr k3)))]; rfl)]
              have k3' : (99 : Int) < (m : Int) := by omega
              repeat' (first | with_reducible first | refine kI (by kernel_rfl) ?_ | refine kN (by kernel_rfl) ?_ | simp -implicitDefEqProofs (disch := omega) only [go_sem, Nat.reduceAdd, Nat.reduceSub, reduceCtorEq, Nat.reduceLT, Nat.reduceLeDiff, Nat.reduceEqDiff, Nat.reduceMul, Int.reduceToNat, ↓reduceIte, List.take_of_length_le, if_pos, if_neg, getD_exs, evApp_st0, cnE, cnV, Tryz.ntmps124, Tryz.results124,  hii, hS, hc, k1', k2', k3'])
              try rfl
            · have k3' : ¬ (99 : Int) < (m : Int) := by omega
              have hd := dig_conv k1
              rw [rd_yes (by omega)] at hst
              have hw1 : IntKind.i64.wrap (10 * (m : Int)) = 10 * (m : Int) := wrap_in (by omega)
              have hw2 : IntKind.i64.wrap (10 * (m : Int) + ((c.toNat - 48 : Nat) : Int)) = ((10 * m + (c.toNat - 48) : Nat) : Int) := by rw [wrap_in (by omega)]; omega
              repeat' (first | with_reducible first | refine kI (by kernel_rfl) ?_ | refine kN (by kernel_rfl) ?_ | simp -implicitDefEqProofs (disch := omega) only [go_sem, Nat.reduceAdd, Nat.reduceSub, reduceCtorEq, Nat.reduceLT, Nat.reduceLeDiff, Nat.reduceEqDiff, Nat.reduceMul, Int.reduceToNat, ↓reduceIte, List.take_of_length_le, if_pos, if_neg, getD_exs, evApp_st0, cnE, cnV, Tryz.ntmps124, Tryz.results124,  hii, hS, hc, k1', k2', k3', hd, hw1, hw2])
              exact ⟨s.size - (i + 1), by omega, hI0 _ _ ⟨i + 1, 10 * m + (c.toNat - 48), (), mixI rfl, hi, (by omega), (by omega), hst, rfl⟩⟩
      · obtain rfl : i = s.size := by omega
        rw [List.take_of_length_le (by simp; omega)] at g4
        rw [g4, Option.map_some] at hrw
        rw [rdF_some hrw]
        have hw : IntKind.i64.wrap (0 - (m : Int)) = -(m : Int) := by rw [wrap_in (by omega)]; omega
        have qn := gNum_eq (n := -(m : Int)) (by unfold i64R; omega)
        have hcm := num_cmp s (-(m : Int))
        rw [hS] at hcm
        generalize numB (-(m : Int)) = N at *
        repeat' (first | with_reducible first | refine kI (by kernel_rfl) ?_ | refine kN (by kernel_rfl) ?_ | simp -implicitDefEqProofs (disch := omega) only [go_sem, Nat.reduceAdd, Nat.reduceSub, reduceCtorEq, Nat.reduceLT, Nat.reduceLeDiff, Nat.reduceEqDiff, Nat.reduceMul, Int.reduceToNat, ↓reduceIte, List.take_of_length_le, if_pos, if_neg, getD_exs, evApp_st0, cnE, cnV, Tryz.ntmps124, Tryz.results124,  hw, hn, qn, hcm])
        try rfl
  · have hrw := rdW_pos hneg
    have hst0 : ∃ b : Bool, (s = ⟨#[]⟩ ∧ b = false) ∨ (s ≠ ⟨#[]⟩ ∧ b = true) := by
      by_cases e : s = ⟨#[]⟩
      · exact ⟨false, .inl ⟨e, rfl⟩⟩
      · exact ⟨true, .inr ⟨e, rfl⟩⟩
    have hloop : True := trivial
    by_cases hem : s = ⟨#[]⟩
    · subst hem
      have s1 := strEq_t ⟨#[]⟩
      have hz0 : (⟨#[]⟩ : ByteArray).size = 0 := rfl
      have hr0 : rdW (⟨#[]⟩ : ByteArray).data.toList = some ((0 : Nat) : Int) := by rw [hrw]; rfl
      rw [rdF_some hr0]
      have qn := gNum_eq (n := ((0 : Nat) : Int)) (by unfold i64R; omega)
      have hcm := num_cmp ⟨#[]⟩ ((0 : Nat) : Int)
      generalize numB ((0 : Nat) : Int) = N at *
      repeat' (first | with_reducible first | refine kI (by kernel_rfl) ?_ | refine kN (by kernel_rfl) ?_ | simp -implicitDefEqProofs (disch := omega) only [go_sem, Nat.reduceAdd, Nat.reduceSub, reduceCtorEq, Nat.reduceLT, Nat.reduceLeDiff, Nat.reduceEqDiff, Nat.reduceMul, Int.reduceToNat, ↓reduceIte, List.take_of_length_le, if_pos, if_neg, getD_exs, evApp_st0, cnE, cnV, Tryz.ntmps124, Tryz.results124,  s1, hz0])
      refine LoopQ.mix (fun t0 L0 nn ss => ∃ (i : Nat) (_ : Unit), (∃ x : Nat → AV, ss = ⟨mixL 0 (.k :: .k :: .s :: .s :: .v (i64 (0 : Nat)) :: .k :: .v (i64 (i : Nat)) :: .k :: .k :: .k :: .k :: .k :: .k :: .k :: .k :: .s :: .s :: .s :: .s :: .s :: .s :: .s :: .s :: .s :: .s :: .s :: .s :: .s :: .s :: .s :: .s :: .s :: .s :: .s :: .s :: .s :: .s :: .s :: .s :: .s :: .s :: .s :: .s :: .k :: .k :: .k :: .k :: .k :: .k :: .k :: .k :: .k :: []) t0 x, L0⟩) ∧ (i = 0) ∧ nn = 0 + i) ?_ ?_
      · exact ⟨_, ⟨0, (), mixI rfl, rfl, rfl⟩⟩
      · rintro I0 hI0 nn ss ⟨i, _, ⟨y, rfl⟩, g1, rfl⟩
        subst g1
        repeat' (first | with_reducible first | refine kI (by kernel_rfl) ?_ | refine kN (by kernel_rfl) ?_ | simp -implicitDefEqProofs (disch := omega) only [go_sem, Nat.reduceAdd, Nat.reduceSub, reduceCtorEq, Nat.reduceLT, Nat.reduceLeDiff, Nat.reduceEqDiff, Nat.reduceMul, Int.reduceToNat, ↓reduceIte, List.take_of_length_le, if_pos, if_neg, getD_exs, evApp_st0, cnE, cnV, Tryz.ntmps124, Tryz.results124,  hz0, hn, qn, hcm])
        try rfl
    · have s1 := strEq_f hem
      have h1 : 0 < s.size := by
        rcases Nat.eq_zero_or_pos s.size with e | e
        · exact absurd (ByteArray.ext (Array.eq_empty_of_size_eq_zero e)) hem
        · exact e
      have h0 : (0 : Int) < (s.size : Int) := by omega
      have hne45 : s.data.toList.getD 0 0 ≠ 45 := fun e => hneg ⟨e, by omega⟩
      have s2 : (((s.data.toList.getD 0 0).toNat : Int) == 45) = false := u8_ne hne45
      clear hneg hst0
      generalize hS : s.data.toList = S at *
      repeat' (first | with_reducible first | refine kI (by kernel_rfl) ?_ | refine kN (by kernel_rfl) ?_ | simp -implicitDefEqProofs (disch := omega) only [go_sem, Nat.reduceAdd, Nat.reduceSub, reduceCtorEq, Nat.reduceLT, Nat.reduceLeDiff, Nat.reduceEqDiff, Nat.reduceMul, Int.reduceToNat, ↓reduceIte, List.take_of_length_le, if_pos, if_neg, getD_exs, evApp_st0, cnE, cnV, Tryz.ntmps124, Tryz.results124,  s1, s2, h0, hS])
      refine LoopQ.mix (fun t0 L0 nn ss => ∃ (i m : Nat) (_ : Unit), (∃ x : Nat → AV, ss = ⟨mixL 0 (.k :: .k :: .s :: .s :: .v (i64 (m : Nat)) :: .k :: .v (i64 (i : Nat)) :: .k :: .k :: .k :: .k :: .k :: .k :: .k :: .k :: .s :: .s :: .s :: .s :: .s :: .s :: .s :: .s :: .s :: .s :: .s :: .s :: .s :: .s :: .s :: .s :: .s :: .s :: .s :: .s :: .s :: .s :: .s :: .s :: .s :: .s :: .s :: .s :: .k :: .k :: .k :: .k :: .k :: .k :: .k :: .k :: .k :: []) t0 x, L0⟩) ∧ (i ≤ s.size) ∧ (m ≤ 999) ∧ (rdL ((S.drop 0).take (i - 0)) 0 = some m) ∧ nn = s.size - i) ?_ ?_
      · exact ⟨_, ⟨0, 0, (), mixI rfl, (by omega), Nat.zero_le _, rfl, rfl⟩⟩
      · rintro I0 hI0 nn ss ⟨i, m, _, ⟨y, rfl⟩, g1, g3, g4, rfl⟩
        by_cases hi : i < s.size
        · have hii : (i : Int) < (s.size : Int) := by omega
          have hst := rd_step (Nat.zero_le _) (by omega) g4
          have hsp := fun hn => rd_stop (Nat.zero_le _) (by omega) g4 hn
          generalize hc : S.getD i 0 = c at *
          by_cases k1 : c.toNat < 48
          · rw [rdF_none (by rw [hrw, hsp (rd_no (.inl k1))]; rfl)]
            have k1' : (c.toNat : Int) < 48 := by omega
            repeat' (first | with_reducible first | refine kI (by kernel_rfl) ?_ | refine kN (by kernel_rfl) ?_ | simp -implicitDefEqProofs (disch := omega) only [go_sem, Nat.reduceAdd, Nat.reduceSub, reduceCtorEq, Nat.reduceLT, Nat.reduceLeDiff, Nat.reduceEqDiff, Nat.reduceMul, Int.reduceToNat, ↓reduceIte, List.take_of_length_le, if_pos, if_neg, getD_exs, evApp_st0, cnE, cnV, Tryz.ntmps124, Tryz.results124,  hii, hS, hc, k1'])
            try rfl
          · have k1' : ¬ (c.toNat : Int) < 48 := by omega
            by_cases k2 : 57 < c.toNat
            · rw [rdF_none (by rw [hrw, hsp (rd_no (.inr (.inl k2)))]; rfl)]
              have k2' : (57 : Int) < (c.toNat : Int) := by omega
              repeat' (first | with_reducible first | refine kI (by kernel_rfl) ?_ | refine kN (by kernel_rfl) ?_ | simp -implicitDefEqProofs (disch := omega) only [go_sem, Nat.reduceAdd, Nat.reduceSub, reduceCtorEq, Nat.reduceLT, Nat.reduceLeDiff, Nat.reduceEqDiff, Nat.reduceMul, Int.reduceToNat, ↓reduceIte, List.take_of_length_le, if_pos, if_neg, getD_exs, evApp_st0, cnE, cnV, Tryz.ntmps124, Tryz.results124,  hii, hS, hc, k1', k2'])
              try rfl
            · have k2' : ¬ (57 : Int) < (c.toNat : Int) := by omega
              by_cases k3 : 99 < m
              · rw [rdF_none (by rw [hrw, hsp (rd_no (.inr (.inr k3)))]; rfl)]
                have k3' : (99 : Int) < (m : Int) := by omega
                repeat' (first | with_reducible first | refine kI (by kernel_rfl) ?_ | refine kN (by kernel_rfl) ?_ | simp -implicitDefEqProofs (disch := omega) only [go_sem, Nat.reduceAdd, Nat.reduceSub, reduceCtorEq, Nat.reduceLT, Nat.reduceLeDiff, Nat.reduceEqDiff, Nat.reduceMul, Int.reduceToNat, ↓reduceIte, List.take_of_length_le, if_pos, if_neg, getD_exs, evApp_st0, cnE, cnV, Tryz.ntmps124, Tryz.results124,  hii, hS, hc, k1', k2', k3'])
                try rfl
              · have k3' : ¬ (99 : Int) < (m : Int) := by omega
                have hd := dig_conv k1
                rw [rd_yes (by omega)] at hst
                have hw1 : IntKind.i64.wrap (10 * (m : Int)) = 10 * (m : Int) := wrap_in (by omega)
                have hw2 : IntKind.i64.wrap (10 * (m : Int) + ((c.toNat - 48 : Nat) : Int)) = ((10 * m + (c.toNat - 48) : Nat) : Int) := by rw [wrap_in (by omega)]; omega
                repeat' (first | with_reducible first | refine kI (by kernel_rfl) ?_ | refine kN (by kernel_rfl) ?_ | simp -implicitDefEqProofs (disch := omega) only [go_sem, Nat.reduceAdd, Nat.reduceSub, reduceCtorEq, Nat.reduceLT, Nat.reduceLeDiff, Nat.reduceEqDiff, Nat.reduceMul, Int.reduceToNat, ↓reduceIte, List.take_of_length_le, if_pos, if_neg, getD_exs, evApp_st0, cnE, cnV, Tryz.ntmps124, Tryz.results124,  hii, hS, hc, k1', k2', k3', hd, hw1, hw2])
                exact ⟨s.size - (i + 1), by omega, hI0 _ _ ⟨i + 1, 10 * m + (c.toNat - 48), (), mixI rfl, hi, (by omega), hst, rfl⟩⟩
        · obtain rfl : i = s.size := by omega
          rw [List.take_of_length_le (by simp; omega)] at g4
          rw [g4, Option.map_some] at hrw
          rw [rdF_some hrw]
          have qn := gNum_eq (n := (m : Int)) (by unfold i64R; omega)
          have hcm := num_cmp s (m : Int)
          rw [hS] at hcm
          generalize numB (m : Int) = N at *
          repeat' (first | with_reducible first | refine kI (by kernel_rfl) ?_ | refine kN (by kernel_rfl) ?_ | simp -implicitDefEqProofs (disch := omega) only [go_sem, Nat.reduceAdd, Nat.reduceSub, reduceCtorEq, Nat.reduceLT, Nat.reduceLeDiff, Nat.reduceEqDiff, Nat.reduceMul, Int.reduceToNat, ↓reduceIte, List.take_of_length_le, if_pos, if_neg, getD_exs, evApp_st0, cnE, cnV, Tryz.ntmps124, Tryz.results124,  hn, qn, hcm])
          try rfl
end Go.Proofs.YtkmnepmnjpdpkaaGreatDoor
