/- Contracts of functions that the laws of this seat call. -/
import Derived.Test.YtgepbcakcjdmoaaVn
set_option linter.all false
namespace Go.Proofs.Ytgepbcakcjdmoaa
open Go Go.Ev Go.RowKit Go.Ev.Enc Go.Pl

set_option maxHeartbeats 2000000 in
set_option maxRecDepth 100000 in
theorem spec_place {Sg : FuncId → Option (List AV → Option AV)} (hS : Sound Try.prog Sg) : ∀ a r, F2 gPlaceIn a = some r → CSpec Try.prog 39 a r := by
  refine spec2 Try.func39 rfl Try.pf hS ?_
  intro l n r hr
  obtain ⟨hl, rfl⟩ := gd_some hr
  simp -implicitDefEqProofs only [go_sem, Nat.reduceAdd, Nat.reduceSub, reduceCtorEq, Nat.reduceLT, Nat.reduceLeDiff, Nat.reduceEqDiff, Nat.reduceMul, Int.reduceToNat, ↓reduceIte, Try.ntmps39, Try.results39]
  refine LoopQ.mix (fun t0 L0 nn ss => ∃ (k : Nat) (_ : Unit), (∃ x : Nat → AV, ss = ⟨mixL 0 (.k :: .k :: .k :: .k :: .s :: .v (i64 (k : Nat)) :: .s :: .s :: .s :: .s :: .s :: .s :: .s :: .s :: .s :: .s :: .s :: .s :: .s :: []) t0 x, L0⟩) ∧ (k ≤ l.length) ∧ (∀ i, i < k → (l.getD i 0 == n) = false) ∧ nn = l.length - k) ⟨l.length, ?_⟩ ?_
  · exact ⟨0, (), mixI rfl, Nat.zero_le _, fun i hi => absurd hi (Nat.not_lt_zero _), rfl⟩
  · rintro I0 hI0 m s ⟨k, _, ⟨x, rfl⟩, h1, h2, rfl⟩
    by_cases hlt : k < l.length
    · cases hb : l.getD k 0 == n with
      | true =>
        simp -implicitDefEqProofs only [go_sem, Nat.reduceAdd, Nat.reduceSub, reduceCtorEq, Nat.reduceLT, Nat.reduceLeDiff, Nat.reduceEqDiff, Nat.reduceMul, Int.reduceToNat, ↓reduceIte, Try.ntmps39, Try.results39, Int.ofNat_lt, hlt, getD_ints hlt, hb, plc_eq hlt hb h2]
      | false =>
        simp -implicitDefEqProofs only [go_sem, Nat.reduceAdd, Nat.reduceSub, reduceCtorEq, Nat.reduceLT, Nat.reduceLeDiff, Nat.reduceEqDiff, Nat.reduceMul, Int.reduceToNat, ↓reduceIte, Try.ntmps39, Try.results39, Int.ofNat_lt, hlt, getD_ints hlt, hb, wrap_succ (show k < 9223372036854775807 by omega)]
        exact ⟨l.length - (k + 1), by omega, hI0 _ _ ⟨k + 1, (), mixI rfl, hlt, fun i hi => if h : i = k then by rw [h]; exact hb else h2 i (by omega), rfl⟩⟩
    · obtain rfl : k = l.length := by omega
      simp -implicitDefEqProofs only [go_sem, Nat.reduceAdd, Nat.reduceSub, reduceCtorEq, Nat.reduceLT, Nat.reduceLeDiff, Nat.reduceEqDiff, Nat.reduceMul, Int.reduceToNat, ↓reduceIte, Try.ntmps39, Try.results39, Int.ofNat_lt, hlt, plc_none h2]
set_option maxHeartbeats 8000000 in
set_option maxRecDepth 100000 in
theorem law_IsOneToOne {Sg Sd : FuncId → Option (List AV → Option AV)} (hS : Sound Try.prog Sg) (hD : Sound Try.prog Sd) (n1 : Sg 15 = none) (h1 : Sg 16 = some (F1 gOneT)) (h2 : Sg 17 = some (F1 gOneT)) (h3 : Sg 18 = some (F1 gValidV)) (h4 : Sd 19 = some (F1 gRep)) (h5 : Sd 20 = some (F1 gCellsT)) (h6 : Sd 21 = some (F1 gCountT)) (hDr : DrOne 15) : ∀ a r, F1 gTrueW a = some r → CSpec Try.prog 3 a r := by
  refine F1_spec ?_
  intro bs r hr
  obtain ⟨g1, rfl⟩ := gd_some hr
  refine law3 Try.func3 rfl Try.pf hS hD ?_
  by_cases hb : 1048576 < bs.length
  · repeat' (first | with_reducible first | refine kI (by kernel_rfl) ?_ | refine kN (by kernel_rfl) ?_ | (first | refine kB1 ?_ ?_ | refine kB2 ?_ ?_) <;> intro hp | (first | refine kD1 ?_ ?_ | refine kD2 ?_ ?_ | refine kS1 ?_ ?_ | refine kS2 ?_ ?_) <;> intro hp <;> try simp only [hp] | simp -implicitDefEqProofs (disch := omega) only [go_sem, Nat.reduceAdd, Nat.reduceSub, reduceCtorEq, Nat.reduceLT, Nat.reduceLeDiff, Nat.reduceEqDiff, Nat.reduceMul, Int.reduceToNat, ↓reduceIte, List.take_of_length_le, if_pos, if_neg, List.getElem?_set_self, List.set_set, cnE, cnV, Try.ntmps3, Try.results3])
  · repeat' (first | with_reducible first | refine kI (by kernel_rfl) ?_ | refine kN (by kernel_rfl) ?_ | (first | refine kB1 ?_ ?_ | refine kB2 ?_ ?_) <;> intro hp | (first | refine kD1 ?_ ?_ | refine kD2 ?_ ?_ | refine kS1 ?_ ?_ | refine kS2 ?_ ?_) <;> intro hp <;> try simp only [hp] | simp -implicitDefEqProofs (disch := omega) only [go_sem, Nat.reduceAdd, Nat.reduceSub, reduceCtorEq, Nat.reduceLT, Nat.reduceLeDiff, Nat.reduceEqDiff, Nat.reduceMul, Int.reduceToNat, ↓reduceIte, List.take_of_length_le, if_pos, if_neg, List.getElem?_set_self, List.set_set, cnE, cnV, Try.ntmps3, Try.results3,  n1, opQ_none])
    refine InlK_intro rfl rfl can_DrawIsOneToOne ((hDr bs (by omega) _).mono ?_)
    rintro r L1 ⟨v, k1, k2, rfl, rfl⟩
    have q1 := gOneT_eq (v := v) ⟨by omega, by omega⟩
    have q3 := gValidV_eq (v := v) ⟨by omega, by omega⟩
    cases e : viewOK v with
    | false =>
      rw [e] at q1 q3
      repeat' (first | with_reducible first | refine kI (by kernel_rfl) ?_ | refine kN (by kernel_rfl) ?_ | (first | refine kB1 ?_ ?_ | refine kB2 ?_ ?_) <;> intro hp | (first | refine kD1 ?_ ?_ | refine kD2 ?_ ?_ | refine kS1 ?_ ?_ | refine kS2 ?_ ?_) <;> intro hp <;> try simp only [hp] | simp -implicitDefEqProofs (disch := omega) only [go_sem, Nat.reduceAdd, Nat.reduceSub, reduceCtorEq, Nat.reduceLT, Nat.reduceLeDiff, Nat.reduceEqDiff, Nat.reduceMul, Int.reduceToNat, ↓reduceIte, List.take_of_length_le, if_pos, if_neg, List.getElem?_set_self, List.set_set, cnE, cnV, Try.ntmps3, Try.results3,  h1, q1, h2, h3, q3])
    | true =>
      have hA := offF_60 (viewOK_iff.1 e).1
      have hin := offF_in e
      have q4 := gRep_eq (v := v) ⟨by omega, by omega⟩
      have q5 := gCellsT_eq (v := v) ⟨by omega, by omega⟩
      have q6 := gCountT_eq (l := v.sh) (by omega)
      rw [e] at q1 q3
      rw [e, if_pos rfl] at q4 q5
      rw [(viewOK_iff.1 e).1, if_pos rfl] at q6
      obtain ⟨s1, s2, s3, s4, s5⟩ := shape_facts (viewOK_iff.1 e).1
      have hl := offF_len v
      have d1 : (((repF (offF v)).length : Int) == 0) = diffF (offF v) := by
        rw [diff_rep hin, Bool.eq_iff_iff, beq_iff_eq, decide_eq_true_eq]
        omega
      have d2 : (((srt (offF v)).length : Int) == prodW v.sh) = diffF (offF v) := by
        rw [diff_srt, Bool.eq_iff_iff, beq_iff_eq, decide_eq_true_eq]
        omega
      cases hd : diffF (offF v) with
      | false =>
        rw [hd] at q1 d1 d2
        repeat' (first | with_reducible first | refine kI (by kernel_rfl) ?_ | refine kN (by kernel_rfl) ?_ | (first | refine kB1 ?_ ?_ | refine kB2 ?_ ?_) <;> intro hp | (first | refine kD1 ?_ ?_ | refine kD2 ?_ ?_ | refine kS1 ?_ ?_ | refine kS2 ?_ ?_) <;> intro hp <;> try simp only [hp] | simp -implicitDefEqProofs (disch := omega) only [go_sem, Nat.reduceAdd, Nat.reduceSub, reduceCtorEq, Nat.reduceLT, Nat.reduceLeDiff, Nat.reduceEqDiff, Nat.reduceMul, Int.reduceToNat, ↓reduceIte, List.take_of_length_le, if_pos, if_neg, List.getElem?_set_self, List.set_set, cnE, cnV, Try.ntmps3, Try.results3,  h1, q1, h2, h3, q3, h4, q4, h5, q5, h6, q6, d1, d2])
      | true =>
        rw [hd] at q1 d1 d2
        repeat' (first | with_reducible first | refine kI (by kernel_rfl) ?_ | refine kN (by kernel_rfl) ?_ | (first | refine kB1 ?_ ?_ | refine kB2 ?_ ?_) <;> intro hp | (first | refine kD1 ?_ ?_ | refine kD2 ?_ ?_ | refine kS1 ?_ ?_ | refine kS2 ?_ ?_) <;> intro hp <;> try simp only [hp] | simp -implicitDefEqProofs (disch := omega) only [go_sem, Nat.reduceAdd, Nat.reduceSub, reduceCtorEq, Nat.reduceLT, Nat.reduceLeDiff, Nat.reduceEqDiff, Nat.reduceMul, Int.reduceToNat, ↓reduceIte, List.take_of_length_le, if_pos, if_neg, List.getElem?_set_self, List.set_set, cnE, cnV, Try.ntmps3, Try.results3,  h1, q1, h2, h3, q3, h4, q4, h5, q5, h6, q6, d1, d2])
theorem rep_drop {A : List Int} (h : inC A) {k j : Nat} (hk : k < A.length) (hj : plc A (A.getD k 0) = (j : Int)) : (repF A).contains (A.getD k 0) = (A.drop (j + 1)).contains (A.getD k 0) := by
  rw [Bool.eq_iff_iff, List.contains_iff_mem, mem_rep]
  unfold repC
  rw [hj, Int.toNat_natCast, List.contains_iff_mem.2 (gmem hk), Bool.true_and]
  exact ⟨fun h' => h'.2, fun h' => ⟨h _ (gmem hk), h'⟩⟩
set_option maxHeartbeats 8000000 in
set_option maxRecDepth 100000 in
theorem law_RepeatsOf {Sg Sd : FuncId → Option (List AV → Option AV)} (hS : Sound Try.prog Sg) (hD : Sound Try.prog Sd) (n1 : Sg 40 = none) (h1 : Sg 19 = some (F1 gRep)) (h2 : Sg 41 = some (F1 gRep)) (h3 : Sg 23 = some (F2 gEqInts)) (h4 : Sg 18 = some (F1 gValidV)) (h5 : Sg 25 = some (F1 gOffT)) (h6 : Sg 26 = some (F1 gAscends)) (h7 : Sg 27 = some (F2 gWithin)) (h8 : Sg 39 = some (F2 gPlaceIn)) (h9 : Sd 42 = some (F2 gIsIn)) (hDr : DrOne 40) : ∀ a r, F1 gTrueW a = some r → CSpec Try.prog 8 a r := by
  refine F1_spec ?_
  intro bs r hr
  obtain ⟨g1, rfl⟩ := gd_some hr
  refine law3 Try.func8 rfl Try.pf hS hD ?_
  by_cases hb : 1048576 < bs.length
  · repeat' (first | with_reducible first | refine kI (by kernel_rfl) ?_ | refine kN (by kernel_rfl) ?_ | (first | refine kB1 ?_ ?_ | refine kB2 ?_ ?_) <;> intro hp | (first | refine kD1 ?_ ?_ | refine kD2 ?_ ?_ | refine kS1 ?_ ?_ | refine kS2 ?_ ?_) <;> intro hp <;> try simp only [hp] | simp -implicitDefEqProofs (disch := omega) only [go_sem, Nat.reduceAdd, Nat.reduceSub, reduceCtorEq, Nat.reduceLT, Nat.reduceLeDiff, Nat.reduceEqDiff, Nat.reduceMul, Int.reduceToNat, ↓reduceIte, List.take_of_length_le, if_pos, if_neg, List.getElem?_set_self, List.set_set, cnE, cnV, Try.ntmps8, Try.results8])
  · repeat' (first | with_reducible first | refine kI (by kernel_rfl) ?_ | refine kN (by kernel_rfl) ?_ | (first | refine kB1 ?_ ?_ | refine kB2 ?_ ?_) <;> intro hp | (first | refine kD1 ?_ ?_ | refine kD2 ?_ ?_ | refine kS1 ?_ ?_ | refine kS2 ?_ ?_) <;> intro hp <;> try simp only [hp] | simp -implicitDefEqProofs (disch := omega) only [go_sem, Nat.reduceAdd, Nat.reduceSub, reduceCtorEq, Nat.reduceLT, Nat.reduceLeDiff, Nat.reduceEqDiff, Nat.reduceMul, Int.reduceToNat, ↓reduceIte, List.take_of_length_le, if_pos, if_neg, List.getElem?_set_self, List.set_set, cnE, cnV, Try.ntmps8, Try.results8,  n1, opQ_none])
    refine InlK_intro rfl rfl can_DrawRepeatsOf ((hDr bs (by omega) _).mono ?_)
    rintro r L1 ⟨v, k1, k2, rfl, rfl⟩
    have q1 := gRep_eq (v := v) ⟨by omega, by omega⟩
    have q4 := gValidV_eq (v := v) ⟨by omega, by omega⟩
    cases e : viewOK v with
    | false =>
      rw [e] at q1 q4
      rw [if_neg (by simp)] at q1
      have q3 : gEqInts [] [] = some true := gEqInts_eq (a := []) (b := []) ⟨by decide, by decide⟩
      repeat' (first | with_reducible first | refine kI (by kernel_rfl) ?_ | refine kN (by kernel_rfl) ?_ | (first | refine kB1 ?_ ?_ | refine kB2 ?_ ?_) <;> intro hp | (first | refine kD1 ?_ ?_ | refine kD2 ?_ ?_ | refine kS1 ?_ ?_ | refine kS2 ?_ ?_) <;> intro hp <;> try simp only [hp] | simp -implicitDefEqProofs (disch := omega) only [go_sem, Nat.reduceAdd, Nat.reduceSub, reduceCtorEq, Nat.reduceLT, Nat.reduceLeDiff, Nat.reduceEqDiff, Nat.reduceMul, Int.reduceToNat, ↓reduceIte, List.take_of_length_le, if_pos, if_neg, List.getElem?_set_self, List.set_set, cnE, cnV, Try.ntmps8, Try.results8,  h1, q1, h2, h3, q3, h4, q4, dec_i0])
    | true =>
      have hA := offF_60 (viewOK_iff.1 e).1
      have hin := offF_in e
      have hl := rep_len (offF v)
      have q5 := gOffT_eq (v := v) ⟨by omega, by omega⟩
      rw [e, if_pos rfl] at q1 q5
      rw [e] at q4
      generalize offF v = A at *
      have q3 : gEqInts (repF A) (repF A) = some true := (gEqInts_eq ⟨by omega, by omega⟩).trans (by simp)
      have q6 := (gAscends_eq (l := repF A) (by omega)).trans (by rw [ascB_pw (rep_asc _)])
      have q7 := (gWithin_eq (a := repF A) (b := A) ⟨by omega, by omega⟩).trans (by rw [within_mem fun x hx => rep_sub hx])
      repeat' (first | with_reducible first | refine kI (by kernel_rfl) ?_ | refine kN (by kernel_rfl) ?_ | (first | refine kB1 ?_ ?_ | refine kB2 ?_ ?_) <;> intro hp | (first | refine kD1 ?_ ?_ | refine kD2 ?_ ?_ | refine kS1 ?_ ?_ | refine kS2 ?_ ?_) <;> intro hp <;> try simp only [hp] | simp -implicitDefEqProofs (disch := omega) only [go_sem, Nat.reduceAdd, Nat.reduceSub, reduceCtorEq, Nat.reduceLT, Nat.reduceLeDiff, Nat.reduceEqDiff, Nat.reduceMul, Int.reduceToNat, ↓reduceIte, List.take_of_length_le, if_pos, if_neg, List.getElem?_set_self, List.set_set, cnE, cnV, Try.ntmps8, Try.results8,  h1, q1, h2, h3, q3, h4, q4, h5, q5])
      refine LoopQ.mix (fun t0 L0 nn ss => ∃ (k : Nat) (_ : Unit), (∃ x : Nat → AV, ss = ⟨mixL 0 (.k :: .k :: .s :: .k :: .k :: .k :: .v (i64 (k : Nat)) :: .s :: .k :: .k :: .k :: .k :: .k :: .k :: .k :: .k :: .k :: .k :: .k :: .k :: .k :: .k :: .k :: .k :: .k :: .k :: .k :: .k :: .k :: .k :: .k :: .s :: .s :: .s :: .s :: .s :: .s :: .s :: .s :: .s :: .s :: .s :: .s :: .s :: .s :: .s :: .s :: .s :: .s :: .s :: .s :: .s :: .s :: .s :: .s :: .s :: .s :: .s :: .s :: .k :: .k :: .k :: .k :: .k :: .k :: .k :: []) t0 x, L0⟩) ∧ (k ≤ A.length) ∧ nn = A.length - k) ?_ ?_
      · exact ⟨_, ⟨0, (), mixI rfl, Nat.zero_le _, rfl⟩⟩
      · rintro I0 hI0 nn s ⟨k, _, ⟨x, rfl⟩, g1, rfl⟩
        by_cases hk : k < A.length
        · have hki : (k : Int) < (A.length : Int) := by omega
          obtain ⟨j, ej, hj, -, -⟩ := plc_at (gmem hk)
          have p1 := (gPlaceIn_eq (l := A) (by omega) (A.getD k 0)).trans (by rw [ej])
          have p2 := gIsIn_eq (l := repF A) (by omega) (A.getD k 0)
          have p3 := gIsIn_eq (l := A.drop (j + 1)) (by rw [List.length_drop]; omega) (A.getD k 0)
          have ht : ((j : Int) + 1).toNat = j + 1 := by omega
          rw [rep_drop hin hk ej] at p2
          cases eb : (A.drop (j + 1)).contains (A.getD k 0) with
          | false =>
            rw [eb] at p2 p3
            repeat' (first | with_reducible first | refine kI (by kernel_rfl) ?_ | refine kN (by kernel_rfl) ?_ | (first | refine kB1 ?_ ?_ | refine kB2 ?_ ?_) <;> intro hp | (first | refine kD1 ?_ ?_ | refine kD2 ?_ ?_ | refine kS1 ?_ ?_ | refine kS2 ?_ ?_) <;> intro hp <;> try simp only [hp] | simp -implicitDefEqProofs (disch := omega) only [go_sem, Nat.reduceAdd, Nat.reduceSub, reduceCtorEq, Nat.reduceLT, Nat.reduceLeDiff, Nat.reduceEqDiff, Nat.reduceMul, Int.reduceToNat, ↓reduceIte, List.take_of_length_le, if_pos, if_neg, List.getElem?_set_self, List.set_set, cnE, cnV, Try.ntmps8, Try.results8,  hki, h8, p1, h9, p2, p3, ht])
            exact ⟨A.length - (k + 1), by omega, hI0 _ _ ⟨k + 1, (), mixI rfl, hk, rfl⟩⟩
          | true =>
            rw [eb] at p2 p3
            repeat' (first | with_reducible first | refine kI (by kernel_rfl) ?_ | refine kN (by kernel_rfl) ?_ | (first | refine kB1 ?_ ?_ | refine kB2 ?_ ?_) <;> intro hp | (first | refine kD1 ?_ ?_ | refine kD2 ?_ ?_ | refine kS1 ?_ ?_ | refine kS2 ?_ ?_) <;> intro hp <;> try simp only [hp] | simp -implicitDefEqProofs (disch := omega) only [go_sem, Nat.reduceAdd, Nat.reduceSub, reduceCtorEq, Nat.reduceLT, Nat.reduceLeDiff, Nat.reduceEqDiff, Nat.reduceMul, Int.reduceToNat, ↓reduceIte, List.take_of_length_le, if_pos, if_neg, List.getElem?_set_self, List.set_set, cnE, cnV, Try.ntmps8, Try.results8,  hki, h8, p1, h9, p2, p3, ht])
            exact ⟨A.length - (k + 1), by omega, hI0 _ _ ⟨k + 1, (), mixI rfl, hk, rfl⟩⟩
        · obtain rfl : k = A.length := by omega
          repeat' (first | with_reducible first | refine kI (by kernel_rfl) ?_ | refine kN (by kernel_rfl) ?_ | (first | refine kB1 ?_ ?_ | refine kB2 ?_ ?_) <;> intro hp | (first | refine kD1 ?_ ?_ | refine kD2 ?_ ?_ | refine kS1 ?_ ?_ | refine kS2 ?_ ?_) <;> intro hp <;> try simp only [hp] | simp -implicitDefEqProofs (disch := omega) only [go_sem, Nat.reduceAdd, Nat.reduceSub, reduceCtorEq, Nat.reduceLT, Nat.reduceLeDiff, Nat.reduceEqDiff, Nat.reduceMul, Int.reduceToNat, ↓reduceIte, List.take_of_length_le, if_pos, if_neg, List.getElem?_set_self, List.set_set, cnE, cnV, Try.ntmps8, Try.results8,  h6, q6, h7, q7])
end Go.Proofs.Ytgepbcakcjdmoaa
