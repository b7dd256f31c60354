/- Contracts of functions that the laws of this seat call. -/
import Derived.Test.YtkmnepmnjpdpkaaGreatDoorXx
set_option linter.all false
namespace Go.Proofs.YtkmnepmnjpdpkaaGreatDoor
open Go Go.Ev Go.RowKit Go.Ev.Enc Go.Pl

theorem run_size : ∀ (l : List Ac) {B : Bf}, bufOK B = true → (ansB B l).length ≤ 1500 * l.length
  | [], B, _ => by simp [ansB]
  | a :: l, B, h => by
    have h1 := app_size (a := a) h
    have h2 := run_size l (app_ok (a := a) h)
    have h3 := sz_data (appF B a).2
    rw [ansB, List.length_append, List.length_cons, List.length_cons]
    omega
set_option maxHeartbeats 8000000 in
set_option maxRecDepth 100000 in
theorem law_RunActs {Sg Sd : FuncId → Option (List AV → Option AV)} (hS : Sound Tryz.prog Sg) (hD : Sound Tryz.prog Sd) (n1 : Sg 22 = none) (h1 : Sg 23 = some (F1 gRun)) (n2 : Sg 24 = none) (h4 : Sg 25 = some (F1 gNl)) (h5 : Sg 19 = some (F1 gActs)) (hDr : DrTxt 22) (hR : RunS) : ∀ a r, F1 gTrueW a = some r → CSpec Tryz.prog 10 a r := by
  refine F1_spec ?_
  intro bs' r hr
  obtain ⟨g1, rfl⟩ := gd_some hr
  refine law3 Tryz.func10 rfl Tryz.pf hS hD ?_
  by_cases hb : 1048576 < bs'.length
  · repeat' (first | with_reducible first | refine kI (by kernel_rfl) ?_ | refine kN (by kernel_rfl) ?_ | simp -implicitDefEqProofs (disch := omega) only [go_sem, Nat.reduceAdd, Nat.reduceSub, reduceCtorEq, Nat.reduceLT, Nat.reduceLeDiff, Nat.reduceEqDiff, ↓reduceIte, List.take_of_length_le, if_pos, if_neg, getD_exs, evApp_st0, cnE, cnV, Tryz.ntmps10, Tryz.results10])
  · repeat' (first | with_reducible first | refine kI (by kernel_rfl) ?_ | refine kN (by kernel_rfl) ?_ | simp -implicitDefEqProofs (disch := omega) only [go_sem, Nat.reduceAdd, Nat.reduceSub, reduceCtorEq, Nat.reduceLT, Nat.reduceLeDiff, Nat.reduceEqDiff, ↓reduceIte, List.take_of_length_le, if_pos, if_neg, getD_exs, evApp_st0, cnE, cnV, Tryz.ntmps10, Tryz.results10,  n1, opQ_none])
    refine InlK_intro rfl rfl can_DrawRunActs ((hDr bs' (by omega) _).mono ?_)
    rintro r L1 ⟨s, hs, rfl, rfl⟩
    have hz := sz_data s
    have q1 := gRun_eq (s := s) (by omega)
    have q5 := gActs_eq (s := s) (by omega)
    repeat' (first | with_reducible first | refine kI (by kernel_rfl) ?_ | refine kN (by kernel_rfl) ?_ | simp -implicitDefEqProofs (disch := omega) only [go_sem, Nat.reduceAdd, Nat.reduceSub, reduceCtorEq, Nat.reduceLT, Nat.reduceLeDiff, Nat.reduceEqDiff, ↓reduceIte, List.take_of_length_le, if_pos, if_neg, getD_exs, evApp_st0, cnE, cnV, Tryz.ntmps10, Tryz.results10,  h1, q1, n2, opQ_none])
    refine InlK_intro rfl rfl can_RunActsS ((hR s (by omega) _).mono ?_)
    rintro r L1 ⟨rfl, rfl⟩
    have hlen := actsF_len 60 s.data.toList
    have hpre := fun n => actsF_take 60 s.data.toList n
    unfold runB at *
    generalize actsF 60 s.data.toList = R at *
    have hsz := run_size R ok_bf0
    have hcn := ans_cnt bf0 R
    have hap := fun T m (h : T ++ m = R) => ansB_pre bf0 T m
    have hOd : (bs (ansB bf0 R)).data.toList = ansB bf0 R := data_bs _
    have hOs : (bs (ansB bf0 R)).size = (ansB bf0 R).length := bs_size _
    have q4 := gNl_eq (s := bs (ansB bf0 R)) (by omega)
    rw [hOd, hcn] at q4
    have hxp : ∀ T, T <+: R → (bs (ansB bf0 T)).size ≤ (bs (ansB bf0 R)).size ∧ (bs (ansB bf0 R)).extract 0 (bs (ansB bf0 T)).size = bs (ansB bf0 T) := fun T hT => by
      obtain ⟨m, hm⟩ := hT
      obtain ⟨t, ht⟩ := ansB_pre bf0 T m
      rw [hm] at ht
      exact ext_pre (t := t) (by rw [data_bs]; exact ht)
    clear hOd hOs hcn hsz hap
    generalize bs (ansB bf0 R) = O at *
    have s1 := strEq_t O
    have hRl : ((R.length : Nat) : Int) == ((R.length : Nat) : Int) := by simp
    repeat' (first | with_reducible first | refine kI (by kernel_rfl) ?_ | simp -implicitDefEqProofs (disch := omega) only [go_sem, Nat.reduceAdd, Nat.reduceSub, reduceCtorEq, Nat.reduceLT, Nat.reduceLeDiff, Nat.reduceEqDiff, ↓reduceIte, List.take_of_length_le, if_pos, if_neg, getD_exs, evApp_st0, cnE, cnV, Tryz.ntmps10, Tryz.results10,  s1])
    refine LoopQ.mix (fun t0 L0 nn ss => ∃ (n : Nat) (_ : Unit), (∃ x : Nat → AV, ss = ⟨mixL 0 (.k :: .k :: .s :: .k :: .k :: .v (i64 (n : Nat)) :: .s :: .k :: .k :: .k :: .k :: .k :: .k :: .k :: .k :: .k :: .k :: .k :: .s :: .s :: .s :: .s :: .s :: .s :: .s :: .s :: .s :: .s :: .s :: .s :: .s :: .s :: .s :: .s :: .s :: .s :: .s :: .s :: .s :: .s :: .s :: .s :: .s :: .s :: .s :: .k :: .k :: .k :: .k :: .k :: .k :: []) t0 x, L0⟩) ∧ (n ≤ 10001) ∧ nn = 20000 - n) ?_ ?_
    · exact ⟨_, ⟨0, (), mixI rfl, Nat.zero_le _, rfl⟩⟩
    · rintro I0 hI0 nn ss ⟨n, _, ⟨y, rfl⟩, g1, rfl⟩
      by_cases hn : n ≤ s.size
      · have hni : (n : Int) ≤ (s.size : Int) := by omega
        have hex := ext_take s n hn
        have q6 := gRun_eq (s := s.extract 0 n) (by rw [ext_size]; omega)
        rw [hex, data_bs] at q6
        obtain ⟨x1, x2⟩ := hxp _ (hpre n)
        unfold runB at q6
        generalize bs (ansB bf0 (actsF 60 (s.data.toList.take n))) = E at *
        have x1' : (E.size : Int) ≤ (O.size : Int) := by omega
        have s2 := strEq_t E
        have hq : IntKind.i64.wrap ((s.size : Int).tdiv 20) = ((s.size / 20 : Nat) : Int) := by
          rw [Int.tdiv_eq_ediv_of_nonneg (by omega), wrap_in (by omega)]; rfl
        have hw1 : IntKind.i64.wrap ((n : Int) + 1) = (n : Int) + 1 := wrap_in (by omega)
        have hw2 : IntKind.i64.wrap ((n : Int) + 1 + ((s.size / 20 : Nat) : Int)) = ((n + 1 + s.size / 20 : Nat) : Int) := by rw [wrap_in (by omega)]; omega
        generalize bs (s.data.toList.take n) = Z at *
        repeat' (first | with_reducible first | refine kI (by kernel_rfl) ?_ | refine kN (by kernel_rfl) ?_ | simp -implicitDefEqProofs (disch := omega) only [go_sem, Nat.reduceAdd, Nat.reduceSub, reduceCtorEq, Nat.reduceLT, Nat.reduceLeDiff, Nat.reduceEqDiff, ↓reduceIte, List.take_of_length_le, if_pos, if_neg, getD_exs, evApp_st0, cnE, cnV, Tryz.ntmps10, Tryz.results10,  hni, hex, h1, q6, x1, x1', x2, s2, hq, hw1, hw2])
        exact ⟨20000 - (n + 1 + s.size / 20), by omega, hI0 _ _ ⟨n + 1 + s.size / 20, (), mixI rfl, by omega, rfl⟩⟩
      · have hni : ¬ (n : Int) ≤ (s.size : Int) := by omega
        repeat' (first | with_reducible first | refine kI (by kernel_rfl) ?_ | refine kN (by kernel_rfl) ?_ | simp -implicitDefEqProofs (disch := omega) only [go_sem, Nat.reduceAdd, Nat.reduceSub, reduceCtorEq, Nat.reduceLT, Nat.reduceLeDiff, Nat.reduceEqDiff, ↓reduceIte, List.take_of_length_le, if_pos, if_neg, getD_exs, evApp_st0, cnE, cnV, Tryz.ntmps10, Tryz.results10,  hni, h4, q4, h5, q5, hRl])
end Go.Proofs.YtkmnepmnjpdpkaaGreatDoor
