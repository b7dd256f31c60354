/- Contracts of functions that the laws of this seat call. -/
import Derived.Test.YtkmnepmnjpdpkaaGreatDoorXz
set_option linter.all false
namespace Go.Proofs.YtkmnepmnjpdpkaaGreatDoor
open Go Go.Ev Go.RowKit Go.Ev.Enc Go.Pl

theorem load_txt {S : List UInt8} {R : List Ac} {tl : List UInt8} (hv : ∀ a ∈ R, actV a) (h : S = linL R ++ tl) (hc : S.count 10 = R.length) (hl : S.length = 0 ∨ S.getD (S.length - 1) 0 = 10) : S = linL R := by
  have h0 : tl.count 10 = 0 := by rw [h, List.count_append, lin_cnt R hv] at hc; omega
  rcases List.eq_nil_or_concat tl with e | ⟨t, x, e⟩
  · rw [h, e, List.append_nil]
  · exfalso
    have hx : x ≠ 10 := by
      intro e2
      have := List.count_eq_zero.1 h0
      exact this (by rw [e, e2]; simp)
    have hS : S = (linL R ++ t) ++ [x] := by rw [h, e]; simp
    rcases hl with hl | hl
    · rw [hS] at hl; simp at hl
    · apply hx
      rw [← hl, hS]
      simp
theorem load_acts {R : List Ac} {a : Ac} (hv : ∀ x ∈ R, actV x) (ha : actV a) (hn : R.length < 60) : actsF 60 (linL R ++ fmtL a ++ [10]) = R ++ [a] := by
  rw [← lin_snoc]
  have := actsF_app (R ++ [a]) 60 [] (by
    intro x hx
    rcases List.mem_append.1 hx with hx | hx
    · exact hv x hx
    · simp at hx; subst hx; exact ha) (by simp; omega)
  rw [List.append_nil] at this
  rw [this, actsF_miss (by simp), List.append_nil]
set_option maxHeartbeats 8000000 in
set_option maxRecDepth 100000 in
theorem law_RunActsLoad {Sg Sd : FuncId → Option (List AV → Option AV)} (hS : Sound Tryz.prog Sg) (hD : Sound Tryz.prog Sd) (n1 : Sg 22 = none) (h1 : Sg 23 = some (F1 gRun)) (n2 : Sg 24 = none) (h4 : Sg 25 = some (F1 gNl)) (h5 : Sg 19 = some (F1 gActs)) (h8 : Sg 15 = some (F1 gAft)) (h9 : Sg 26 = some (F1 gOpF)) (h7 : Sg 27 = some (F1 gFmt)) (h6 : Sd 20 = some (F2 gAppX)) (hDr : DrTxt 22) (hR : RunS) : ∀ a r, F1 gTrueW a = some r → CSpec Tryz.prog 4 a r := by
  refine F1_spec ?_
  intro bs' r hr
  obtain ⟨g1, rfl⟩ := gd_some hr
  refine law3 Tryz.func4 rfl Tryz.pf hS hD ?_
  by_cases hb : 1048576 < bs'.length
  · repeat' (first | with_reducible first | refine kI (by kernel_rfl) ?_ | refine kN (by kernel_rfl) ?_ | simp -implicitDefEqProofs (disch := omega) only [go_sem, Nat.reduceAdd, Nat.reduceSub, reduceCtorEq, Nat.reduceLT, Nat.reduceLeDiff, Nat.reduceEqDiff, Nat.reduceMul, Int.reduceToNat, ↓reduceIte, List.take_of_length_le, if_pos, if_neg, getD_exs, cnE, cnV, Tryz.ntmps4, Tryz.results4])
  · repeat' (first | with_reducible first | refine kI (by kernel_rfl) ?_ | refine kN (by kernel_rfl) ?_ | simp -implicitDefEqProofs (disch := omega) only [go_sem, Nat.reduceAdd, Nat.reduceSub, reduceCtorEq, Nat.reduceLT, Nat.reduceLeDiff, Nat.reduceEqDiff, Nat.reduceMul, Int.reduceToNat, ↓reduceIte, List.take_of_length_le, if_pos, if_neg, getD_exs, cnE, cnV, Tryz.ntmps4, Tryz.results4,  n1, opQ_none])
    refine InlK_intro rfl rfl can_DrawRunActs ((hDr bs' (by omega) _).mono ?_)
    rintro r L1 ⟨s, hs, rfl, rfl⟩
    have hz := sz_data s
    have q1 := gRun_eq (s := s) (by omega)
    have q5 := gActs_eq (s := s) (by omega)
    have q4 := gNl_eq (s := s) (by omega)
    have q8 := gAft_eq (s := s) (by omega)
    have hlen := actsF_len 60 s.data.toList
    have hval := actsF_val 60 s.data.toList
    obtain ⟨tl, htl⟩ := actsF_txt 60 s.data.toList
    have hRs := hR s (by omega)
    unfold runB at q1 hRs
    generalize actsF 60 s.data.toList = R at *
    obtain ⟨O, hO⟩ : ∃ O, bs (ansB bf0 R) = O := ⟨_, rfl⟩
    have hOs : O.size ≤ 1500 * R.length := by rw [← hO, bs_size]; exact run_size R ok_bf0
    rw [hO] at q1 hRs
    have s1 := strEq_t O
    repeat' (first | with_reducible first | refine kI (by kernel_rfl) ?_ | refine kN (by kernel_rfl) ?_ | simp -implicitDefEqProofs (disch := omega) only [go_sem, Nat.reduceAdd, Nat.reduceSub, reduceCtorEq, Nat.reduceLT, Nat.reduceLeDiff, Nat.reduceEqDiff, Nat.reduceMul, Int.reduceToNat, ↓reduceIte, List.take_of_length_le, if_pos, if_neg, getD_exs, cnE, cnV, Tryz.ntmps4, Tryz.results4,  h1, q1, n2, opQ_none])
    refine InlK_intro rfl rfl can_RunActsS ((hRs _).mono ?_)
    rintro r L1 ⟨rfl, rfl⟩
    obtain ⟨c, hc⟩ : ∃ c, s.data.toList.count 10 = c := ⟨_, rfl⟩
    rw [hc] at q4
    by_cases c1 : c = R.length
    · have c1' : ((c : Int) == (R.length : Int)) = true := beq_t (by omega)
      by_cases c2 : 60 ≤ c
      · have c2' : (60 : Int) ≤ (c : Int) := by omega
        repeat' (first | with_reducible first | refine kI (by kernel_rfl) ?_ | refine kN (by kernel_rfl) ?_ | simp -implicitDefEqProofs (disch := omega) only [go_sem, Nat.reduceAdd, Nat.reduceSub, reduceCtorEq, Nat.reduceLT, Nat.reduceLeDiff, Nat.reduceEqDiff, Nat.reduceMul, Int.reduceToNat, ↓reduceIte, List.take_of_length_le, if_pos, if_neg, getD_exs, cnE, cnV, Tryz.ntmps4, Tryz.results4,  s1, h4, q4, h5, q5, c1', c2', n2, opQ_none])
        refine InlK_intro rfl rfl can_RunActsS ((hRs _).mono ?_)
        rintro r L1 ⟨rfl, rfl⟩
        repeat' (first | with_reducible first | refine kI (by kernel_rfl) ?_ | refine kN (by kernel_rfl) ?_ | simp -implicitDefEqProofs (disch := omega) only [go_sem, Nat.reduceAdd, Nat.reduceSub, reduceCtorEq, Nat.reduceLT, Nat.reduceLeDiff, Nat.reduceEqDiff, Nat.reduceMul, Int.reduceToNat, ↓reduceIte, List.take_of_length_le, if_pos, if_neg, getD_exs, cnE, cnV, Tryz.ntmps4, Tryz.results4,  s1])
      · have c2' : ¬ (60 : Int) ≤ (c : Int) := by omega
        have hw : IntKind.i64.wrap ((s.size : Int) - 1) = (s.size : Int) - 1 := wrap_in (by omega)
        have hst : ((s.size : Int) - 1).toNat = s.size - 1 := by omega
        by_cases c3 : s.size ≠ 0 ∧ s.data.toList.getD (s.size - 1) 0 ≠ 10
        · have c3' : (0 : Int) < (s.size : Int) := by omega
          have c4' : (0 : Int) ≤ (s.size : Int) - 1 := by omega
          have c5' : (s.size : Int) - 1 < (s.size : Int) := by omega
          have c6' : (((s.data.toList.getD (s.size - 1) 0).toNat : Int) == 10) = false := u8_ne c3.2
          repeat' (first | with_reducible first | refine kI (by kernel_rfl) ?_ | refine kN (by kernel_rfl) ?_ | simp -implicitDefEqProofs (disch := omega) only [go_sem, Nat.reduceAdd, Nat.reduceSub, reduceCtorEq, Nat.reduceLT, Nat.reduceLeDiff, Nat.reduceEqDiff, Nat.reduceMul, Int.reduceToNat, ↓reduceIte, List.take_of_length_le, if_pos, if_neg, getD_exs, cnE, cnV, Tryz.ntmps4, Tryz.results4,  s1, h4, q4, h5, q5, c1', c2', c3', hw, hst, c4', c5', c6', n2, opQ_none])
          refine InlK_intro rfl rfl can_RunActsS ((hRs _).mono ?_)
          rintro r L1 ⟨rfl, rfl⟩
          repeat' (first | with_reducible first | refine kI (by kernel_rfl) ?_ | refine kN (by kernel_rfl) ?_ | simp -implicitDefEqProofs (disch := omega) only [go_sem, Nat.reduceAdd, Nat.reduceSub, reduceCtorEq, Nat.reduceLT, Nat.reduceLeDiff, Nat.reduceEqDiff, Nat.reduceMul, Int.reduceToNat, ↓reduceIte, List.take_of_length_le, if_pos, if_neg, getD_exs, cnE, cnV, Tryz.ntmps4, Tryz.results4,  s1])
        · have hcl : s.data.toList.length = 0 ∨ s.data.toList.getD (s.data.toList.length - 1) 0 = 10 := by
            rw [hz]
            by_cases e : s.size = 0
            · exact .inl e
            · exact .inr (Classical.byContradiction fun e2 => c3 ⟨e, e2⟩)
          have hS := load_txt hval htl (by rw [hc]; exact c1) hcl
          obtain ⟨Bz, hBz⟩ : ∃ Bz, aftB bf0 R = Bz := ⟨_, rfl⟩
          rw [hBz] at q8
          by_cases hz0 : s.size = 0
          · have c3' : ¬ (0 : Int) < (s.size : Int) := by omega
            have hok : bufOK Bz = true := by rw [← hBz]; exact aft_ok R ok_bf0
            have q9 := gOpF_eq (bfB_of hok)
            rw [if_pos hok] at q9
            have hol := opF_len Bz
            have hb8 := (bufOK_iff.1 hok).2.1
            have hlt := fun x => @opF_lt Bz x
            generalize opF Bz = P at *
            by_cases hP : P = []
            · rw [hP] at q9
              repeat' (first | with_reducible first | refine kI (by kernel_rfl) ?_ | refine kN (by kernel_rfl) ?_ | simp -implicitDefEqProofs (disch := omega) only [go_sem, Nat.reduceAdd, Nat.reduceSub, reduceCtorEq, Nat.reduceLT, Nat.reduceLeDiff, Nat.reduceEqDiff, Nat.reduceMul, Int.reduceToNat, ↓reduceIte, List.take_of_length_le, if_pos, if_neg, getD_exs, cnE, cnV, Tryz.ntmps4, Tryz.results4,  s1, h4, q4, h5, q5, c1', c2', c3', h8, q8, h9, q9])
            · obtain ⟨o, P', rfl⟩ := List.exists_cons_of_ne_nil hP
              have hlo := hlt o (by simp)
              obtain ⟨P2, hP2⟩ : ∃ P2, o :: P' = P2 := ⟨_, rfl⟩
              obtain ⟨Q, hQ⟩ : ∃ Q, P2.take 1 = Q := ⟨_, rfl⟩
              have hQo : Q = [o] := by rw [← hQ, ← hP2]; rfl
              have ha : actV ⟨6, Q⟩ := by
                rw [hQo]
                exact ⟨⟨⟨show (0 : Int) ≤ 6 by decide, show (6 : Int) ≤ 7 by decide⟩, rfl⟩, fun x hx => by simp at hx; subst hx; omega⟩
              have hQl : Q.length = 1 := by rw [hQo]; rfl
              have hPl : 1 ≤ P2.length := by rw [← hP2]; simp
              rw [hP2] at q9 hol
              have hP1 : (1 : Int) ≤ (P2.length : Int) := by omega
              have hP0 : ((P2.length : Int) == 0) = false := beq_f (by omega)
              have q6 := gAppX_eq (B := Bz) (a := ⟨6, Q⟩) ⟨bfB_of hok, by dsimp only; omega⟩
              have ho : appO Bz ⟨6, Q⟩ = some (appF Bz ⟨6, Q⟩) := if_pos ⟨hok, actB_iff.2 ha⟩
              rw [ho] at q6
              simp only [btP] at q6
              have q7 := gFmt_eq (a := ⟨6, Q⟩) (by dsimp only; omega)
              have hF : fmtB ⟨6, Q⟩ = bs (fmtL ⟨6, Q⟩) := if_pos (actB_iff.2 ha)
              have hFs := fmt_size ⟨6, Q⟩
              have hts := app_size (a := ⟨6, Q⟩) hok
              have hla := load_acts hval ha (by omega)
              have hsn := ans_snoc bf0 R ⟨6, Q⟩
              rw [hBz, hO, ← ByteArray.append_assoc] at hsn
              have hn1 := z_nl
              have hss : (s ++ fmtB ⟨6, Q⟩ ++ cNl).data.toList = linL R ++ fmtL ⟨6, Q⟩ ++ [10] := by
                rw [hF, ← hS]
                conv => lhs; rw [← bs_data s, show cNl = bs [10] from rfl, bs_app, bs_app, data_bs]
              have q10 := gRun_eq (s := s ++ fmtB ⟨6, Q⟩ ++ cNl) (by rw [ByteArray.size_append, ByteArray.size_append]; omega)
              unfold runB at q10
              rw [hss, hla, hsn] at q10
              clear hss hla hsn hF ho
              generalize fmtB ⟨6, Q⟩ = F at *
              generalize appF Bz ⟨6, Q⟩ = AP at *
              obtain ⟨B', tx⟩ := AP
              dsimp only at q10 hts
              have w1 : s.size + F.size ≤ 9223372036854775807 := by omega
              have w2 : s.size + F.size + cNl.size ≤ 9223372036854775807 := by omega
              have w3 : O.size + tx.size ≤ 9223372036854775807 := by omega
              have w4 : O.size + tx.size + cNl.size ≤ 9223372036854775807 := by omega
              have s2 := strEq_t (O ++ tx ++ cNl)
              repeat' (first | with_reducible first | refine kI (by kernel_rfl) ?_ | simp -implicitDefEqProofs (disch := omega) only [go_sem, Nat.reduceAdd, Nat.reduceSub, reduceCtorEq, Nat.reduceLT, Nat.reduceLeDiff, Nat.reduceEqDiff, Nat.reduceMul, Int.reduceToNat, ↓reduceIte, List.take_of_length_le, if_pos, if_neg, getD_exs, cnE, cnV, Tryz.ntmps4, Tryz.results4,  s1, h4, q4, h5, q5, c1', c2', c3', h8, q8, h9, q9, hP0])
              refine DrawQ.any [([0, 1, 2, 3, 4, 5, 6, 7, 8], 9)] [10] [7] (by kernel_rfl) ?_
              repeat' (first | with_reducible first | refine kI (by kernel_rfl) ?_ | simp -implicitDefEqProofs (disch := omega) only [go_sem, Nat.reduceAdd, Nat.reduceSub, reduceCtorEq, Nat.reduceLT, Nat.reduceLeDiff, Nat.reduceEqDiff, Nat.reduceMul, Int.reduceToNat, ↓reduceIte, List.take_of_length_le, if_pos, if_neg, getD_exs, cnE, cnV, Tryz.ntmps4, Tryz.results4,  hP1, hPl, hQ, h6, q6, h7, q7, w1, w2, h1, q10, w3, w4, s2])
          · have c3' : (0 : Int) < (s.size : Int) := by omega
            have c4' : (0 : Int) ≤ (s.size : Int) - 1 := by omega
            have c5' : (s.size : Int) - 1 < (s.size : Int) := by omega
            have c6' : (((s.data.toList.getD (s.size - 1) 0).toNat : Int) == 10) = true := by
              rw [hz] at hcl
              rw [hcl.resolve_left hz0]; rfl
            have hok : bufOK Bz = true := by rw [← hBz]; exact aft_ok R ok_bf0
            have q9 := gOpF_eq (bfB_of hok)
            rw [if_pos hok] at q9
            have hol := opF_len Bz
            have hb8 := (bufOK_iff.1 hok).2.1
            have hlt := fun x => @opF_lt Bz x
            generalize opF Bz = P at *
            by_cases hP : P = []
            · rw [hP] at q9
              repeat' (first | with_reducible first | refine kI (by kernel_rfl) ?_ | refine kN (by kernel_rfl) ?_ | simp -implicitDefEqProofs (disch := omega) only [go_sem, Nat.reduceAdd, Nat.reduceSub, reduceCtorEq, Nat.reduceLT, Nat.reduceLeDiff, Nat.reduceEqDiff, Nat.reduceMul, Int.reduceToNat, ↓reduceIte, List.take_of_length_le, if_pos, if_neg, getD_exs, cnE, cnV, Tryz.ntmps4, Tryz.results4,  s1, h4, q4, h5, q5, c1', c2', c3', hw, hst, c4', c5', c6', h8, q8, h9, q9])
            · obtain ⟨o, P', rfl⟩ := List.exists_cons_of_ne_nil hP
              have hlo := hlt o (by simp)
              obtain ⟨P2, hP2⟩ : ∃ P2, o :: P' = P2 := ⟨_, rfl⟩
              obtain ⟨Q, hQ⟩ : ∃ Q, P2.take 1 = Q := ⟨_, rfl⟩
              have hQo : Q = [o] := by rw [← hQ, ← hP2]; rfl
              have ha : actV ⟨6, Q⟩ := by
                rw [hQo]
                exact ⟨⟨⟨show (0 : Int) ≤ 6 by decide, show (6 : Int) ≤ 7 by decide⟩, rfl⟩, fun x hx => by simp at hx; subst hx; omega⟩
              have hQl : Q.length = 1 := by rw [hQo]; rfl
              have hPl : 1 ≤ P2.length := by rw [← hP2]; simp
              rw [hP2] at q9 hol
              have hP1 : (1 : Int) ≤ (P2.length : Int) := by omega
              have hP0 : ((P2.length : Int) == 0) = false := beq_f (by omega)
              have q6 := gAppX_eq (B := Bz) (a := ⟨6, Q⟩) ⟨bfB_of hok, by dsimp only; omega⟩
              have ho : appO Bz ⟨6, Q⟩ = some (appF Bz ⟨6, Q⟩) := if_pos ⟨hok, actB_iff.2 ha⟩
              rw [ho] at q6
              simp only [btP] at q6
              have q7 := gFmt_eq (a := ⟨6, Q⟩) (by dsimp only; omega)
              have hF : fmtB ⟨6, Q⟩ = bs (fmtL ⟨6, Q⟩) := if_pos (actB_iff.2 ha)
              have hFs := fmt_size ⟨6, Q⟩
              have hts := app_size (a := ⟨6, Q⟩) hok
              have hla := load_acts hval ha (by omega)
              have hsn := ans_snoc bf0 R ⟨6, Q⟩
              rw [hBz, hO, ← ByteArray.append_assoc] at hsn
              have hn1 := z_nl
              have hss : (s ++ fmtB ⟨6, Q⟩ ++ cNl).data.toList = linL R ++ fmtL ⟨6, Q⟩ ++ [10] := by
                rw [hF, ← hS]
                conv => lhs; rw [← bs_data s, show cNl = bs [10] from rfl, bs_app, bs_app, data_bs]
              have q10 := gRun_eq (s := s ++ fmtB ⟨6, Q⟩ ++ cNl) (by rw [ByteArray.size_append, ByteArray.size_append]; omega)
              unfold runB at q10
              rw [hss, hla, hsn] at q10
              clear hss hla hsn hF ho
              generalize fmtB ⟨6, Q⟩ = F at *
              generalize appF Bz ⟨6, Q⟩ = AP at *
              obtain ⟨B', tx⟩ := AP
              dsimp only at q10 hts
              have w1 : s.size + F.size ≤ 9223372036854775807 := by omega
              have w2 : s.size + F.size + cNl.size ≤ 9223372036854775807 := by omega
              have w3 : O.size + tx.size ≤ 9223372036854775807 := by omega
              have w4 : O.size + tx.size + cNl.size ≤ 9223372036854775807 := by omega
              have s2 := strEq_t (O ++ tx ++ cNl)
              repeat' (first | with_reducible first | refine kI (by kernel_rfl) ?_ | simp -implicitDefEqProofs (disch := omega) only [go_sem, Nat.reduceAdd, Nat.reduceSub, reduceCtorEq, Nat.reduceLT, Nat.reduceLeDiff, Nat.reduceEqDiff, Nat.reduceMul, Int.reduceToNat, ↓reduceIte, List.take_of_length_le, if_pos, if_neg, getD_exs, cnE, cnV, Tryz.ntmps4, Tryz.results4,  s1, h4, q4, h5, q5, c1', c2', c3', hw, hst, c4', c5', c6', h8, q8, h9, q9, hP0])
              refine DrawQ.any [([0, 1, 2, 3, 4, 5, 6, 7, 8], 9)] [10] [7] (by kernel_rfl) ?_
              repeat' (first | with_reducible first | refine kI (by kernel_rfl) ?_ | simp -implicitDefEqProofs (disch := omega) only [go_sem, Nat.reduceAdd, Nat.reduceSub, reduceCtorEq, Nat.reduceLT, Nat.reduceLeDiff, Nat.reduceEqDiff, Nat.reduceMul, Int.reduceToNat, ↓reduceIte, List.take_of_length_le, if_pos, if_neg, getD_exs, cnE, cnV, Tryz.ntmps4, Tryz.results4,  hP1, hPl, hQ, h6, q6, h7, q7, w1, w2, h1, q10, w3, w4, s2])
    · have c1' : ((c : Int) == (R.length : Int)) = false := beq_f (by omega)
      repeat' (first | with_reducible first | refine kI (by kernel_rfl) ?_ | refine kN (by kernel_rfl) ?_ | simp -implicitDefEqProofs (disch := omega) only [go_sem, Nat.reduceAdd, Nat.reduceSub, reduceCtorEq, Nat.reduceLT, Nat.reduceLeDiff, Nat.reduceEqDiff, Nat.reduceMul, Int.reduceToNat, ↓reduceIte, List.take_of_length_le, if_pos, if_neg, getD_exs, cnE, cnV, Tryz.ntmps4, Tryz.results4,  s1, h4, q4, h5, q5, c1', n2, opQ_none])
      refine InlK_intro rfl rfl can_RunActsS ((hRs _).mono ?_)
      rintro r L1 ⟨rfl, rfl⟩
      repeat' (first | with_reducible first | refine kI (by kernel_rfl) ?_ | refine kN (by kernel_rfl) ?_ | simp -implicitDefEqProofs (disch := omega) only [go_sem, Nat.reduceAdd, Nat.reduceSub, reduceCtorEq, Nat.reduceLT, Nat.reduceLeDiff, Nat.reduceEqDiff, Nat.reduceMul, Int.reduceToNat, ↓reduceIte, List.take_of_length_le, if_pos, if_neg, getD_exs, cnE, cnV, Tryz.ntmps4, Tryz.results4,  s1])
end Go.Proofs.YtkmnepmnjpdpkaaGreatDoor
