/- Contracts of functions that the laws of this seat call. -/
import Derived.Test.YtkmnepmnjpdpkaaGreatDoorXo
set_option linter.all false
namespace Go.Proofs.YtkmnepmnjpdpkaaGreatDoor
open Go Go.Ev Go.RowKit Go.Ev.Enc Go.Pl

theorem nmA_all : nmA.all AV.isCell = true := rfl
theorem dec_nmA : (dec (.ds 0 nmA) : Option (List ByteArray)) = some nmB := dec_strs nmB
theorem ee_nmA (L : List Blk) : expE (expC 0 L) (.ds 0 nmA) = .ds 0 nmA := ee_strs 0 0 L nmB
theorem ato_cases (u : List UInt8) : (∃ v, wInt u = some v ∧ atoF u = ⟨v, false⟩ ∧ u = Lib.itoa v ∧ i64R v) ∨ (wInt u = none ∧ (atoF u).e = true) ∨ (wInt u = none ∧ ∃ v, atoF u = ⟨v, false⟩ ∧ u ≠ Lib.itoa v ∧ i64R v) := by
  unfold wInt atoF
  cases h : Lib.atoiAll u
  · rename_i v
    have hb := Lib.atoiAll_bounds h
    dsimp only
    by_cases e : Lib.itoa v = u
    · rw [if_pos e]
      exact .inl ⟨v, rfl, rfl, e.symm, hb⟩
    · rw [if_neg e]
      exact .inr (.inr ⟨rfl, v, rfl, fun e' => e e'.symm, hb⟩)
  · exact .inr (.inl ⟨rfl, rfl⟩)
  · exact .inr (.inl ⟨rfl, rfl⟩)
theorem w_fail {r : List (List UInt8)} {i : Nat} {l : List Int} (hi : i < r.length) (h : wInts (r.take i) = some l) (hb : wInt (r.getD i []) = none) : wInts r = none := by
  have e := List.take_append_drop (i + 1) r
  rw [← e]
  apply wInts_none
  rw [take_sn0 hi, wInts_snoc, h, Option.bind_some, hb]
  rfl
theorem w_next {r : List (List UInt8)} {i : Nat} {l : List Int} {x : Int} (hi : i < r.length) (h : wInts (r.take i) = some l) (hb : wInt (r.getD i []) = some x) : wInts (r.take (i + 1)) = some (l ++ [x]) := by
  rw [take_sn0 hi, wInts_snoc, h, Option.bind_some, hb]
  rfl
theorem num_cmp2 (n : Int) (u : List UInt8) : ((numB n).toList == (bs u).toList) = decide (u = Lib.itoa n) := by
  rw [strEq]
  congr 1
  apply propext
  unfold numB
  exact ⟨fun h => (bs_inj h).symm, fun h => by rw [h]⟩
set_option maxHeartbeats 4000000 in
set_option maxRecDepth 100000 in
theorem spec_parseActI {Sg : FuncId → Option (List AV → Option AV)} (hS : Sound Tryz.prog Sg) (hs : Sg 119 = some (F2 gSplit)) (hx : Sg 120 = some (F2 gIdx)) (ha : Sg 121 = some (F1 gAtoi)) (hi : Sg 63 = some (F1 gNum)) (hv : Sg 62 = some (F1 gActB)) : ∀ a r, F1 gPar a = some r → CSpec Tryz.prog 73 a r := by
  refine F1_spec ?_
  intro s r0 hr0
  obtain ⟨h, rfl⟩ := gd_some hr0
  obtain ⟨w, r, hsp, hsz, hrl⟩ := words_ex s
  refine CSpec.intro Tryz.func73 rfl (own _) (vc3_sound Tryz.pf hS hS _ _ _ ?_)
  have q1 := gSplit_eq h
  rw [hsp] at q1
  have hwl : (List.map bs (w :: r)).length = r.length + 1 := by simp
  have hw0 := getD_wds (l := w :: r) (k := 0) (by simp)
  have hdr : (List.map bs (w :: r)).drop 1 = List.map bs r := rfl
  simp only [List.getD_cons_zero] at hw0
  have q2 := gIdx_eq (bs w)
  rw [data_bs] at q2
  have hpa := fun l h => par_w_some (S := s.data.toList) (w := w) (r := r) (l := l) hsp h
  generalize List.map bs (w :: r) = Ws at *
  generalize nmI w = K at *
  have hW : (Ws.length : Int) = (r.length : Int) + 1 := by omega
  have hW1 : 1 ≤ Ws.length := by omega
  have hW2 : Ws.length - 1 = r.length := by omega
  have hrl2 : (List.map bs r).length = r.length := by simp
  have hget := fun i (hi : i < r.length) => getD_wds (l := r) (k := i) hi
  generalize List.map bs r = Rs at *
  repeat' (first | with_reducible first | refine kI (by kernel_rfl) ?_ | simp -implicitDefEqProofs (disch := omega) only [go_sem, Nat.reduceAdd, Nat.reduceSub, reduceCtorEq, Nat.reduceLT, Nat.reduceLeDiff, Nat.reduceEqDiff, Nat.reduceMul, Int.reduceToNat, ↓reduceIte, List.take_of_length_le, if_pos, if_neg, getD_exs, evApp_st0, cnE, cnV, Tryz.ntmps73, Tryz.results73,  hs, q1])
  refine DrawQ.any [([0, 1, 2, 3, 4, 5, 6], 7)] [] [] (by kernel_rfl) ?_
  repeat' (first | with_reducible first | refine kI (by kernel_rfl) ?_ | simp -implicitDefEqProofs (disch := omega) only [go_sem, Nat.reduceAdd, Nat.reduceSub, reduceCtorEq, Nat.reduceLT, Nat.reduceLeDiff, Nat.reduceEqDiff, Nat.reduceMul, Int.reduceToNat, ↓reduceIte, List.take_of_length_le, if_pos, if_neg, getD_exs, evApp_st0, cnE, cnV, Tryz.ntmps73, Tryz.results73,  nmA_all, nmA_len, ee_nmA, dec_nmA, hwl, hw0, hx, q2, hdr, hrl2, hW2])
  refine LoopQ.mix (fun t0 L0 nn ss => ∃ (i : Nat) (l : List Int) (_ : Unit), (∃ x : Nat → AV, ss = ⟨mixL 0 (.k :: .k :: .k :: .s :: .k :: .k :: .k :: .s :: .s :: .s :: .k :: .k :: .k :: .k :: .k :: .k :: .k :: .k :: .k :: .k :: .k :: .v (i64 (i : Nat)) :: .s :: .s :: .s :: .s :: .s :: .s :: .s :: .s :: .s :: .s :: .s :: .s :: .s :: .s :: .s :: .s :: .s :: .s :: .s :: .s :: .s :: .s :: .s :: .s :: .k :: .k :: .k :: .k :: .k :: []) t0 x, [⟨2, [.agg [i64 0, .nilS]]⟩, ⟨2, [.agg [i64 K, nuR 2 i]]⟩] ++ nuN i l⟩) ∧ (i ≤ r.length) ∧ (wInts (r.take i) = some l) ∧ (l.length = i) ∧ nn = r.length - i) ?_ ?_
  · exact ⟨_, ⟨0, [], (), mixI rfl, Nat.zero_le _, rfl, rfl, rfl⟩⟩
  · rintro I0 hI0 nn ss ⟨i, l, _, ⟨y, rfl⟩, g1, g2, g3, rfl⟩
    by_cases hi' : i < r.length
    · have hii : (i : Int) < (r.length : Int) := by omega
      have hwd := hget i hi'
      have hxs := hsz (r.getD i []) (by rw [List.mem_cons]; right; simp [hi'])
      have qa := gAtoi_eq (s := bs (r.getD i [])) (by rw [bs_size]; omega)
      rw [data_bs] at qa
      have hwn := fun x hb => w_next (x := x) hi' g2 hb
      have hwf := fun hb => par_w_none hsp (w_fail hi' g2 hb)
      generalize r.getD i [] = u at *
      rcases ato_cases u with ⟨v, e1, e2, e3, e4⟩ | ⟨e1, e2⟩ | ⟨e1, v, e2, e3, e4⟩
      · have hnx := hwn v e1
        rw [e2] at qa
        have qi := gNum_eq e4
        have hcm := num_cmp2 v u
        rw [decide_eq_true e3] at hcm
        clear hwn hwf e3
        generalize numB v = N at *
        generalize bs u = M at *
        match i, hi', g3 with
        | 0, hi', g3 =>
          obtain rfl : l = [] := List.eq_nil_of_length_eq_zero g3
          repeat' (first | with_reducible first | refine kI (by kernel_rfl) ?_ | refine kN (by kernel_rfl) ?_ | simp -implicitDefEqProofs (disch := omega) only [go_sem, Nat.reduceAdd, Nat.reduceSub, reduceCtorEq, Nat.reduceLT, Nat.reduceLeDiff, Nat.reduceEqDiff, Nat.reduceMul, Int.reduceToNat, ↓reduceIte, List.take_of_length_le, if_pos, if_neg, getD_exs, evApp_st0, cnE, cnV, Tryz.ntmps73, Tryz.results73,  hii, hwd, hdr, hrl2, hW2, Tryz.underlying118, ha, qa, hi, qi, hcm, nuR_0, nuN_0])
          exact ⟨r.length - 1, by omega, hI0 _ _ ⟨0 + 1, [v], (), mixI rfl, hi', hnx, rfl, rfl⟩⟩
        | i + 1, hi', g3 =>
          repeat' (first | with_reducible first | refine kI (by kernel_rfl) ?_ | refine kN (by kernel_rfl) ?_ | simp -implicitDefEqProofs (disch := omega) only [go_sem, Nat.reduceAdd, Nat.reduceSub, reduceCtorEq, Nat.reduceLT, Nat.reduceLeDiff, Nat.reduceEqDiff, Nat.reduceMul, Int.reduceToNat, ↓reduceIte, List.take_of_length_le, if_pos, if_neg, getD_exs, evApp_st0, cnE, cnV, Tryz.ntmps73, Tryz.results73,  hii, hwd, hdr, hrl2, hW2, Tryz.underlying118, ha, qa, hi, qi, hcm, nuR_s, nuN_s, g3])
          exact ⟨r.length - (i + 1 + 1), by omega, hI0 _ _ ⟨i + 1 + 1, l ++ [v], (), mixI rfl, hi', hnx, (by rw [List.length_append, g3]; rfl), rfl⟩⟩
      · rw [hwf e1]
        obtain ⟨z, hz⟩ : ∃ z, atoF u = ⟨z, true⟩ := ⟨(atoF u).n, by rw [← e2]⟩
        rw [hz] at qa
        generalize bs u = M at *
        repeat' (first | with_reducible first | refine kI (by kernel_rfl) ?_ | refine kN (by kernel_rfl) ?_ | simp -implicitDefEqProofs (disch := omega) only [go_sem, Nat.reduceAdd, Nat.reduceSub, reduceCtorEq, Nat.reduceLT, Nat.reduceLeDiff, Nat.reduceEqDiff, Nat.reduceMul, Int.reduceToNat, ↓reduceIte, List.take_of_length_le, if_pos, if_neg, getD_exs, evApp_st0, cnE, cnV, Tryz.ntmps73, Tryz.results73,  hii, hwd, hdr, hrl2, hW2, Tryz.underlying118, ha, qa])
        try rfl
      · rw [hwf e1]
        rw [e2] at qa
        have qi := gNum_eq e4
        have hcm := num_cmp2 v u
        rw [decide_eq_false e3] at hcm
        clear hwn hwf e3
        generalize numB v = N at *
        generalize bs u = M at *
        repeat' (first | with_reducible first | refine kI (by kernel_rfl) ?_ | refine kN (by kernel_rfl) ?_ | simp -implicitDefEqProofs (disch := omega) only [go_sem, Nat.reduceAdd, Nat.reduceSub, reduceCtorEq, Nat.reduceLT, Nat.reduceLeDiff, Nat.reduceEqDiff, Nat.reduceMul, Int.reduceToNat, ↓reduceIte, List.take_of_length_le, if_pos, if_neg, getD_exs, evApp_st0, cnE, cnV, Tryz.ntmps73, Tryz.results73,  hii, hwd, hdr, hrl2, hW2, Tryz.underlying118, ha, qa, hi, qi, hcm])
        try rfl
    · have hir : i = r.length := by omega
      rw [hir, List.take_length] at g2
      have hni : ¬ (i : Int) < (r.length : Int) := by omega
      rw [hpa l g2]
      have qa := gActB_eq (a := ⟨K, l⟩) (by dsimp only; omega)
      cases e : actB ⟨K, l⟩ with
      | false =>
        rw [e] at qa
        rw [if_neg (by simp)]
        match i, g3 with
        | 0, g3 =>
          obtain rfl : l = [] := List.eq_nil_of_length_eq_zero g3
          repeat' (first | with_reducible first | refine kI (by kernel_rfl) ?_ | refine kN (by kernel_rfl) ?_ | simp -implicitDefEqProofs (disch := omega) only [go_sem, Nat.reduceAdd, Nat.reduceSub, reduceCtorEq, Nat.reduceLT, Nat.reduceLeDiff, Nat.reduceEqDiff, Nat.reduceMul, Int.reduceToNat, ↓reduceIte, List.take_of_length_le, if_pos, if_neg, getD_exs, evApp_st0, cnE, cnV, Tryz.ntmps73, Tryz.results73,  hni, hdr, hrl2, hW2, nuR_0, nuN_0, hv, qa])
          try rfl
        | i + 1, g3 =>
          repeat' (first | with_reducible first | refine kI (by kernel_rfl) ?_ | refine kN (by kernel_rfl) ?_ | simp -implicitDefEqProofs (disch := omega) only [go_sem, Nat.reduceAdd, Nat.reduceSub, reduceCtorEq, Nat.reduceLT, Nat.reduceLeDiff, Nat.reduceEqDiff, Nat.reduceMul, Int.reduceToNat, ↓reduceIte, List.take_of_length_le, if_pos, if_neg, getD_exs, evApp_st0, cnE, cnV, Tryz.ntmps73, Tryz.results73,  hni, hdr, hrl2, hW2, nuR_s, nuN_s, g3, hv, qa])
          try rfl
      | true =>
        rw [e] at qa
        rw [if_pos rfl]
        match i, g3 with
        | 0, g3 =>
          obtain rfl : l = [] := List.eq_nil_of_length_eq_zero g3
          repeat' (first | with_reducible first | refine kI (by kernel_rfl) ?_ | refine kN (by kernel_rfl) ?_ | simp -implicitDefEqProofs (disch := omega) only [go_sem, Nat.reduceAdd, Nat.reduceSub, reduceCtorEq, Nat.reduceLT, Nat.reduceLeDiff, Nat.reduceEqDiff, Nat.reduceMul, Int.reduceToNat, ↓reduceIte, List.take_of_length_le, if_pos, if_neg, getD_exs, evApp_st0, cnE, cnV, Tryz.ntmps73, Tryz.results73,  hni, hdr, hrl2, hW2, nuR_0, nuN_0, hv, qa])
          try rfl
        | i + 1, g3 =>
          repeat' (first | with_reducible first | refine kI (by kernel_rfl) ?_ | refine kN (by kernel_rfl) ?_ | simp -implicitDefEqProofs (disch := omega) only [go_sem, Nat.reduceAdd, Nat.reduceSub, reduceCtorEq, Nat.reduceLT, Nat.reduceLeDiff, Nat.reduceEqDiff, Nat.reduceMul, Int.reduceToNat, ↓reduceIte, List.take_of_length_le, if_pos, if_neg, getD_exs, evApp_st0, cnE, cnV, Tryz.ntmps73, Tryz.results73,  hni, hdr, hrl2, hW2, nuR_s, nuN_s, g3, hv, qa])
          try rfl
end Go.Proofs.YtkmnepmnjpdpkaaGreatDoor
