/- Contracts of functions that the laws of this seat call. -/
import Derived.Test.YtkmnepmnjpdpkaaGreatDoorXt
set_option linter.all false
namespace Go.Proofs.YtkmnepmnjpdpkaaGreatDoor
open Go Go.Ev Go.RowKit Go.Ev.Enc Go.Pl

theorem fmt_ne {a : Ac} (h : actB a = true) : fmtB a ≠ ⟨#[]⟩ := by
  intro e
  have h0 : (fmtB a).size = 0 := by rw [e]; rfl
  unfold fmtB at h0
  rw [if_pos h, fmt_s, ByteArray.size_append, bs_size] at h0
  have := nm_len (k := a.k.toNat) (by have := (actB_iff.1 h).1.1; omega)
  omega
theorem par_fmt {a : Ac} (h : actB a = true) : parR (fmtB a).data.toList = (a, true) := by
  unfold fmtB
  rw [if_pos h, data_bs]
  unfold parR
  rw [parL_iff.2 ⟨actB_iff.1 h, rfl⟩]
theorem fmt_no {a : Ac} (h : actB a = false) : fmtB a = ⟨#[]⟩ := if_neg (by rw [h]; simp)
set_option maxHeartbeats 8000000 in
set_option maxRecDepth 100000 in
theorem law_FormatAct {Sg Sd : FuncId → Option (List AV → Option AV)} (hS : Sound Tryz.prog Sg) (hD : Sound Tryz.prog Sd) (n1 : Sg 31 = none) (h1 : Sg 27 = some (F1 gFmt)) (h2 : Sg 32 = some (F1 gFmt)) (h3 : Sg 33 = some (F1 gPar)) (h4 : Sg 34 = some (F2 gEqA)) (h5 : Sg 35 = some (F1 gActB)) (hDr : DrFmt 31) : ∀ a r, F1 gTrueW a = some r → CSpec Tryz.prog 7 a r := by
  refine F1_spec ?_
  intro bs r hr
  obtain ⟨g1, rfl⟩ := gd_some hr
  refine law3 Tryz.func7 rfl Tryz.pf hS hD ?_
  by_cases hb : 1048576 < bs.length
  · repeat' (first | with_reducible first | refine kI (by kernel_rfl) ?_ | refine kN (by kernel_rfl) ?_ | (first | refine kB1 ?_ ?_ | refine kB2 ?_ ?_) <;> intro hp | (first | refine kD1 ?_ ?_ | refine kD2 ?_ ?_ | refine kS1 ?_ ?_ | refine kS2 ?_ ?_) <;> intro hp <;> try simp only [hp] | simp -implicitDefEqProofs (disch := omega) only [go_sem, Nat.reduceAdd, Nat.reduceSub, reduceCtorEq, Nat.reduceLT, Nat.reduceLeDiff, Nat.reduceEqDiff, Nat.reduceMul, Int.reduceToNat, ↓reduceIte, List.take_of_length_le, if_pos, if_neg, List.getElem?_set_self, List.set_set, getD_exs, evApp_st0, cnE, cnV, Tryz.ntmps7, Tryz.results7])
  · repeat' (first | with_reducible first | refine kI (by kernel_rfl) ?_ | refine kN (by kernel_rfl) ?_ | (first | refine kB1 ?_ ?_ | refine kB2 ?_ ?_) <;> intro hp | (first | refine kD1 ?_ ?_ | refine kD2 ?_ ?_ | refine kS1 ?_ ?_ | refine kS2 ?_ ?_) <;> intro hp <;> try simp only [hp] | simp -implicitDefEqProofs (disch := omega) only [go_sem, Nat.reduceAdd, Nat.reduceSub, reduceCtorEq, Nat.reduceLT, Nat.reduceLeDiff, Nat.reduceEqDiff, Nat.reduceMul, Int.reduceToNat, ↓reduceIte, List.take_of_length_le, if_pos, if_neg, List.getElem?_set_self, List.set_set, getD_exs, evApp_st0, cnE, cnV, Tryz.ntmps7, Tryz.results7,  n1, opQ_none])
    refine InlK_intro rfl rfl can_DrawFormatAct ((hDr bs (by omega) _).mono ?_)
    rintro r L1 ⟨⟨k, l⟩, ha, rfl, rfl⟩
    dsimp only at ha
    have q1 := gFmt_eq (a := ⟨k, l⟩) (by dsimp only; omega)
    have hsz := fmt_size ⟨k, l⟩
    cases e : actB ⟨k, l⟩ with
    | false =>
      rw [fmt_no e] at q1
      have s1 := strEq_t ⟨#[]⟩
      repeat' (first | with_reducible first | refine kI (by kernel_rfl) ?_ | refine kN (by kernel_rfl) ?_ | (first | refine kB1 ?_ ?_ | refine kB2 ?_ ?_) <;> intro hp | (first | refine kD1 ?_ ?_ | refine kD2 ?_ ?_ | refine kS1 ?_ ?_ | refine kS2 ?_ ?_) <;> intro hp <;> try simp only [hp] | simp -implicitDefEqProofs (disch := omega) only [go_sem, Nat.reduceAdd, Nat.reduceSub, reduceCtorEq, Nat.reduceLT, Nat.reduceLeDiff, Nat.reduceEqDiff, Nat.reduceMul, Int.reduceToNat, ↓reduceIte, List.take_of_length_le, if_pos, if_neg, List.getElem?_set_self, List.set_set, getD_exs, evApp_st0, cnE, cnV, Tryz.ntmps7, Tryz.results7,  h1, q1, h2, s1])
    | true =>
      have hne := fmt_ne e
      have q3 := gPar_eq (s := fmtB ⟨k, l⟩) (by omega)
      rw [par_fmt e] at q3
      have q4 := gEqA_eq (a := ⟨k, l⟩) (b := ⟨k, l⟩) (by dsimp only; omega) (by dsimp only; omega)
      rw [decide_eq_true rfl] at q4
      have q5 := gActB_eq (a := ⟨k, l⟩) (by dsimp only; omega)
      rw [e] at q5
      generalize fmtB ⟨k, l⟩ = s at *
      have s1 := strEq_t s
      have s2 := strEq_f hne
      repeat' (first | with_reducible first | refine kI (by kernel_rfl) ?_ | refine kN (by kernel_rfl) ?_ | (first | refine kB1 ?_ ?_ | refine kB2 ?_ ?_) <;> intro hp | (first | refine kD1 ?_ ?_ | refine kD2 ?_ ?_ | refine kS1 ?_ ?_ | refine kS2 ?_ ?_) <;> intro hp <;> try simp only [hp] | simp -implicitDefEqProofs (disch := omega) only [go_sem, Nat.reduceAdd, Nat.reduceSub, reduceCtorEq, Nat.reduceLT, Nat.reduceLeDiff, Nat.reduceEqDiff, Nat.reduceMul, Int.reduceToNat, ↓reduceIte, List.take_of_length_le, if_pos, if_neg, List.getElem?_set_self, List.set_set, getD_exs, evApp_st0, cnE, cnV, Tryz.ntmps7, Tryz.results7,  h1, q1, h2, s1, s2, h3, q3, h4, q4, h5, q5])
set_option maxHeartbeats 8000000 in
set_option maxRecDepth 100000 in
theorem law_ParseAct {Sg Sd : FuncId → Option (List AV → Option AV)} (hS : Sound Tryz.prog Sg) (hD : Sound Tryz.prog Sd) (n1 : Sg 36 = none) (h1 : Sg 33 = some (F1 gPar)) (h2 : Sg 37 = some (F1 gPar)) (h4 : Sg 34 = some (F2 gEqA)) (h3 : Sg 27 = some (F1 gFmt)) (h5 : Sg 35 = some (F1 gActB)) (hDr : DrPar) : ∀ a r, F1 gTrueW a = some r → CSpec Tryz.prog 8 a r := by
  refine F1_spec ?_
  intro bs r hr
  obtain ⟨g1, rfl⟩ := gd_some hr
  refine law3 Tryz.func8 rfl Tryz.pf hS hD ?_
  by_cases hb : 1048576 < bs.length
  · repeat' (first | with_reducible first | refine kI (by kernel_rfl) ?_ | refine kN (by kernel_rfl) ?_ | (first | refine kB1 ?_ ?_ | refine kB2 ?_ ?_) <;> intro hp | (first | refine kD1 ?_ ?_ | refine kD2 ?_ ?_ | refine kS1 ?_ ?_ | refine kS2 ?_ ?_) <;> intro hp <;> try simp only [hp] | simp -implicitDefEqProofs (disch := omega) only [go_sem, Nat.reduceAdd, Nat.reduceSub, reduceCtorEq, Nat.reduceLT, Nat.reduceLeDiff, Nat.reduceEqDiff, Nat.reduceMul, Int.reduceToNat, ↓reduceIte, List.take_of_length_le, if_pos, if_neg, List.getElem?_set_self, List.set_set, getD_exs, evApp_st0, cnE, cnV, Tryz.ntmps8, Tryz.results8])
  · repeat' (first | with_reducible first | refine kI (by kernel_rfl) ?_ | refine kN (by kernel_rfl) ?_ | (first | refine kB1 ?_ ?_ | refine kB2 ?_ ?_) <;> intro hp | (first | refine kD1 ?_ ?_ | refine kD2 ?_ ?_ | refine kS1 ?_ ?_ | refine kS2 ?_ ?_) <;> intro hp <;> try simp only [hp] | simp -implicitDefEqProofs (disch := omega) only [go_sem, Nat.reduceAdd, Nat.reduceSub, reduceCtorEq, Nat.reduceLT, Nat.reduceLeDiff, Nat.reduceEqDiff, Nat.reduceMul, Int.reduceToNat, ↓reduceIte, List.take_of_length_le, if_pos, if_neg, List.getElem?_set_self, List.set_set, getD_exs, evApp_st0, cnE, cnV, Tryz.ntmps8, Tryz.results8,  n1, opQ_none])
    refine InlK_intro rfl rfl can_DrawParseAct ((hDr bs (by omega) _).mono ?_)
    rintro r L1 ⟨s, hs, rfl, rfl⟩
    have q1 := gPar_eq (s := s) (by omega)
    rcases par_cases s.data.toList with ⟨⟨k, l⟩, e1, e2⟩ | ⟨e1, e2⟩
    · rw [e2] at q1
      have hpn := par_num e1
      dsimp only at hpn
      obtain ⟨hv, hf⟩ := parL_iff.1 e1
      have hb := actB_iff.2 hv
      have q4 := gEqA_eq (a := ⟨k, l⟩) (b := ⟨k, l⟩) (by dsimp only; omega) (by dsimp only; omega)
      rw [decide_eq_true rfl] at q4
      have q5 := gActB_eq (a := ⟨k, l⟩) (by dsimp only; omega)
      rw [hb] at q5
      have q3 := gFmt_eq (a := ⟨k, l⟩) (by dsimp only; omega)
      have hfs : fmtB ⟨k, l⟩ = s := by
        unfold fmtB
        rw [if_pos hb, ← hf, bs_data]
      rw [hfs] at q3
      have s1 := strEq_t s
      repeat' (first | with_reducible first | refine kI (by kernel_rfl) ?_ | refine kN (by kernel_rfl) ?_ | (first | refine kB1 ?_ ?_ | refine kB2 ?_ ?_) <;> intro hp | (first | refine kD1 ?_ ?_ | refine kD2 ?_ ?_ | refine kS1 ?_ ?_ | refine kS2 ?_ ?_) <;> intro hp <;> try simp only [hp] | simp -implicitDefEqProofs (disch := omega) only [go_sem, Nat.reduceAdd, Nat.reduceSub, reduceCtorEq, Nat.reduceLT, Nat.reduceLeDiff, Nat.reduceEqDiff, Nat.reduceMul, Int.reduceToNat, ↓reduceIte, List.take_of_length_le, if_pos, if_neg, List.getElem?_set_self, List.set_set, getD_exs, evApp_st0, cnE, cnV, Tryz.ntmps8, Tryz.results8,  h1, q1, h2, h4, q4, h3, q3, s1, h5, q5])
    · rw [e2] at q1
      have q4 := gEqA_eq (a := ⟨0, []⟩) (b := ⟨0, []⟩) (by decide) (by decide)
      rw [decide_eq_true rfl] at q4
      repeat' (first | with_reducible first | refine kI (by kernel_rfl) ?_ | refine kN (by kernel_rfl) ?_ | (first | refine kB1 ?_ ?_ | refine kB2 ?_ ?_) <;> intro hp | (first | refine kD1 ?_ ?_ | refine kD2 ?_ ?_ | refine kS1 ?_ ?_ | refine kS2 ?_ ?_) <;> intro hp <;> try simp only [hp] | simp -implicitDefEqProofs (disch := omega) only [go_sem, Nat.reduceAdd, Nat.reduceSub, reduceCtorEq, Nat.reduceLT, Nat.reduceLeDiff, Nat.reduceEqDiff, Nat.reduceMul, Int.reduceToNat, ↓reduceIte, List.take_of_length_le, if_pos, if_neg, List.getElem?_set_self, List.set_set, getD_exs, evApp_st0, cnE, cnV, Tryz.ntmps8, Tryz.results8,  h1, q1, h2, h4, q4])
end Go.Proofs.YtkmnepmnjpdpkaaGreatDoor
