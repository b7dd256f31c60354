/- Contracts of functions that the laws of this seat call. -/
import Derived.Test.YtbibnkgcegbmiaaIe
set_option linter.all false
namespace Go.Proofs.Ytbibnkgcegbmiaa
open Go Go.Ev Go.RowKit Go.Ev.Enc Go.Pl

theorem mmR_turn {x y t : Tsr} (h : mmR x y = (t, true)) : mmR (turnX y) (turnX x) = (turnX t, true) ∧ tsrOK (turnX t) = true ∧ tsrOK x = true ∧ x.sh.length = 2 ∧ tsrOK y = true ∧ y.sh.length = 2 ∧ t.sh.length = 2 := by
  obtain ⟨p1, p2⟩ := mmR_ok h
  obtain ⟨q1, q2, q3⟩ := mm_turn p1 p2
  exact ⟨by unfold mmR; rw [q1]; simp [tsrT, q2], q2, q3⟩
theorem tsr_bd {x : Tsr} (h : tsrOK x = true) (hl : x.sh.length = 2) : x.sh.length ≤ 5 ∧ x.vl.length ≤ 100 := ⟨by omega, by have := tsr_vl60 h; omega⟩
set_option maxHeartbeats 8000000 in
set_option maxRecDepth 100000 in
theorem law_MatMulL {Sg Sd : FuncId → Option (List AV → Option AV)} (hS : Sound Try.prog Sg) (hD : Sound Try.prog Sd) (n1 : Sg 36 = none) (h1 : Sg 33 = some (F2 gMatMul)) (d1 : Sd 33 = some (F2 gMatMul)) (h2 : Sg 32 = some (F2 gMatMul)) (h3 : Sg 37 = some (F2 gEqTsr)) (d3 : Sd 37 = some (F2 gEqTsr)) (d4 : Sd 39 = some (F2 gTurn)) (hDr : DrMM) : ∀ a r, F1 gTrueB a = some r → CSpec Try.prog 11 a r := by
  refine F1_spec ?_
  intro bs r hr
  obtain ⟨g1, rfl⟩ := gd_some hr
  refine law3 Try.func11 rfl Try.pf hS hD ?_
  by_cases hb : 1048576 < bs.length
  · repeat' (first | with_reducible refine RegQ.intro (by kernel_rfl) ?_ | with_reducible refine DrawQ.nat (by kernel_rfl) ?_ | ((with_reducible refine condQ_dec (fun hp => ?_) (fun hp => ?_)) <;> try simp only [hp]) | with_reducible refine condQ_beq (fun hp => ?_) (fun hp => ?_) | ((with_reducible refine wantQ_dec (fun hp => ?_) (fun hp => ?_)) <;> try simp only [hp]) | with_reducible refine wantQ_beq (fun hp => ?_) (fun hp => ?_) | ((with_reducible refine condQ_split (fun hp => ?_) (fun hp => ?_)) <;> try simp only [hp]) | ((with_reducible refine wantQ_split (fun hp => ?_) (fun hp => ?_)) <;> try simp only [hp]) | simp -implicitDefEqProofs (disch := omega) only [go_sem, Nat.reduceAdd, Nat.reduceSub, reduceCtorEq, Nat.reduceLT, Nat.reduceLeDiff, Nat.reduceEqDiff, Nat.reduceMul, Int.reduceToNat, ↓reduceIte, List.take_of_length_le, evApp_n1, evApp_i0, evApp_i1, evApp_i2, evApp_i3, evApp_i4, evApp_i5, evApp_s0, evApp_s1, evApp_s2, evApp_s3, if_pos, if_neg, decide_eq_true, decide_eq_false, beq_t, beq_f, wrap_succ, wrap_in, getD_ints, getD_intss, getD_tsrs, fillA_len, fillA_at, fillA_full, evApp_z0, evApp_z1, evApp_z2, evApp_z3, evApp_i6, List.getElem?_set_self, List.set_set, Try.ntmps11, Try.results11])
  · repeat' (first | with_reducible refine RegQ.intro (by kernel_rfl) ?_ | with_reducible refine DrawQ.nat (by kernel_rfl) ?_ | ((with_reducible refine condQ_dec (fun hp => ?_) (fun hp => ?_)) <;> try simp only [hp]) | with_reducible refine condQ_beq (fun hp => ?_) (fun hp => ?_) | ((with_reducible refine wantQ_dec (fun hp => ?_) (fun hp => ?_)) <;> try simp only [hp]) | with_reducible refine wantQ_beq (fun hp => ?_) (fun hp => ?_) | ((with_reducible refine condQ_split (fun hp => ?_) (fun hp => ?_)) <;> try simp only [hp]) | ((with_reducible refine wantQ_split (fun hp => ?_) (fun hp => ?_)) <;> try simp only [hp]) | simp -implicitDefEqProofs (disch := omega) only [go_sem, Nat.reduceAdd, Nat.reduceSub, reduceCtorEq, Nat.reduceLT, Nat.reduceLeDiff, Nat.reduceEqDiff, Nat.reduceMul, Int.reduceToNat, ↓reduceIte, List.take_of_length_le, evApp_n1, evApp_i0, evApp_i1, evApp_i2, evApp_i3, evApp_i4, evApp_i5, evApp_s0, evApp_s1, evApp_s2, evApp_s3, if_pos, if_neg, decide_eq_true, decide_eq_false, beq_t, beq_f, wrap_succ, wrap_in, getD_ints, getD_intss, getD_tsrs, fillA_len, fillA_at, fillA_full, evApp_z0, evApp_z1, evApp_z2, evApp_z3, evApp_i6, List.getElem?_set_self, List.set_set, Try.ntmps11, Try.results11, n1, opQ_none])
    refine InlK_intro rfl rfl can_DrawMatMul ((hDr bs (by omega) _).mono ?_)
    rintro r L1 ⟨w, z, ⟨x1, x2⟩, ⟨y1, y2⟩, rfl, rfl⟩
    have u1 := gMatMul_eq (x := w) (y := z) ⟨⟨by omega, by omega⟩, ⟨by omega, by omega⟩⟩
    rcases mmR_cases w z with hM | ⟨t, hM, m1, m2, m3⟩
    · have u3 : gEqTsr ⟨[], []⟩ ⟨[], []⟩ = some true := gEqTsr_eq (a := ⟨[], []⟩) (b := ⟨[], []⟩) ⟨by decide, by decide⟩
      repeat' (first | with_reducible refine RegQ.intro (by kernel_rfl) ?_ | with_reducible refine DrawQ.nat (by kernel_rfl) ?_ | ((with_reducible refine condQ_dec (fun hp => ?_) (fun hp => ?_)) <;> try simp only [hp]) | with_reducible refine condQ_beq (fun hp => ?_) (fun hp => ?_) | ((with_reducible refine wantQ_dec (fun hp => ?_) (fun hp => ?_)) <;> try simp only [hp]) | with_reducible refine wantQ_beq (fun hp => ?_) (fun hp => ?_) | ((with_reducible refine condQ_split (fun hp => ?_) (fun hp => ?_)) <;> try simp only [hp]) | ((with_reducible refine wantQ_split (fun hp => ?_) (fun hp => ?_)) <;> try simp only [hp]) | simp -implicitDefEqProofs (disch := omega) only [go_sem, Nat.reduceAdd, Nat.reduceSub, reduceCtorEq, Nat.reduceLT, Nat.reduceLeDiff, Nat.reduceEqDiff, Nat.reduceMul, Int.reduceToNat, ↓reduceIte, List.take_of_length_le, evApp_n1, evApp_i0, evApp_i1, evApp_i2, evApp_i3, evApp_i4, evApp_i5, evApp_s0, evApp_s1, evApp_s2, evApp_s3, if_pos, if_neg, decide_eq_true, decide_eq_false, beq_t, beq_f, wrap_succ, wrap_in, getD_ints, getD_intss, getD_tsrs, fillA_len, fillA_at, fillA_full, evApp_z0, evApp_z1, evApp_z2, evApp_z3, evApp_i6, List.getElem?_set_self, List.set_set, Try.ntmps11, Try.results11, h1, u1, h2, hM, h3, u3, dec_zz])
    · have u3 : gEqTsr t t = some true := (gEqTsr_eq (a := t) (b := t) ⟨⟨by omega, by omega⟩, ⟨by omega, by omega⟩⟩).trans (by simp)
      obtain ⟨k1, k2, k3, k4, k5, k6, k7⟩ := mmR_turn hM
      have v1 := gTurn_eq k3 k4
      have v2 := gTurn_eq k5 k6
      have v3 := gTurn_eq m3 k7
      have l1 : (turnX w).sh.length = 2 := rfl
      have l2 : (turnX z).sh.length = 2 := rfl
      have l3 : (turnX t).sh.length = 2 := rfl
      obtain ⟨a, b, e, a1, a2, a3, a4⟩ := mat_sh k3 k4
      have o1 := turn_ok e k3 a1 a2 a3 a4
      obtain ⟨a', b', e', a1', a2', a3', a4'⟩ := mat_sh k5 k6
      have o2 := turn_ok e' k5 a1' a2' a3' a4'
      have b1 := tsr_vl60 o1
      have b2 := tsr_vl60 o2
      have b3 := tsr_vl60 k2
      have u2 := gMatMul_eq (x := turnX z) (y := turnX w) ⟨⟨by omega, by omega⟩, ⟨by omega, by omega⟩⟩
      rw [k1] at u2
      have u4 : gEqTsr (turnX t) (turnX t) = some true := (gEqTsr_eq (a := turnX t) (b := turnX t) ⟨⟨by omega, by omega⟩, ⟨by omega, by omega⟩⟩).trans (by simp)
      repeat' (first | with_reducible refine RegQ.intro (by kernel_rfl) ?_ | with_reducible refine DrawQ.nat (by kernel_rfl) ?_ | ((with_reducible refine condQ_dec (fun hp => ?_) (fun hp => ?_)) <;> try simp only [hp]) | with_reducible refine condQ_beq (fun hp => ?_) (fun hp => ?_) | ((with_reducible refine wantQ_dec (fun hp => ?_) (fun hp => ?_)) <;> try simp only [hp]) | with_reducible refine wantQ_beq (fun hp => ?_) (fun hp => ?_) | ((with_reducible refine condQ_split (fun hp => ?_) (fun hp => ?_)) <;> try simp only [hp]) | ((with_reducible refine wantQ_split (fun hp => ?_) (fun hp => ?_)) <;> try simp only [hp]) | simp -implicitDefEqProofs (disch := omega) only [go_sem, Nat.reduceAdd, Nat.reduceSub, reduceCtorEq, Nat.reduceLT, Nat.reduceLeDiff, Nat.reduceEqDiff, Nat.reduceMul, Int.reduceToNat, ↓reduceIte, List.take_of_length_le, evApp_n1, evApp_i0, evApp_i1, evApp_i2, evApp_i3, evApp_i4, evApp_i5, evApp_s0, evApp_s1, evApp_s2, evApp_s3, if_pos, if_neg, decide_eq_true, decide_eq_false, beq_t, beq_f, wrap_succ, wrap_in, getD_ints, getD_intss, getD_tsrs, fillA_len, fillA_at, fillA_full, evApp_z0, evApp_z1, evApp_z2, evApp_z3, evApp_i6, List.getElem?_set_self, List.set_set, Try.ntmps11, Try.results11, h1, u1, h2, hM, h3, u3, d1, d3, d4, ee_10, dec_10, v1, v2, v3, u2, u4])
end Go.Proofs.Ytbibnkgcegbmiaa
