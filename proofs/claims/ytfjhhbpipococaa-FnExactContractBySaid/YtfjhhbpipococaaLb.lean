/- Contracts of functions that the laws of this seat call. -/
import Derived.Test.YtfjhhbpipococaaKd
import Derived.Test.YtfjhhbpipococaaLa
set_option linter.all false
namespace Go.Proofs.Ytfjhhbpipococaa
open Go Go.Ev Go.RowKit Go.Ev.Enc Go.Pl

theorem can_conBy : CanCall Try.prog 14 := ⟨_, Try.func14, rfl, rfl⟩
def OConBy : Prop := ∀ (l : List Tsr) (b : List (List Int)) (out : List Int) (i j : Int), szOK l b → out.length ≤ 1048576 → OSpec Try.prog 14 [.ds 0 (l.map fun x => .agg [ints 0 x.sh, ints 0 x.vl]), .ds 0 (b.map fun r => .ds 0 (r.map fun n => .int .i64 n)), ints 0 out, i64 i, i64 j] (oR (tsrT (conBy l b out i j))) (oN (tsrT (conBy l b out i j)))
def gTrueD (l : List Tsr) (b : List (List Int)) (out : List Int) (_ _ : Int) : Option Bool := gd ((l.length ≤ 9223372036854775807 ∧ b.length ≤ 9223372036854775807 ∧ out.length ≤ 9223372036854775807) ∧ tsrsBig l ∧ bigRows b) true
set_option maxHeartbeats 8000000 in
set_option maxRecDepth 100000 in
theorem law_ConByX {Sg Sd : FuncId → Option (List AV → Option AV)} (hS : Sound Try.prog Sg) (hD : Sound Try.prog Sd) (h1 : Sg 8 = some (F2 gSzTsrs)) (h2 : Sg 9 = some (F2 gSzIntss)) (n4 : Sg 11 = none) (n5 : Sg 12 = none) (n6 : Sg 13 = none) (h3 : Sg 10 = some (F5 gConBy)) (n7 : Sg 14 = none) (h8 : Sg 16 = some (F2 gEqTsrs)) (h9 : Sg 17 = some (F2 gEqIntss)) (h10 : Sg 18 = some (F2 gEqInts)) (h11 : Sg 15 = some (F2 gEqTsr)) (h12 : Sg 23 = some (F2 gHeldT)) (m1 : Sg 19 = none) (m2 : Sg 20 = none) (m3 : Sg 21 = none) (m4 : Sg 22 = none) (oT : OToTS) (oS : OToISS) (oI : OToI) (oC : OConBy) (iT : IMarkTS) (iS : IMarkISS) (iI : IMarkI) (iM : IMarkT) (iZ : IMarkZ) (iV : IMarkV) : ∀ a r, F5 gTrueD a = some r → CSpec Try.prog 3 a r := by
  refine F5_spec ?_
  intro l b out i j r hr
  obtain ⟨⟨⟨g1, g2, g3⟩, g4, g5⟩, rfl⟩ := gd_some hr
  refine law2 Try.func3 rfl Try.pf hS hD ?_
  by_cases c1 : 1048576 < out.length
  · repeat' (first | with_reducible refine RegQ.intro (by kernel_rfl) ?_ | with_reducible refine DrawQ.nat (by kernel_rfl) ?_ | ((with_reducible refine condQ_dec (fun hp => ?_) (fun hp => ?_)) <;> try simp only [hp]) | with_reducible refine condQ_beq (fun hp => ?_) (fun hp => ?_) | ((with_reducible refine wantQ_dec (fun hp => ?_) (fun hp => ?_)) <;> try simp only [hp]) | with_reducible refine wantQ_beq (fun hp => ?_) (fun hp => ?_) | ((with_reducible refine condQ_split (fun hp => ?_) (fun hp => ?_)) <;> try simp only [hp]) | ((with_reducible refine wantQ_split (fun hp => ?_) (fun hp => ?_)) <;> try simp only [hp]) | simp -implicitDefEqProofs (disch := omega) only [go_sem, Nat.reduceAdd, Nat.reduceSub, reduceCtorEq, Nat.reduceLT, Nat.reduceLeDiff, Nat.reduceEqDiff, Nat.reduceMul, Int.reduceToNat, ↓reduceIte, List.take_of_length_le, evApp_n1, evApp_i0, evApp_i1, evApp_i2, evApp_i3, evApp_i4, evApp_i5, evApp_s0, evApp_s1, evApp_s2, evApp_s3, if_pos, if_neg, decide_eq_true, decide_eq_false, beq_t, beq_f, wrap_succ, wrap_in, getD_ints, getD_intss, getD_tsrs, fillA_len, fillA_at, fillA_full, evApp_z0, evApp_z1, evApp_z2, evApp_z3, evApp_i6, List.getElem?_set_self, List.set_set, evApp_d0, evApp_dT, evApp_dI, Try.ntmps3, Try.results3])
  · have e1 : gSzTsrs l 1048576 = some (szTS l 1048576) := gSzTsrs_eq ⟨⟨by omega, by omega, by omega⟩, g4⟩
    by_cases c2 : szTS l 1048576 < 0
    · repeat' (first | with_reducible refine RegQ.intro (by kernel_rfl) ?_ | with_reducible refine DrawQ.nat (by kernel_rfl) ?_ | ((with_reducible refine condQ_dec (fun hp => ?_) (fun hp => ?_)) <;> try simp only [hp]) | with_reducible refine condQ_beq (fun hp => ?_) (fun hp => ?_) | ((with_reducible refine wantQ_dec (fun hp => ?_) (fun hp => ?_)) <;> try simp only [hp]) | with_reducible refine wantQ_beq (fun hp => ?_) (fun hp => ?_) | ((with_reducible refine condQ_split (fun hp => ?_) (fun hp => ?_)) <;> try simp only [hp]) | ((with_reducible refine wantQ_split (fun hp => ?_) (fun hp => ?_)) <;> try simp only [hp]) | simp -implicitDefEqProofs (disch := omega) only [go_sem, Nat.reduceAdd, Nat.reduceSub, reduceCtorEq, Nat.reduceLT, Nat.reduceLeDiff, Nat.reduceEqDiff, Nat.reduceMul, Int.reduceToNat, ↓reduceIte, List.take_of_length_le, evApp_n1, evApp_i0, evApp_i1, evApp_i2, evApp_i3, evApp_i4, evApp_i5, evApp_s0, evApp_s1, evApp_s2, evApp_s3, if_pos, if_neg, decide_eq_true, decide_eq_false, beq_t, beq_f, wrap_succ, wrap_in, getD_ints, getD_intss, getD_tsrs, fillA_len, fillA_at, fillA_full, evApp_z0, evApp_z1, evApp_z2, evApp_z3, evApp_i6, List.getElem?_set_self, List.set_set, evApp_d0, evApp_dT, evApp_dI, Try.ntmps3, Try.results3, h1, e1])
    · obtain ⟨k1, k2, k3⟩ := szTS_ok (by omega) c2
      have e2 : gSzIntss b (szTS l 1048576) = some (szSS b (szTS l 1048576)) := gSzIntss_eq ⟨⟨by omega, by omega, by omega⟩, g5⟩
      by_cases c3 : szSS b (szTS l 1048576) < 0
      · repeat' (first | with_reducible refine RegQ.intro (by kernel_rfl) ?_ | with_reducible refine DrawQ.nat (by kernel_rfl) ?_ | ((with_reducible refine condQ_dec (fun hp => ?_) (fun hp => ?_)) <;> try simp only [hp]) | with_reducible refine condQ_beq (fun hp => ?_) (fun hp => ?_) | ((with_reducible refine wantQ_dec (fun hp => ?_) (fun hp => ?_)) <;> try simp only [hp]) | with_reducible refine wantQ_beq (fun hp => ?_) (fun hp => ?_) | ((with_reducible refine condQ_split (fun hp => ?_) (fun hp => ?_)) <;> try simp only [hp]) | ((with_reducible refine wantQ_split (fun hp => ?_) (fun hp => ?_)) <;> try simp only [hp]) | simp -implicitDefEqProofs (disch := omega) only [go_sem, Nat.reduceAdd, Nat.reduceSub, reduceCtorEq, Nat.reduceLT, Nat.reduceLeDiff, Nat.reduceEqDiff, Nat.reduceMul, Int.reduceToNat, ↓reduceIte, List.take_of_length_le, evApp_n1, evApp_i0, evApp_i1, evApp_i2, evApp_i3, evApp_i4, evApp_i5, evApp_s0, evApp_s1, evApp_s2, evApp_s3, if_pos, if_neg, decide_eq_true, decide_eq_false, beq_t, beq_f, wrap_succ, wrap_in, getD_ints, getD_intss, getD_tsrs, fillA_len, fillA_at, fillA_full, evApp_z0, evApp_z1, evApp_z2, evApp_z3, evApp_i6, List.getElem?_set_self, List.set_set, evApp_d0, evApp_dT, evApp_dI, Try.ntmps3, Try.results3, h1, e1, h2, e2])
      · obtain ⟨m1', m2', m3'⟩ := szSS_ok k3 c3
        have r1 : rowsOK b := fun k hk => by have := m2' k hk; omega
        have r2 : tsrsB l := fun k hk => by have := k2 k hk; exact ⟨by omega, by omega⟩
        have r3 : szOK l b := ⟨by omega, by omega, r2, r1⟩
        have u1 := gToTsrs_eq ⟨by omega, r2⟩
        have u2 := gToIntss_eq ⟨by omega, r1⟩
        have u3 := gToInts_eq (l := out) (by omega)
        have u4 := gConBy_eq (l := l) (b := b) (out := out) (i := i) (j := j) ⟨r3, by omega⟩
        have u5 := gEqTsrs_eq ⟨⟨by omega, by omega⟩, r2, r2⟩
        have u6 := gEqIntss_eq ⟨⟨by omega, by omega⟩, r1, r1⟩
        have u7 := gEqInts_eq (a := out) (b := out) ⟨by omega, by omega⟩
        have oC' := oC l b out i j r3 (by omega)
        cases hT : tsrT (conBy l b out i j) with
        | mk t o =>
        rw [hT] at u4 oC'
        repeat' (first | with_reducible refine RegQ.intro (by kernel_rfl) ?_ | with_reducible refine DrawQ.nat (by kernel_rfl) ?_ | ((with_reducible refine condQ_dec (fun hp => ?_) (fun hp => ?_)) <;> try simp only [hp]) | with_reducible refine condQ_beq (fun hp => ?_) (fun hp => ?_) | ((with_reducible refine wantQ_dec (fun hp => ?_) (fun hp => ?_)) <;> try simp only [hp]) | with_reducible refine wantQ_beq (fun hp => ?_) (fun hp => ?_) | ((with_reducible refine condQ_split (fun hp => ?_) (fun hp => ?_)) <;> try simp only [hp]) | ((with_reducible refine wantQ_split (fun hp => ?_) (fun hp => ?_)) <;> try simp only [hp]) | simp -implicitDefEqProofs (disch := omega) only [go_sem, Nat.reduceAdd, Nat.reduceSub, reduceCtorEq, Nat.reduceLT, Nat.reduceLeDiff, Nat.reduceEqDiff, Nat.reduceMul, Int.reduceToNat, ↓reduceIte, List.take_of_length_le, evApp_n1, evApp_i0, evApp_i1, evApp_i2, evApp_i3, evApp_i4, evApp_i5, evApp_s0, evApp_s1, evApp_s2, evApp_s3, if_pos, if_neg, decide_eq_true, decide_eq_false, beq_t, beq_f, wrap_succ, wrap_in, getD_ints, getD_intss, getD_tsrs, fillA_len, fillA_at, fillA_full, evApp_z0, evApp_z1, evApp_z2, evApp_z3, evApp_i6, List.getElem?_set_self, List.set_set, evApp_d0, evApp_dT, evApp_dI, Try.ntmps3, Try.results3, h1, e1, h2, e2, n4, opQ_none])
        refine InlK_intro rfl rfl can_toTS (callX (oT l k1 k2) (by simp only [go_sem, ints]) ?_)
        rintro p1 X1 hn1 hX1
        have a1 := holdT_new hn1 hX1
        have l1 := holdT_len hn1 hX1
        repeat' (first | with_reducible refine RegQ.intro (by kernel_rfl) ?_ | with_reducible refine DrawQ.nat (by kernel_rfl) ?_ | ((with_reducible refine condQ_dec (fun hp => ?_) (fun hp => ?_)) <;> try simp only [hp]) | with_reducible refine condQ_beq (fun hp => ?_) (fun hp => ?_) | ((with_reducible refine wantQ_dec (fun hp => ?_) (fun hp => ?_)) <;> try simp only [hp]) | with_reducible refine wantQ_beq (fun hp => ?_) (fun hp => ?_) | ((with_reducible refine condQ_split (fun hp => ?_) (fun hp => ?_)) <;> try simp only [hp]) | ((with_reducible refine wantQ_split (fun hp => ?_) (fun hp => ?_)) <;> try simp only [hp]) | simp -implicitDefEqProofs (disch := omega) only [go_sem, Nat.reduceAdd, Nat.reduceSub, reduceCtorEq, Nat.reduceLT, Nat.reduceLeDiff, Nat.reduceEqDiff, Nat.reduceMul, Int.reduceToNat, ↓reduceIte, List.take_of_length_le, evApp_n1, evApp_i0, evApp_i1, evApp_i2, evApp_i3, evApp_i4, evApp_i5, evApp_s0, evApp_s1, evApp_s2, evApp_s3, if_pos, if_neg, decide_eq_true, decide_eq_false, beq_t, beq_f, wrap_succ, wrap_in, getD_ints, getD_intss, getD_tsrs, fillA_len, fillA_at, fillA_full, evApp_z0, evApp_z1, evApp_z2, evApp_z3, evApp_i6, List.getElem?_set_self, List.set_set, evApp_d0, evApp_dT, evApp_dI, Try.ntmps3, Try.results3, n5, opQ_none])
        refine InlK_intro rfl rfl can_toISS (callX (oS b m1' m2') (by simp only [go_sem, ints]) ?_)
        rintro p2 X2 hn2 hX2
        have b1 := holdI_new hn2 hX2
        have l2 := holdI_len hn2 hX2
        have a2 := a1.gx hX2
        repeat' (first | with_reducible refine RegQ.intro (by kernel_rfl) ?_ | with_reducible refine DrawQ.nat (by kernel_rfl) ?_ | ((with_reducible refine condQ_dec (fun hp => ?_) (fun hp => ?_)) <;> try simp only [hp]) | with_reducible refine condQ_beq (fun hp => ?_) (fun hp => ?_) | ((with_reducible refine wantQ_dec (fun hp => ?_) (fun hp => ?_)) <;> try simp only [hp]) | with_reducible refine wantQ_beq (fun hp => ?_) (fun hp => ?_) | ((with_reducible refine condQ_split (fun hp => ?_) (fun hp => ?_)) <;> try simp only [hp]) | ((with_reducible refine wantQ_split (fun hp => ?_) (fun hp => ?_)) <;> try simp only [hp]) | simp -implicitDefEqProofs (disch := omega) only [go_sem, Nat.reduceAdd, Nat.reduceSub, reduceCtorEq, Nat.reduceLT, Nat.reduceLeDiff, Nat.reduceEqDiff, Nat.reduceMul, Int.reduceToNat, ↓reduceIte, List.take_of_length_le, evApp_n1, evApp_i0, evApp_i1, evApp_i2, evApp_i3, evApp_i4, evApp_i5, evApp_s0, evApp_s1, evApp_s2, evApp_s3, if_pos, if_neg, decide_eq_true, decide_eq_false, beq_t, beq_f, wrap_succ, wrap_in, getD_ints, getD_intss, getD_tsrs, fillA_len, fillA_at, fillA_full, evApp_z0, evApp_z1, evApp_z2, evApp_z3, evApp_i6, List.getElem?_set_self, List.set_set, evApp_d0, evApp_dT, evApp_dI, Try.ntmps3, Try.results3, n6, opQ_none])
        refine InlK_intro rfl rfl can_toI (callX (oI out (by omega)) (by simp only [go_sem, ints]) ?_)
        rintro p3 X3 hn3 hX3
        have d1 := one_new hn3 hX3
        have l3 := one_len hn3 hX3
        have a3 := a2.gx hX3
        have b3 := b1.gx hX3
        have q1 := expS_holdT a3
        have q2 := expS_holdI b3
        repeat' (first | with_reducible refine RegQ.intro (by kernel_rfl) ?_ | with_reducible refine DrawQ.nat (by kernel_rfl) ?_ | ((with_reducible refine condQ_dec (fun hp => ?_) (fun hp => ?_)) <;> try simp only [hp]) | with_reducible refine condQ_beq (fun hp => ?_) (fun hp => ?_) | ((with_reducible refine wantQ_dec (fun hp => ?_) (fun hp => ?_)) <;> try simp only [hp]) | with_reducible refine wantQ_beq (fun hp => ?_) (fun hp => ?_) | ((with_reducible refine condQ_split (fun hp => ?_) (fun hp => ?_)) <;> try simp only [hp]) | ((with_reducible refine wantQ_split (fun hp => ?_) (fun hp => ?_)) <;> try simp only [hp]) | simp -implicitDefEqProofs (disch := omega) only [go_sem, Nat.reduceAdd, Nat.reduceSub, reduceCtorEq, Nat.reduceLT, Nat.reduceLeDiff, Nat.reduceEqDiff, Nat.reduceMul, Int.reduceToNat, ↓reduceIte, List.take_of_length_le, evApp_n1, evApp_i0, evApp_i1, evApp_i2, evApp_i3, evApp_i4, evApp_i5, evApp_s0, evApp_s1, evApp_s2, evApp_s3, if_pos, if_neg, decide_eq_true, decide_eq_false, beq_t, beq_f, wrap_succ, wrap_in, getD_ints, getD_intss, getD_tsrs, fillA_len, fillA_at, fillA_full, evApp_z0, evApp_z1, evApp_z2, evApp_z3, evApp_i6, List.getElem?_set_self, List.set_set, evApp_d0, evApp_dT, evApp_dI, Try.ntmps3, Try.results3, h3, u4, a3.1, q1, b3.1, q2, d1, n4, opQ_none])
        refine InlK_intro rfl rfl can_toTS (callX (oT l k1 k2) (by simp only [go_sem, ints]) ?_)
        rintro p4 X4 hn4 hX4
        have a4 := holdT_new hn4 hX4
        have l4 := holdT_len hn4 hX4
        have z4 := gxA hX4 (gxl (L := X3))
        repeat' (first | with_reducible refine RegQ.intro (by kernel_rfl) ?_ | with_reducible refine DrawQ.nat (by kernel_rfl) ?_ | ((with_reducible refine condQ_dec (fun hp => ?_) (fun hp => ?_)) <;> try simp only [hp]) | with_reducible refine condQ_beq (fun hp => ?_) (fun hp => ?_) | ((with_reducible refine wantQ_dec (fun hp => ?_) (fun hp => ?_)) <;> try simp only [hp]) | with_reducible refine wantQ_beq (fun hp => ?_) (fun hp => ?_) | ((with_reducible refine condQ_split (fun hp => ?_) (fun hp => ?_)) <;> try simp only [hp]) | ((with_reducible refine wantQ_split (fun hp => ?_) (fun hp => ?_)) <;> try simp only [hp]) | simp -implicitDefEqProofs (disch := omega) only [go_sem, Nat.reduceAdd, Nat.reduceSub, reduceCtorEq, Nat.reduceLT, Nat.reduceLeDiff, Nat.reduceEqDiff, Nat.reduceMul, Int.reduceToNat, ↓reduceIte, List.take_of_length_le, evApp_n1, evApp_i0, evApp_i1, evApp_i2, evApp_i3, evApp_i4, evApp_i5, evApp_s0, evApp_s1, evApp_s2, evApp_s3, if_pos, if_neg, decide_eq_true, decide_eq_false, beq_t, beq_f, wrap_succ, wrap_in, getD_ints, getD_intss, getD_tsrs, fillA_len, fillA_at, fillA_full, evApp_z0, evApp_z1, evApp_z2, evApp_z3, evApp_i6, List.getElem?_set_self, List.set_set, evApp_d0, evApp_dT, evApp_dI, Try.ntmps3, Try.results3, n5, opQ_none])
        refine InlK_intro rfl rfl can_toISS (callX (oS b m1' m2') (by simp only [go_sem, ints]) ?_)
        rintro p5 X5 hn5 hX5
        have b5 := holdI_new hn5 hX5
        have l5 := holdI_len hn5 hX5
        have a5 := a4.gx hX5
        have z5 := gxA hX5 z4
        repeat' (first | with_reducible refine RegQ.intro (by kernel_rfl) ?_ | with_reducible refine DrawQ.nat (by kernel_rfl) ?_ | ((with_reducible refine condQ_dec (fun hp => ?_) (fun hp => ?_)) <;> try simp only [hp]) | with_reducible refine condQ_beq (fun hp => ?_) (fun hp => ?_) | ((with_reducible refine wantQ_dec (fun hp => ?_) (fun hp => ?_)) <;> try simp only [hp]) | with_reducible refine wantQ_beq (fun hp => ?_) (fun hp => ?_) | ((with_reducible refine condQ_split (fun hp => ?_) (fun hp => ?_)) <;> try simp only [hp]) | ((with_reducible refine wantQ_split (fun hp => ?_) (fun hp => ?_)) <;> try simp only [hp]) | simp -implicitDefEqProofs (disch := omega) only [go_sem, Nat.reduceAdd, Nat.reduceSub, reduceCtorEq, Nat.reduceLT, Nat.reduceLeDiff, Nat.reduceEqDiff, Nat.reduceMul, Int.reduceToNat, ↓reduceIte, List.take_of_length_le, evApp_n1, evApp_i0, evApp_i1, evApp_i2, evApp_i3, evApp_i4, evApp_i5, evApp_s0, evApp_s1, evApp_s2, evApp_s3, if_pos, if_neg, decide_eq_true, decide_eq_false, beq_t, beq_f, wrap_succ, wrap_in, getD_ints, getD_intss, getD_tsrs, fillA_len, fillA_at, fillA_full, evApp_z0, evApp_z1, evApp_z2, evApp_z3, evApp_i6, List.getElem?_set_self, List.set_set, evApp_d0, evApp_dT, evApp_dI, Try.ntmps3, Try.results3, n6, opQ_none])
        refine InlK_intro rfl rfl can_toI (callX (oI out (by omega)) (by simp only [go_sem, ints]) ?_)
        rintro p6 X6 hn6 hX6
        have d6 := one_new hn6 hX6
        have l6 := one_len hn6 hX6
        have a6 := a5.gx hX6
        have b6 := b5.gx hX6
        have z6 := gxA hX6 z5
        have q3 := expS_holdT a6
        have q4 := expS_holdI b6
        repeat' (first | with_reducible refine RegQ.intro (by kernel_rfl) ?_ | with_reducible refine DrawQ.nat (by kernel_rfl) ?_ | ((with_reducible refine condQ_dec (fun hp => ?_) (fun hp => ?_)) <;> try simp only [hp]) | with_reducible refine condQ_beq (fun hp => ?_) (fun hp => ?_) | ((with_reducible refine wantQ_dec (fun hp => ?_) (fun hp => ?_)) <;> try simp only [hp]) | with_reducible refine wantQ_beq (fun hp => ?_) (fun hp => ?_) | ((with_reducible refine condQ_split (fun hp => ?_) (fun hp => ?_)) <;> try simp only [hp]) | ((with_reducible refine wantQ_split (fun hp => ?_) (fun hp => ?_)) <;> try simp only [hp]) | simp -implicitDefEqProofs (disch := omega) only [go_sem, Nat.reduceAdd, Nat.reduceSub, reduceCtorEq, Nat.reduceLT, Nat.reduceLeDiff, Nat.reduceEqDiff, Nat.reduceMul, Int.reduceToNat, ↓reduceIte, List.take_of_length_le, evApp_n1, evApp_i0, evApp_i1, evApp_i2, evApp_i3, evApp_i4, evApp_i5, evApp_s0, evApp_s1, evApp_s2, evApp_s3, if_pos, if_neg, decide_eq_true, decide_eq_false, beq_t, beq_f, wrap_succ, wrap_in, getD_ints, getD_intss, getD_tsrs, fillA_len, fillA_at, fillA_full, evApp_z0, evApp_z1, evApp_z2, evApp_z3, evApp_i6, List.getElem?_set_self, List.set_set, evApp_d0, evApp_dT, evApp_dI, Try.ntmps3, Try.results3, n7, opQ_none])
        refine InlK_intro rfl rfl can_conBy (callX oC' (by simp only [go_sem, ints, a6.1, b6.1, d6, q3, q4]) ?_)
        rintro p7 X7 hn7 hX7
        have a7 := a6.gx hX7
        have b7 := b6.gx hX7
        have z7 := gxA hX7 z6
        have d7 := gxA hX7 d6
        have ⟨ho, hlen⟩ := tsrT_facts hT
        have u8 := gEqTsr_eq (a := t) (b := t) ⟨⟨by omega, by omega⟩, ⟨by omega, by omega⟩⟩
        have w8 := fun A : Blk => gx1 (A := A) z7
        by_cases hsh : t.sh = []
        · obtain ⟨sh, vl⟩ := t
          obtain rfl : sh = [] := hsh
          have hlv : vl.length ≤ 60 := hlen.2
          cases o with
          | false =>
            obtain rfl : vl = [] := congrArg Tsr.vl (ho rfl)
            have l7 : X7.length = p7 := by rw [hn7, hX7]; simp [oN]
            have z7' : X7[X3.length]? = some ⟨2, [.agg [ints 1 [], ints 1 []]]⟩ := z7
            have w8 := fun A : Blk => gx1 (A := A) z7'
            rw [show oR (⟨[], []⟩, false) p7 = .tup [.agg [.nilS, .nilS], .bool false] from rfl]
            repeat' (first | with_reducible refine RegQ.intro (by kernel_rfl) ?_ | with_reducible refine DrawQ.nat (by kernel_rfl) ?_ | ((with_reducible refine condQ_dec (fun hp => ?_) (fun hp => ?_)) <;> try simp only [hp]) | with_reducible refine condQ_beq (fun hp => ?_) (fun hp => ?_) | ((with_reducible refine wantQ_dec (fun hp => ?_) (fun hp => ?_)) <;> try simp only [hp]) | with_reducible refine wantQ_beq (fun hp => ?_) (fun hp => ?_) | ((with_reducible refine condQ_split (fun hp => ?_) (fun hp => ?_)) <;> try simp only [hp]) | ((with_reducible refine wantQ_split (fun hp => ?_) (fun hp => ?_)) <;> try simp only [hp]) | simp -implicitDefEqProofs (disch := omega) only [go_sem, Nat.reduceAdd, Nat.reduceSub, reduceCtorEq, Nat.reduceLT, Nat.reduceLeDiff, Nat.reduceEqDiff, Nat.reduceMul, Int.reduceToNat, ↓reduceIte, List.take_of_length_le, evApp_n1, evApp_i0, evApp_i1, evApp_i2, evApp_i3, evApp_i4, evApp_i5, evApp_s0, evApp_s1, evApp_s2, evApp_s3, if_pos, if_neg, decide_eq_true, decide_eq_false, beq_t, beq_f, wrap_succ, wrap_in, getD_ints, getD_intss, getD_tsrs, fillA_len, fillA_at, fillA_full, evApp_z0, evApp_z1, evApp_z2, evApp_z3, evApp_i6, List.getElem?_set_self, List.set_set, evApp_d0, evApp_dT, evApp_dI, Try.ntmps3, Try.results3, h11, w8, u8, dec_zz, n4, opQ_none, tk_app])
            refine InlK_intro rfl rfl can_toTS (callX (oT l k1 k2) (by simp only [go_sem, ints]) ?_)
            rintro p9 X9 hp9 hX9
            have l8 : (X7 ++ [(⟨2, [.agg [.nilS, .nilS]]⟩ : Blk)]).length = X7.length + 1 := by simp
            have s1 := holdT_new hp9 hX9
            have l9 := holdT_len hp9 hX9
            have a9 := (a7.gx (N := [⟨2, [.agg [.nilS, .nilS]]⟩]) rfl).gx hX9
            have b9 := (b7.gx (N := [⟨2, [.agg [.nilS, .nilS]]⟩]) rfl).gx hX9
            have d9 := gxA hX9 (gx1 d7)
            have z9 := gxA hX9 (w8 _)
            have y9 := gxA hX9 gxl
            have q5 := expS_holdT a9
            have q6 := expS_holdT s1
            repeat' (first | with_reducible refine RegQ.intro (by kernel_rfl) ?_ | with_reducible refine DrawQ.nat (by kernel_rfl) ?_ | ((with_reducible refine condQ_dec (fun hp => ?_) (fun hp => ?_)) <;> try simp only [hp]) | with_reducible refine condQ_beq (fun hp => ?_) (fun hp => ?_) | ((with_reducible refine wantQ_dec (fun hp => ?_) (fun hp => ?_)) <;> try simp only [hp]) | with_reducible refine wantQ_beq (fun hp => ?_) (fun hp => ?_) | ((with_reducible refine condQ_split (fun hp => ?_) (fun hp => ?_)) <;> try simp only [hp]) | ((with_reducible refine wantQ_split (fun hp => ?_) (fun hp => ?_)) <;> try simp only [hp]) | simp -implicitDefEqProofs (disch := omega) only [go_sem, Nat.reduceAdd, Nat.reduceSub, reduceCtorEq, Nat.reduceLT, Nat.reduceLeDiff, Nat.reduceEqDiff, Nat.reduceMul, Int.reduceToNat, ↓reduceIte, List.take_of_length_le, evApp_n1, evApp_i0, evApp_i1, evApp_i2, evApp_i3, evApp_i4, evApp_i5, evApp_s0, evApp_s1, evApp_s2, evApp_s3, if_pos, if_neg, decide_eq_true, decide_eq_false, beq_t, beq_f, wrap_succ, wrap_in, getD_ints, getD_intss, getD_tsrs, fillA_len, fillA_at, fillA_full, evApp_z0, evApp_z1, evApp_z2, evApp_z3, evApp_i6, List.getElem?_set_self, List.set_set, evApp_d0, evApp_dT, evApp_dI, Try.ntmps3, Try.results3, h8, a9.1, s1.1, q5, q6, u5, n5, opQ_none])
            refine InlK_intro rfl rfl can_toISS (callX (oS b m1' m2') (by simp only [go_sem, ints]) ?_)
            rintro p10 X10 hp10 hX10
            have s2 := holdI_new hp10 hX10
            have l10 := holdI_len hp10 hX10
            have b10 := b9.gx hX10
            have q7 := expS_holdI b10
            have q8 := expS_holdI s2
            repeat' (first | with_reducible refine RegQ.intro (by kernel_rfl) ?_ | with_reducible refine DrawQ.nat (by kernel_rfl) ?_ | ((with_reducible refine condQ_dec (fun hp => ?_) (fun hp => ?_)) <;> try simp only [hp]) | with_reducible refine condQ_beq (fun hp => ?_) (fun hp => ?_) | ((with_reducible refine wantQ_dec (fun hp => ?_) (fun hp => ?_)) <;> try simp only [hp]) | with_reducible refine wantQ_beq (fun hp => ?_) (fun hp => ?_) | ((with_reducible refine condQ_split (fun hp => ?_) (fun hp => ?_)) <;> try simp only [hp]) | ((with_reducible refine wantQ_split (fun hp => ?_) (fun hp => ?_)) <;> try simp only [hp]) | simp -implicitDefEqProofs (disch := omega) only [go_sem, Nat.reduceAdd, Nat.reduceSub, reduceCtorEq, Nat.reduceLT, Nat.reduceLeDiff, Nat.reduceEqDiff, Nat.reduceMul, Int.reduceToNat, ↓reduceIte, List.take_of_length_le, evApp_n1, evApp_i0, evApp_i1, evApp_i2, evApp_i3, evApp_i4, evApp_i5, evApp_s0, evApp_s1, evApp_s2, evApp_s3, if_pos, if_neg, decide_eq_true, decide_eq_false, beq_t, beq_f, wrap_succ, wrap_in, getD_ints, getD_intss, getD_tsrs, fillA_len, fillA_at, fillA_full, evApp_z0, evApp_z1, evApp_z2, evApp_z3, evApp_i6, List.getElem?_set_self, List.set_set, evApp_d0, evApp_dT, evApp_dI, Try.ntmps3, Try.results3, h9, b10.1, s2.1, q7, q8, u6, n6, opQ_none])
            refine InlK_intro rfl rfl can_toI (callX (oI out (by omega)) (by simp only [go_sem, ints]) ?_)
            rintro p11 X11 hp11 hX11
            have s3 := one_new hp11 hX11
            have l11 := one_len hp11 hX11
            have d11 := gxA hX11 (gxA hX10 d9)
            have a11 := (a9.gx hX10).gx hX11
            have b11 := b10.gx hX11
            have z11 := gxA hX11 (gxA hX10 z9)
            have y11 := gxA hX11 (gxA hX10 y9)
            have e4 : p4 = X3.length + 1 := by simpa using hn4
            repeat' (first | with_reducible refine RegQ.intro (by kernel_rfl) ?_ | with_reducible refine DrawQ.nat (by kernel_rfl) ?_ | ((with_reducible refine condQ_dec (fun hp => ?_) (fun hp => ?_)) <;> try simp only [hp]) | with_reducible refine condQ_beq (fun hp => ?_) (fun hp => ?_) | ((with_reducible refine wantQ_dec (fun hp => ?_) (fun hp => ?_)) <;> try simp only [hp]) | with_reducible refine wantQ_beq (fun hp => ?_) (fun hp => ?_) | ((with_reducible refine condQ_split (fun hp => ?_) (fun hp => ?_)) <;> try simp only [hp]) | ((with_reducible refine wantQ_split (fun hp => ?_) (fun hp => ?_)) <;> try simp only [hp]) | simp -implicitDefEqProofs (disch := omega) only [go_sem, Nat.reduceAdd, Nat.reduceSub, reduceCtorEq, Nat.reduceLT, Nat.reduceLeDiff, Nat.reduceEqDiff, Nat.reduceMul, Int.reduceToNat, ↓reduceIte, List.take_of_length_le, evApp_n1, evApp_i0, evApp_i1, evApp_i2, evApp_i3, evApp_i4, evApp_i5, evApp_s0, evApp_s1, evApp_s2, evApp_s3, if_pos, if_neg, decide_eq_true, decide_eq_false, beq_t, beq_f, wrap_succ, wrap_in, getD_ints, getD_intss, getD_tsrs, fillA_len, fillA_at, fillA_full, evApp_z0, evApp_z1, evApp_z2, evApp_z3, evApp_i6, List.getElem?_set_self, List.set_set, evApp_d0, evApp_dT, evApp_dI, Try.ntmps3, Try.results3, h10, d11, s3, u7, m1, opQ_none])
            refine InlK_intro rfl rfl can_markTS ((iT l 1 p4 X11 a11 k1 k2 (by omega)).mono ?_)
            rintro r Y1 ⟨v1, rfl, ⟨v1a⟩, t1⟩
            have b12 := t1.holdI b11 (by omega)
            have d12 := t1.get d11 (by omega)
            have z12 := t1.get z11 (by omega)
            have y12 := t1.get y11 (by omega)
            repeat' (first | with_reducible refine RegQ.intro (by kernel_rfl) ?_ | with_reducible refine DrawQ.nat (by kernel_rfl) ?_ | ((with_reducible refine condQ_dec (fun hp => ?_) (fun hp => ?_)) <;> try simp only [hp]) | with_reducible refine condQ_beq (fun hp => ?_) (fun hp => ?_) | ((with_reducible refine wantQ_dec (fun hp => ?_) (fun hp => ?_)) <;> try simp only [hp]) | with_reducible refine wantQ_beq (fun hp => ?_) (fun hp => ?_) | ((with_reducible refine condQ_split (fun hp => ?_) (fun hp => ?_)) <;> try simp only [hp]) | ((with_reducible refine wantQ_split (fun hp => ?_) (fun hp => ?_)) <;> try simp only [hp]) | simp -implicitDefEqProofs (disch := omega) only [go_sem, Nat.reduceAdd, Nat.reduceSub, reduceCtorEq, Nat.reduceLT, Nat.reduceLeDiff, Nat.reduceEqDiff, Nat.reduceMul, Int.reduceToNat, ↓reduceIte, List.take_of_length_le, evApp_n1, evApp_i0, evApp_i1, evApp_i2, evApp_i3, evApp_i4, evApp_i5, evApp_s0, evApp_s1, evApp_s2, evApp_s3, if_pos, if_neg, decide_eq_true, decide_eq_false, beq_t, beq_f, wrap_succ, wrap_in, getD_ints, getD_intss, getD_tsrs, fillA_len, fillA_at, fillA_full, evApp_z0, evApp_z1, evApp_z2, evApp_z3, evApp_i6, List.getElem?_set_self, List.set_set, evApp_d0, evApp_dT, evApp_dI, Try.ntmps3, Try.results3, m2, opQ_none])
            refine InlK_intro rfl rfl can_markISS ((iS b v1 p5 Y1 b12 m1' m2' (by omega)).mono ?_)
            rintro r Y2 ⟨v2, rfl, ⟨v2a⟩, t2⟩
            have d13 := t2.get d12 (by omega)
            have z13 := t2.get z12 (by omega)
            have y13 := t2.get y12 (by omega)
            repeat' (first | with_reducible refine RegQ.intro (by kernel_rfl) ?_ | with_reducible refine DrawQ.nat (by kernel_rfl) ?_ | ((with_reducible refine condQ_dec (fun hp => ?_) (fun hp => ?_)) <;> try simp only [hp]) | with_reducible refine condQ_beq (fun hp => ?_) (fun hp => ?_) | ((with_reducible refine wantQ_dec (fun hp => ?_) (fun hp => ?_)) <;> try simp only [hp]) | with_reducible refine wantQ_beq (fun hp => ?_) (fun hp => ?_) | ((with_reducible refine condQ_split (fun hp => ?_) (fun hp => ?_)) <;> try simp only [hp]) | ((with_reducible refine wantQ_split (fun hp => ?_) (fun hp => ?_)) <;> try simp only [hp]) | simp -implicitDefEqProofs (disch := omega) only [go_sem, Nat.reduceAdd, Nat.reduceSub, reduceCtorEq, Nat.reduceLT, Nat.reduceLeDiff, Nat.reduceEqDiff, Nat.reduceMul, Int.reduceToNat, ↓reduceIte, List.take_of_length_le, evApp_n1, evApp_i0, evApp_i1, evApp_i2, evApp_i3, evApp_i4, evApp_i5, evApp_s0, evApp_s1, evApp_s2, evApp_s3, if_pos, if_neg, decide_eq_true, decide_eq_false, beq_t, beq_f, wrap_succ, wrap_in, getD_ints, getD_intss, getD_tsrs, fillA_len, fillA_at, fillA_full, evApp_z0, evApp_z1, evApp_z2, evApp_z3, evApp_i6, List.getElem?_set_self, List.set_set, evApp_d0, evApp_dT, evApp_dI, Try.ntmps3, Try.results3, m3, opQ_none])
            refine InlK_intro rfl rfl can_markI ((iI out v2 p6 Y2 d13 (by omega) (by omega)).mono ?_)
            rintro r Y3 ⟨rfl, hY3⟩
            have t3 : sameOut Y2 Y3 p6 (p6 + 1) := by
              subst hY3
              exact sameOut.set (L := Y2) (L' := Y2) (lo := p6) (hi := p6) ⟨rfl, fun _ _ => rfl⟩ (Nat.le_refl _) _ (by omega) (by omega)
            have z14 := t3.get z13 (by omega)
            have y14 := t3.get y13 (by omega)
            clear hY3
            have w1 : ¬ (v2 + (out.length : Int) < 0) := by omega
            repeat' (first | with_reducible refine RegQ.intro (by kernel_rfl) ?_ | with_reducible refine DrawQ.nat (by kernel_rfl) ?_ | ((with_reducible refine condQ_dec (fun hp => ?_) (fun hp => ?_)) <;> try simp only [hp]) | with_reducible refine condQ_beq (fun hp => ?_) (fun hp => ?_) | ((with_reducible refine wantQ_dec (fun hp => ?_) (fun hp => ?_)) <;> try simp only [hp]) | with_reducible refine wantQ_beq (fun hp => ?_) (fun hp => ?_) | ((with_reducible refine condQ_split (fun hp => ?_) (fun hp => ?_)) <;> try simp only [hp]) | ((with_reducible refine wantQ_split (fun hp => ?_) (fun hp => ?_)) <;> try simp only [hp]) | simp -implicitDefEqProofs (disch := omega) only [go_sem, Nat.reduceAdd, Nat.reduceSub, reduceCtorEq, Nat.reduceLT, Nat.reduceLeDiff, Nat.reduceEqDiff, Nat.reduceMul, Int.reduceToNat, ↓reduceIte, List.take_of_length_le, evApp_n1, evApp_i0, evApp_i1, evApp_i2, evApp_i3, evApp_i4, evApp_i5, evApp_s0, evApp_s1, evApp_s2, evApp_s3, if_pos, if_neg, decide_eq_true, decide_eq_false, beq_t, beq_f, wrap_succ, wrap_in, getD_ints, getD_intss, getD_tsrs, fillA_len, fillA_at, fillA_full, evApp_z0, evApp_z1, evApp_z2, evApp_z3, evApp_i6, List.getElem?_set_self, List.set_set, evApp_d0, evApp_dT, evApp_dI, Try.ntmps3, Try.results3, h11, z14, y14, u8, dec_zz, w1, m4, opQ_none])
            refine InlK_intro rfl rfl can_markT ((iZ 1 Y3).mono ?_)
            rintro r Y4 ⟨rfl, hY4⟩
            have z15 := gxA hY4 z14
            have y15 := gxA hY4 y14
            clear hY4
            have u9 : gHeldT ⟨[], []⟩ 1 = some 1 := gHeldT_eq (x := ⟨[], []⟩) (k := 1) (by decide)
            repeat' (first | with_reducible refine RegQ.intro (by kernel_rfl) ?_ | with_reducible refine DrawQ.nat (by kernel_rfl) ?_ | ((with_reducible refine condQ_dec (fun hp => ?_) (fun hp => ?_)) <;> try simp only [hp]) | with_reducible refine condQ_beq (fun hp => ?_) (fun hp => ?_) | ((with_reducible refine wantQ_dec (fun hp => ?_) (fun hp => ?_)) <;> try simp only [hp]) | with_reducible refine wantQ_beq (fun hp => ?_) (fun hp => ?_) | ((with_reducible refine condQ_split (fun hp => ?_) (fun hp => ?_)) <;> try simp only [hp]) | ((with_reducible refine wantQ_split (fun hp => ?_) (fun hp => ?_)) <;> try simp only [hp]) | simp -implicitDefEqProofs (disch := omega) only [go_sem, Nat.reduceAdd, Nat.reduceSub, reduceCtorEq, Nat.reduceLT, Nat.reduceLeDiff, Nat.reduceEqDiff, Nat.reduceMul, Int.reduceToNat, ↓reduceIte, List.take_of_length_le, evApp_n1, evApp_i0, evApp_i1, evApp_i2, evApp_i3, evApp_i4, evApp_i5, evApp_s0, evApp_s1, evApp_s2, evApp_s3, if_pos, if_neg, decide_eq_true, decide_eq_false, beq_t, beq_f, wrap_succ, wrap_in, getD_ints, getD_intss, getD_tsrs, fillA_len, fillA_at, fillA_full, evApp_z0, evApp_z1, evApp_z2, evApp_z3, evApp_i6, List.getElem?_set_self, List.set_set, evApp_d0, evApp_dT, evApp_dI, Try.ntmps3, Try.results3, h12, mks_len, mks_take, z15, y15, u9, dec_zz, n4, opQ_none])
            refine InlK_intro rfl rfl can_toTS (callX (oT l k1 k2) (by simp only [go_sem, ints]) ?_)
            rintro p16 X16 hp16 hX16
            have a16 := holdT_new hp16 hX16
            have l16 := holdT_len hp16 hX16
            repeat' (first | with_reducible refine RegQ.intro (by kernel_rfl) ?_ | with_reducible refine DrawQ.nat (by kernel_rfl) ?_ | ((with_reducible refine condQ_dec (fun hp => ?_) (fun hp => ?_)) <;> try simp only [hp]) | with_reducible refine condQ_beq (fun hp => ?_) (fun hp => ?_) | ((with_reducible refine wantQ_dec (fun hp => ?_) (fun hp => ?_)) <;> try simp only [hp]) | with_reducible refine wantQ_beq (fun hp => ?_) (fun hp => ?_) | ((with_reducible refine condQ_split (fun hp => ?_) (fun hp => ?_)) <;> try simp only [hp]) | ((with_reducible refine wantQ_split (fun hp => ?_) (fun hp => ?_)) <;> try simp only [hp]) | simp -implicitDefEqProofs (disch := omega) only [go_sem, Nat.reduceAdd, Nat.reduceSub, reduceCtorEq, Nat.reduceLT, Nat.reduceLeDiff, Nat.reduceEqDiff, Nat.reduceMul, Int.reduceToNat, ↓reduceIte, List.take_of_length_le, evApp_n1, evApp_i0, evApp_i1, evApp_i2, evApp_i3, evApp_i4, evApp_i5, evApp_s0, evApp_s1, evApp_s2, evApp_s3, if_pos, if_neg, decide_eq_true, decide_eq_false, beq_t, beq_f, wrap_succ, wrap_in, getD_ints, getD_intss, getD_tsrs, fillA_len, fillA_at, fillA_full, evApp_z0, evApp_z1, evApp_z2, evApp_z3, evApp_i6, List.getElem?_set_self, List.set_set, evApp_d0, evApp_dT, evApp_dI, Try.ntmps3, Try.results3, n5, opQ_none])
            refine InlK_intro rfl rfl can_toISS (callX (oS b m1' m2') (by simp only [go_sem, ints]) ?_)
            rintro p17 X17 hp17 hX17
            have b17 := holdI_new hp17 hX17
            have l17 := holdI_len hp17 hX17
            repeat' (first | with_reducible refine RegQ.intro (by kernel_rfl) ?_ | with_reducible refine DrawQ.nat (by kernel_rfl) ?_ | ((with_reducible refine condQ_dec (fun hp => ?_) (fun hp => ?_)) <;> try simp only [hp]) | with_reducible refine condQ_beq (fun hp => ?_) (fun hp => ?_) | ((with_reducible refine wantQ_dec (fun hp => ?_) (fun hp => ?_)) <;> try simp only [hp]) | with_reducible refine wantQ_beq (fun hp => ?_) (fun hp => ?_) | ((with_reducible refine condQ_split (fun hp => ?_) (fun hp => ?_)) <;> try simp only [hp]) | ((with_reducible refine wantQ_split (fun hp => ?_) (fun hp => ?_)) <;> try simp only [hp]) | simp -implicitDefEqProofs (disch := omega) only [go_sem, Nat.reduceAdd, Nat.reduceSub, reduceCtorEq, Nat.reduceLT, Nat.reduceLeDiff, Nat.reduceEqDiff, Nat.reduceMul, Int.reduceToNat, ↓reduceIte, List.take_of_length_le, evApp_n1, evApp_i0, evApp_i1, evApp_i2, evApp_i3, evApp_i4, evApp_i5, evApp_s0, evApp_s1, evApp_s2, evApp_s3, if_pos, if_neg, decide_eq_true, decide_eq_false, beq_t, beq_f, wrap_succ, wrap_in, getD_ints, getD_intss, getD_tsrs, fillA_len, fillA_at, fillA_full, evApp_z0, evApp_z1, evApp_z2, evApp_z3, evApp_i6, List.getElem?_set_self, List.set_set, evApp_d0, evApp_dT, evApp_dI, Try.ntmps3, Try.results3, n6, opQ_none])
            refine InlK_intro rfl rfl can_toI (callX (oI out (by omega)) (by simp only [go_sem, ints]) ?_)
            rintro p18 X18 hp18 hX18
            have d18 := one_new hp18 hX18
            have a18 := (a16.gx hX17).gx hX18
            have b18 := b17.gx hX18
            have z18 := gxA hX18 (gxA hX17 (gxA hX16 z15))
            have y18 := gxA hX18 (gxA hX17 (gxA hX16 y15))
            have q9 := expS_holdT a18
            have q10 := expS_holdI b18
            repeat' (first | with_reducible refine RegQ.intro (by kernel_rfl) ?_ | with_reducible refine DrawQ.nat (by kernel_rfl) ?_ | ((with_reducible refine condQ_dec (fun hp => ?_) (fun hp => ?_)) <;> try simp only [hp]) | with_reducible refine condQ_beq (fun hp => ?_) (fun hp => ?_) | ((with_reducible refine wantQ_dec (fun hp => ?_) (fun hp => ?_)) <;> try simp only [hp]) | with_reducible refine wantQ_beq (fun hp => ?_) (fun hp => ?_) | ((with_reducible refine condQ_split (fun hp => ?_) (fun hp => ?_)) <;> try simp only [hp]) | ((with_reducible refine wantQ_split (fun hp => ?_) (fun hp => ?_)) <;> try simp only [hp]) | simp -implicitDefEqProofs (disch := omega) only [go_sem, Nat.reduceAdd, Nat.reduceSub, reduceCtorEq, Nat.reduceLT, Nat.reduceLeDiff, Nat.reduceEqDiff, Nat.reduceMul, Int.reduceToNat, ↓reduceIte, List.take_of_length_le, evApp_n1, evApp_i0, evApp_i1, evApp_i2, evApp_i3, evApp_i4, evApp_i5, evApp_s0, evApp_s1, evApp_s2, evApp_s3, if_pos, if_neg, decide_eq_true, decide_eq_false, beq_t, beq_f, wrap_succ, wrap_in, getD_ints, getD_intss, getD_tsrs, fillA_len, fillA_at, fillA_full, evApp_z0, evApp_z1, evApp_z2, evApp_z3, evApp_i6, List.getElem?_set_self, List.set_set, evApp_d0, evApp_dT, evApp_dI, Try.ntmps3, Try.results3, n7, opQ_none])
            refine InlK_intro rfl rfl can_conBy (callX oC' (by simp only [go_sem, ints, a18.1, b18.1, d18, q9, q10]) ?_)
            rintro p19 X19 hp19 hX19
            have z19 := fun A : Blk => gx1 (A := A) (gxA hX19 z18)
            have y19 := fun A : Blk => gx1 (A := A) (gxA hX19 y18)
            rw [show oR (⟨[], []⟩, false) p19 = .tup [.agg [.nilS, .nilS], .bool false] from rfl]
            repeat' (first | with_reducible refine RegQ.intro (by kernel_rfl) ?_ | with_reducible refine DrawQ.nat (by kernel_rfl) ?_ | ((with_reducible refine condQ_dec (fun hp => ?_) (fun hp => ?_)) <;> try simp only [hp]) | with_reducible refine condQ_beq (fun hp => ?_) (fun hp => ?_) | ((with_reducible refine wantQ_dec (fun hp => ?_) (fun hp => ?_)) <;> try simp only [hp]) | with_reducible refine wantQ_beq (fun hp => ?_) (fun hp => ?_) | ((with_reducible refine condQ_split (fun hp => ?_) (fun hp => ?_)) <;> try simp only [hp]) | ((with_reducible refine wantQ_split (fun hp => ?_) (fun hp => ?_)) <;> try simp only [hp]) | simp -implicitDefEqProofs (disch := omega) only [go_sem, Nat.reduceAdd, Nat.reduceSub, reduceCtorEq, Nat.reduceLT, Nat.reduceLeDiff, Nat.reduceEqDiff, Nat.reduceMul, Int.reduceToNat, ↓reduceIte, List.take_of_length_le, evApp_n1, evApp_i0, evApp_i1, evApp_i2, evApp_i3, evApp_i4, evApp_i5, evApp_s0, evApp_s1, evApp_s2, evApp_s3, if_pos, if_neg, decide_eq_true, decide_eq_false, beq_t, beq_f, wrap_succ, wrap_in, getD_ints, getD_intss, getD_tsrs, fillA_len, fillA_at, fillA_full, evApp_z0, evApp_z1, evApp_z2, evApp_z3, evApp_i6, List.getElem?_set_self, List.set_set, evApp_d0, evApp_dT, evApp_dI, Try.ntmps3, Try.results3, h11, h12, z19, y19, u8, dec_zz, u9, mks_len, mks_take, tk_app])
          | true =>
            have w7 : X7[p7]? = some ⟨1, vl.map fun n => .int .i64 n⟩ := one_new hn7 hX7
            have l7 := one_len hn7 hX7
            have w8b := fun A : Blk => gx1 (A := A) w7
            have z7' : X7[X3.length]? = some ⟨2, [.agg [ints 1 [], ints 1 vl]]⟩ := z7
            have w8 := fun A : Blk => gx1 (A := A) z7'
            rw [show oR (⟨[], vl⟩, true) p7 = .tup [.agg [.nilS, .sl p7 vl.length 0 vl.length vl.length], .bool true] from rfl]
            repeat' (first | with_reducible refine RegQ.intro (by kernel_rfl) ?_ | with_reducible refine DrawQ.nat (by kernel_rfl) ?_ | ((with_reducible refine condQ_dec (fun hp => ?_) (fun hp => ?_)) <;> try simp only [hp]) | with_reducible refine condQ_beq (fun hp => ?_) (fun hp => ?_) | ((with_reducible refine wantQ_dec (fun hp => ?_) (fun hp => ?_)) <;> try simp only [hp]) | with_reducible refine wantQ_beq (fun hp => ?_) (fun hp => ?_) | ((with_reducible refine condQ_split (fun hp => ?_) (fun hp => ?_)) <;> try simp only [hp]) | ((with_reducible refine wantQ_split (fun hp => ?_) (fun hp => ?_)) <;> try simp only [hp]) | simp -implicitDefEqProofs (disch := omega) only [go_sem, Nat.reduceAdd, Nat.reduceSub, reduceCtorEq, Nat.reduceLT, Nat.reduceLeDiff, Nat.reduceEqDiff, Nat.reduceMul, Int.reduceToNat, ↓reduceIte, List.take_of_length_le, evApp_n1, evApp_i0, evApp_i1, evApp_i2, evApp_i3, evApp_i4, evApp_i5, evApp_s0, evApp_s1, evApp_s2, evApp_s3, if_pos, if_neg, decide_eq_true, decide_eq_false, beq_t, beq_f, wrap_succ, wrap_in, getD_ints, getD_intss, getD_tsrs, fillA_len, fillA_at, fillA_full, evApp_z0, evApp_z1, evApp_z2, evApp_z3, evApp_i6, List.getElem?_set_self, List.set_set, evApp_d0, evApp_dT, evApp_dI, Try.ntmps3, Try.results3, h11, w8, w8b, u8, dec_tsr0, n4, opQ_none, tk_app])
            refine InlK_intro rfl rfl can_toTS (callX (oT l k1 k2) (by simp only [go_sem, ints]) ?_)
            rintro p9 X9 hp9 hX9
            have l8 : (X7 ++ [(⟨2, [.agg [.nilS, .sl p7 vl.length 0 vl.length vl.length]]⟩ : Blk)]).length = X7.length + 1 := by simp
            have s1 := holdT_new hp9 hX9
            have l9 := holdT_len hp9 hX9
            have a9 := (a7.gx (N := [⟨2, [.agg [.nilS, .sl p7 vl.length 0 vl.length vl.length]]⟩]) rfl).gx hX9
            have b9 := (b7.gx (N := [⟨2, [.agg [.nilS, .sl p7 vl.length 0 vl.length vl.length]]⟩]) rfl).gx hX9
            have d9 := gxA hX9 (gx1 d7)
            have z9 := gxA hX9 (w8 _)
            have w9b := gxA hX9 (w8b _)
            have y9 := gxA hX9 gxl
            have q5 := expS_holdT a9
            have q6 := expS_holdT s1
            repeat' (first | with_reducible refine RegQ.intro (by kernel_rfl) ?_ | with_reducible refine DrawQ.nat (by kernel_rfl) ?_ | ((with_reducible refine condQ_dec (fun hp => ?_) (fun hp => ?_)) <;> try simp only [hp]) | with_reducible refine condQ_beq (fun hp => ?_) (fun hp => ?_) | ((with_reducible refine wantQ_dec (fun hp => ?_) (fun hp => ?_)) <;> try simp only [hp]) | with_reducible refine wantQ_beq (fun hp => ?_) (fun hp => ?_) | ((with_reducible refine condQ_split (fun hp => ?_) (fun hp => ?_)) <;> try simp only [hp]) | ((with_reducible refine wantQ_split (fun hp => ?_) (fun hp => ?_)) <;> try simp only [hp]) | simp -implicitDefEqProofs (disch := omega) only [go_sem, Nat.reduceAdd, Nat.reduceSub, reduceCtorEq, Nat.reduceLT, Nat.reduceLeDiff, Nat.reduceEqDiff, Nat.reduceMul, Int.reduceToNat, ↓reduceIte, List.take_of_length_le, evApp_n1, evApp_i0, evApp_i1, evApp_i2, evApp_i3, evApp_i4, evApp_i5, evApp_s0, evApp_s1, evApp_s2, evApp_s3, if_pos, if_neg, decide_eq_true, decide_eq_false, beq_t, beq_f, wrap_succ, wrap_in, getD_ints, getD_intss, getD_tsrs, fillA_len, fillA_at, fillA_full, evApp_z0, evApp_z1, evApp_z2, evApp_z3, evApp_i6, List.getElem?_set_self, List.set_set, evApp_d0, evApp_dT, evApp_dI, Try.ntmps3, Try.results3, h8, a9.1, s1.1, q5, q6, u5, n5, opQ_none])
            refine InlK_intro rfl rfl can_toISS (callX (oS b m1' m2') (by simp only [go_sem, ints]) ?_)
            rintro p10 X10 hp10 hX10
            have s2 := holdI_new hp10 hX10
            have l10 := holdI_len hp10 hX10
            have b10 := b9.gx hX10
            have q7 := expS_holdI b10
            have q8 := expS_holdI s2
            repeat' (first | with_reducible refine RegQ.intro (by kernel_rfl) ?_ | with_reducible refine DrawQ.nat (by kernel_rfl) ?_ | ((with_reducible refine condQ_dec (fun hp => ?_) (fun hp => ?_)) <;> try simp only [hp]) | with_reducible refine condQ_beq (fun hp => ?_) (fun hp => ?_) | ((with_reducible refine wantQ_dec (fun hp => ?_) (fun hp => ?_)) <;> try simp only [hp]) | with_reducible refine wantQ_beq (fun hp => ?_) (fun hp => ?_) | ((with_reducible refine condQ_split (fun hp => ?_) (fun hp => ?_)) <;> try simp only [hp]) | ((with_reducible refine wantQ_split (fun hp => ?_) (fun hp => ?_)) <;> try simp only [hp]) | simp -implicitDefEqProofs (disch := omega) only [go_sem, Nat.reduceAdd, Nat.reduceSub, reduceCtorEq, Nat.reduceLT, Nat.reduceLeDiff, Nat.reduceEqDiff, Nat.reduceMul, Int.reduceToNat, ↓reduceIte, List.take_of_length_le, evApp_n1, evApp_i0, evApp_i1, evApp_i2, evApp_i3, evApp_i4, evApp_i5, evApp_s0, evApp_s1, evApp_s2, evApp_s3, if_pos, if_neg, decide_eq_true, decide_eq_false, beq_t, beq_f, wrap_succ, wrap_in, getD_ints, getD_intss, getD_tsrs, fillA_len, fillA_at, fillA_full, evApp_z0, evApp_z1, evApp_z2, evApp_z3, evApp_i6, List.getElem?_set_self, List.set_set, evApp_d0, evApp_dT, evApp_dI, Try.ntmps3, Try.results3, h9, b10.1, s2.1, q7, q8, u6, n6, opQ_none])
            refine InlK_intro rfl rfl can_toI (callX (oI out (by omega)) (by simp only [go_sem, ints]) ?_)
            rintro p11 X11 hp11 hX11
            have s3 := one_new hp11 hX11
            have l11 := one_len hp11 hX11
            have d11 := gxA hX11 (gxA hX10 d9)
            have a11 := (a9.gx hX10).gx hX11
            have b11 := b10.gx hX11
            have z11 := gxA hX11 (gxA hX10 z9)
            have y11 := gxA hX11 (gxA hX10 y9)
            have w11b := gxA hX11 (gxA hX10 w9b)
            have e4 : p4 = X3.length + 1 := by simpa using hn4
            repeat' (first | with_reducible refine RegQ.intro (by kernel_rfl) ?_ | with_reducible refine DrawQ.nat (by kernel_rfl) ?_ | ((with_reducible refine condQ_dec (fun hp => ?_) (fun hp => ?_)) <;> try simp only [hp]) | with_reducible refine condQ_beq (fun hp => ?_) (fun hp => ?_) | ((with_reducible refine wantQ_dec (fun hp => ?_) (fun hp => ?_)) <;> try simp only [hp]) | with_reducible refine wantQ_beq (fun hp => ?_) (fun hp => ?_) | ((with_reducible refine condQ_split (fun hp => ?_) (fun hp => ?_)) <;> try simp only [hp]) | ((with_reducible refine wantQ_split (fun hp => ?_) (fun hp => ?_)) <;> try simp only [hp]) | simp -implicitDefEqProofs (disch := omega) only [go_sem, Nat.reduceAdd, Nat.reduceSub, reduceCtorEq, Nat.reduceLT, Nat.reduceLeDiff, Nat.reduceEqDiff, Nat.reduceMul, Int.reduceToNat, ↓reduceIte, List.take_of_length_le, evApp_n1, evApp_i0, evApp_i1, evApp_i2, evApp_i3, evApp_i4, evApp_i5, evApp_s0, evApp_s1, evApp_s2, evApp_s3, if_pos, if_neg, decide_eq_true, decide_eq_false, beq_t, beq_f, wrap_succ, wrap_in, getD_ints, getD_intss, getD_tsrs, fillA_len, fillA_at, fillA_full, evApp_z0, evApp_z1, evApp_z2, evApp_z3, evApp_i6, List.getElem?_set_self, List.set_set, evApp_d0, evApp_dT, evApp_dI, Try.ntmps3, Try.results3, h10, d11, s3, u7, m1, opQ_none])
            refine InlK_intro rfl rfl can_markTS ((iT l 1 p4 X11 a11 k1 k2 (by omega)).mono ?_)
            rintro r Y1 ⟨v1, rfl, ⟨v1a, v1b⟩, t1⟩
            have b12 := t1.holdI b11 (by omega)
            have d12 := t1.get d11 (by omega)
            have z12 := t1.get z11 (by omega)
            have y12 := t1.get y11 (by omega)
            have w12b := t1.get w11b (by omega)
            repeat' (first | with_reducible refine RegQ.intro (by kernel_rfl) ?_ | with_reducible refine DrawQ.nat (by kernel_rfl) ?_ | ((with_reducible refine condQ_dec (fun hp => ?_) (fun hp => ?_)) <;> try simp only [hp]) | with_reducible refine condQ_beq (fun hp => ?_) (fun hp => ?_) | ((with_reducible refine wantQ_dec (fun hp => ?_) (fun hp => ?_)) <;> try simp only [hp]) | with_reducible refine wantQ_beq (fun hp => ?_) (fun hp => ?_) | ((with_reducible refine condQ_split (fun hp => ?_) (fun hp => ?_)) <;> try simp only [hp]) | ((with_reducible refine wantQ_split (fun hp => ?_) (fun hp => ?_)) <;> try simp only [hp]) | simp -implicitDefEqProofs (disch := omega) only [go_sem, Nat.reduceAdd, Nat.reduceSub, reduceCtorEq, Nat.reduceLT, Nat.reduceLeDiff, Nat.reduceEqDiff, Nat.reduceMul, Int.reduceToNat, ↓reduceIte, List.take_of_length_le, evApp_n1, evApp_i0, evApp_i1, evApp_i2, evApp_i3, evApp_i4, evApp_i5, evApp_s0, evApp_s1, evApp_s2, evApp_s3, if_pos, if_neg, decide_eq_true, decide_eq_false, beq_t, beq_f, wrap_succ, wrap_in, getD_ints, getD_intss, getD_tsrs, fillA_len, fillA_at, fillA_full, evApp_z0, evApp_z1, evApp_z2, evApp_z3, evApp_i6, List.getElem?_set_self, List.set_set, evApp_d0, evApp_dT, evApp_dI, Try.ntmps3, Try.results3, m2, opQ_none])
            refine InlK_intro rfl rfl can_markISS ((iS b v1 p5 Y1 b12 m1' m2' (by omega)).mono ?_)
            rintro r Y2 ⟨v2, rfl, ⟨v2a, v2b⟩, t2⟩
            have d13 := t2.get d12 (by omega)
            have z13 := t2.get z12 (by omega)
            have y13 := t2.get y12 (by omega)
            have w13b := t2.get w12b (by omega)
            repeat' (first | with_reducible refine RegQ.intro (by kernel_rfl) ?_ | with_reducible refine DrawQ.nat (by kernel_rfl) ?_ | ((with_reducible refine condQ_dec (fun hp => ?_) (fun hp => ?_)) <;> try simp only [hp]) | with_reducible refine condQ_beq (fun hp => ?_) (fun hp => ?_) | ((with_reducible refine wantQ_dec (fun hp => ?_) (fun hp => ?_)) <;> try simp only [hp]) | with_reducible refine wantQ_beq (fun hp => ?_) (fun hp => ?_) | ((with_reducible refine condQ_split (fun hp => ?_) (fun hp => ?_)) <;> try simp only [hp]) | ((with_reducible refine wantQ_split (fun hp => ?_) (fun hp => ?_)) <;> try simp only [hp]) | simp -implicitDefEqProofs (disch := omega) only [go_sem, Nat.reduceAdd, Nat.reduceSub, reduceCtorEq, Nat.reduceLT, Nat.reduceLeDiff, Nat.reduceEqDiff, Nat.reduceMul, Int.reduceToNat, ↓reduceIte, List.take_of_length_le, evApp_n1, evApp_i0, evApp_i1, evApp_i2, evApp_i3, evApp_i4, evApp_i5, evApp_s0, evApp_s1, evApp_s2, evApp_s3, if_pos, if_neg, decide_eq_true, decide_eq_false, beq_t, beq_f, wrap_succ, wrap_in, getD_ints, getD_intss, getD_tsrs, fillA_len, fillA_at, fillA_full, evApp_z0, evApp_z1, evApp_z2, evApp_z3, evApp_i6, List.getElem?_set_self, List.set_set, evApp_d0, evApp_dT, evApp_dI, Try.ntmps3, Try.results3, m3, opQ_none])
            refine InlK_intro rfl rfl can_markI ((iI out v2 p6 Y2 d13 (by omega) (by omega)).mono ?_)
            rintro r Y3 ⟨rfl, hY3⟩
            have t3 : sameOut Y2 Y3 p6 (p6 + 1) := by
              subst hY3
              exact sameOut.set (L := Y2) (L' := Y2) (lo := p6) (hi := p6) ⟨rfl, fun _ _ => rfl⟩ (Nat.le_refl _) _ (by omega) (by omega)
            have z14 := t3.get z13 (by omega)
            have y14 := t3.get y13 (by omega)
            have w14b := t3.get w13b (by omega)
            clear hY3
            have w1 : ¬ (v2 + (out.length : Int) < 0) := by omega
            repeat' (first | with_reducible refine RegQ.intro (by kernel_rfl) ?_ | with_reducible refine DrawQ.nat (by kernel_rfl) ?_ | ((with_reducible refine condQ_dec (fun hp => ?_) (fun hp => ?_)) <;> try simp only [hp]) | with_reducible refine condQ_beq (fun hp => ?_) (fun hp => ?_) | ((with_reducible refine wantQ_dec (fun hp => ?_) (fun hp => ?_)) <;> try simp only [hp]) | with_reducible refine wantQ_beq (fun hp => ?_) (fun hp => ?_) | ((with_reducible refine condQ_split (fun hp => ?_) (fun hp => ?_)) <;> try simp only [hp]) | ((with_reducible refine wantQ_split (fun hp => ?_) (fun hp => ?_)) <;> try simp only [hp]) | simp -implicitDefEqProofs (disch := omega) only [go_sem, Nat.reduceAdd, Nat.reduceSub, reduceCtorEq, Nat.reduceLT, Nat.reduceLeDiff, Nat.reduceEqDiff, Nat.reduceMul, Int.reduceToNat, ↓reduceIte, List.take_of_length_le, evApp_n1, evApp_i0, evApp_i1, evApp_i2, evApp_i3, evApp_i4, evApp_i5, evApp_s0, evApp_s1, evApp_s2, evApp_s3, if_pos, if_neg, decide_eq_true, decide_eq_false, beq_t, beq_f, wrap_succ, wrap_in, getD_ints, getD_intss, getD_tsrs, fillA_len, fillA_at, fillA_full, evApp_z0, evApp_z1, evApp_z2, evApp_z3, evApp_i6, List.getElem?_set_self, List.set_set, evApp_d0, evApp_dT, evApp_dI, Try.ntmps3, Try.results3, h11, z14, y14, w14b, u8, dec_tsr0, w1, m4, opQ_none])
            refine InlK_intro rfl rfl can_markT ((iV vl 1 p7 Y3 w14b (by omega) (by omega)).mono ?_)
            rintro r Y4 ⟨rfl, hY4⟩
            have hb2 : p7 < Y3.length := (List.getElem?_eq_some_iff.1 w14b).1
            have w15b := gxA hY4 (show (Y3.set p7 ⟨1, (mks 1 vl.length).map fun n => .int .i64 n⟩)[p7]? = some ⟨1, (mks 1 vl.length).map fun n => .int .i64 n⟩ by rw [List.getElem?_set_self hb2])
            have z15 := gxA hY4 (show (Y3.set p7 ⟨1, (mks 1 vl.length).map fun n => .int .i64 n⟩)[X3.length]? = _ by rw [List.getElem?_set_ne (by omega)]; exact z14)
            have y15 := gxA hY4 (show (Y3.set p7 ⟨1, (mks 1 vl.length).map fun n => .int .i64 n⟩)[X7.length]? = _ by rw [List.getElem?_set_ne (by omega)]; exact y14)
            clear hY4
            have u9 : gHeldT ⟨[], mks 1 vl.length⟩ 1 = some (1 + (vl.length : Int)) := (gHeldT_eq (x := ⟨[], mks 1 vl.length⟩) (k := 1) ⟨by simp, by simp only [mks_len]; omega, by omega, by omega, rfl, by simp [mks_len]⟩).trans (by simp [mks_len])
            have w2 : ¬ ((1 : Int) + vl.length < 0) := by omega
            repeat' (first | with_reducible refine RegQ.intro (by kernel_rfl) ?_ | with_reducible refine DrawQ.nat (by kernel_rfl) ?_ | ((with_reducible refine condQ_dec (fun hp => ?_) (fun hp => ?_)) <;> try simp only [hp]) | with_reducible refine condQ_beq (fun hp => ?_) (fun hp => ?_) | ((with_reducible refine wantQ_dec (fun hp => ?_) (fun hp => ?_)) <;> try simp only [hp]) | with_reducible refine wantQ_beq (fun hp => ?_) (fun hp => ?_) | ((with_reducible refine condQ_split (fun hp => ?_) (fun hp => ?_)) <;> try simp only [hp]) | ((with_reducible refine wantQ_split (fun hp => ?_) (fun hp => ?_)) <;> try simp only [hp]) | simp -implicitDefEqProofs (disch := omega) only [go_sem, Nat.reduceAdd, Nat.reduceSub, reduceCtorEq, Nat.reduceLT, Nat.reduceLeDiff, Nat.reduceEqDiff, Nat.reduceMul, Int.reduceToNat, ↓reduceIte, List.take_of_length_le, evApp_n1, evApp_i0, evApp_i1, evApp_i2, evApp_i3, evApp_i4, evApp_i5, evApp_s0, evApp_s1, evApp_s2, evApp_s3, if_pos, if_neg, decide_eq_true, decide_eq_false, beq_t, beq_f, wrap_succ, wrap_in, getD_ints, getD_intss, getD_tsrs, fillA_len, fillA_at, fillA_full, evApp_z0, evApp_z1, evApp_z2, evApp_z3, evApp_i6, List.getElem?_set_self, List.set_set, evApp_d0, evApp_dT, evApp_dI, Try.ntmps3, Try.results3, h12, mks_len, mks_take, z15, y15, w15b, u9, dec_tsr0, w2, n4, opQ_none])
            refine InlK_intro rfl rfl can_toTS (callX (oT l k1 k2) (by simp only [go_sem, ints]) ?_)
            rintro p16 X16 hp16 hX16
            have a16 := holdT_new hp16 hX16
            have l16 := holdT_len hp16 hX16
            repeat' (first | with_reducible refine RegQ.intro (by kernel_rfl) ?_ | with_reducible refine DrawQ.nat (by kernel_rfl) ?_ | ((with_reducible refine condQ_dec (fun hp => ?_) (fun hp => ?_)) <;> try simp only [hp]) | with_reducible refine condQ_beq (fun hp => ?_) (fun hp => ?_) | ((with_reducible refine wantQ_dec (fun hp => ?_) (fun hp => ?_)) <;> try simp only [hp]) | with_reducible refine wantQ_beq (fun hp => ?_) (fun hp => ?_) | ((with_reducible refine condQ_split (fun hp => ?_) (fun hp => ?_)) <;> try simp only [hp]) | ((with_reducible refine wantQ_split (fun hp => ?_) (fun hp => ?_)) <;> try simp only [hp]) | simp -implicitDefEqProofs (disch := omega) only [go_sem, Nat.reduceAdd, Nat.reduceSub, reduceCtorEq, Nat.reduceLT, Nat.reduceLeDiff, Nat.reduceEqDiff, Nat.reduceMul, Int.reduceToNat, ↓reduceIte, List.take_of_length_le, evApp_n1, evApp_i0, evApp_i1, evApp_i2, evApp_i3, evApp_i4, evApp_i5, evApp_s0, evApp_s1, evApp_s2, evApp_s3, if_pos, if_neg, decide_eq_true, decide_eq_false, beq_t, beq_f, wrap_succ, wrap_in, getD_ints, getD_intss, getD_tsrs, fillA_len, fillA_at, fillA_full, evApp_z0, evApp_z1, evApp_z2, evApp_z3, evApp_i6, List.getElem?_set_self, List.set_set, evApp_d0, evApp_dT, evApp_dI, Try.ntmps3, Try.results3, n5, opQ_none])
            refine InlK_intro rfl rfl can_toISS (callX (oS b m1' m2') (by simp only [go_sem, ints]) ?_)
            rintro p17 X17 hp17 hX17
            have b17 := holdI_new hp17 hX17
            have l17 := holdI_len hp17 hX17
            repeat' (first | with_reducible refine RegQ.intro (by kernel_rfl) ?_ | with_reducible refine DrawQ.nat (by kernel_rfl) ?_ | ((with_reducible refine condQ_dec (fun hp => ?_) (fun hp => ?_)) <;> try simp only [hp]) | with_reducible refine condQ_beq (fun hp => ?_) (fun hp => ?_) | ((with_reducible refine wantQ_dec (fun hp => ?_) (fun hp => ?_)) <;> try simp only [hp]) | with_reducible refine wantQ_beq (fun hp => ?_) (fun hp => ?_) | ((with_reducible refine condQ_split (fun hp => ?_) (fun hp => ?_)) <;> try simp only [hp]) | ((with_reducible refine wantQ_split (fun hp => ?_) (fun hp => ?_)) <;> try simp only [hp]) | simp -implicitDefEqProofs (disch := omega) only [go_sem, Nat.reduceAdd, Nat.reduceSub, reduceCtorEq, Nat.reduceLT, Nat.reduceLeDiff, Nat.reduceEqDiff, Nat.reduceMul, Int.reduceToNat, ↓reduceIte, List.take_of_length_le, evApp_n1, evApp_i0, evApp_i1, evApp_i2, evApp_i3, evApp_i4, evApp_i5, evApp_s0, evApp_s1, evApp_s2, evApp_s3, if_pos, if_neg, decide_eq_true, decide_eq_false, beq_t, beq_f, wrap_succ, wrap_in, getD_ints, getD_intss, getD_tsrs, fillA_len, fillA_at, fillA_full, evApp_z0, evApp_z1, evApp_z2, evApp_z3, evApp_i6, List.getElem?_set_self, List.set_set, evApp_d0, evApp_dT, evApp_dI, Try.ntmps3, Try.results3, n6, opQ_none])
            refine InlK_intro rfl rfl can_toI (callX (oI out (by omega)) (by simp only [go_sem, ints]) ?_)
            rintro p18 X18 hp18 hX18
            have d18 := one_new hp18 hX18
            have a18 := (a16.gx hX17).gx hX18
            have b18 := b17.gx hX18
            have z18 := gxA hX18 (gxA hX17 (gxA hX16 z15))
            have y18 := gxA hX18 (gxA hX17 (gxA hX16 y15))
            have w18b := gxA hX18 (gxA hX17 (gxA hX16 w15b))
            have q9 := expS_holdT a18
            have q10 := expS_holdI b18
            repeat' (first | with_reducible refine RegQ.intro (by kernel_rfl) ?_ | with_reducible refine DrawQ.nat (by kernel_rfl) ?_ | ((with_reducible refine condQ_dec (fun hp => ?_) (fun hp => ?_)) <;> try simp only [hp]) | with_reducible refine condQ_beq (fun hp => ?_) (fun hp => ?_) | ((with_reducible refine wantQ_dec (fun hp => ?_) (fun hp => ?_)) <;> try simp only [hp]) | with_reducible refine wantQ_beq (fun hp => ?_) (fun hp => ?_) | ((with_reducible refine condQ_split (fun hp => ?_) (fun hp => ?_)) <;> try simp only [hp]) | ((with_reducible refine wantQ_split (fun hp => ?_) (fun hp => ?_)) <;> try simp only [hp]) | simp -implicitDefEqProofs (disch := omega) only [go_sem, Nat.reduceAdd, Nat.reduceSub, reduceCtorEq, Nat.reduceLT, Nat.reduceLeDiff, Nat.reduceEqDiff, Nat.reduceMul, Int.reduceToNat, ↓reduceIte, List.take_of_length_le, evApp_n1, evApp_i0, evApp_i1, evApp_i2, evApp_i3, evApp_i4, evApp_i5, evApp_s0, evApp_s1, evApp_s2, evApp_s3, if_pos, if_neg, decide_eq_true, decide_eq_false, beq_t, beq_f, wrap_succ, wrap_in, getD_ints, getD_intss, getD_tsrs, fillA_len, fillA_at, fillA_full, evApp_z0, evApp_z1, evApp_z2, evApp_z3, evApp_i6, List.getElem?_set_self, List.set_set, evApp_d0, evApp_dT, evApp_dI, Try.ntmps3, Try.results3, n7, opQ_none])
            refine InlK_intro rfl rfl can_conBy (callX oC' (by simp only [go_sem, ints, a18.1, b18.1, d18, q9, q10]) ?_)
            rintro p19 X19 hp19 hX19
            have w19 : X19[p19]? = some ⟨1, vl.map fun n => .int .i64 n⟩ := one_new hp19 hX19
            have v19b := fun A : Blk => gx1 (A := A) w19
            have z19 := fun A : Blk => gx1 (A := A) (gxA hX19 z18)
            have y19 := fun A : Blk => gx1 (A := A) (gxA hX19 y18)
            have w19b := fun A : Blk => gx1 (A := A) (gxA hX19 w18b)
            rw [show oR (⟨[], vl⟩, true) p19 = .tup [.agg [.nilS, .sl p19 vl.length 0 vl.length vl.length], .bool true] from rfl]
            repeat' (first | with_reducible refine RegQ.intro (by kernel_rfl) ?_ | with_reducible refine DrawQ.nat (by kernel_rfl) ?_ | ((with_reducible refine condQ_dec (fun hp => ?_) (fun hp => ?_)) <;> try simp only [hp]) | with_reducible refine condQ_beq (fun hp => ?_) (fun hp => ?_) | ((with_reducible refine wantQ_dec (fun hp => ?_) (fun hp => ?_)) <;> try simp only [hp]) | with_reducible refine wantQ_beq (fun hp => ?_) (fun hp => ?_) | ((with_reducible refine condQ_split (fun hp => ?_) (fun hp => ?_)) <;> try simp only [hp]) | ((with_reducible refine wantQ_split (fun hp => ?_) (fun hp => ?_)) <;> try simp only [hp]) | simp -implicitDefEqProofs (disch := omega) only [go_sem, Nat.reduceAdd, Nat.reduceSub, reduceCtorEq, Nat.reduceLT, Nat.reduceLeDiff, Nat.reduceEqDiff, Nat.reduceMul, Int.reduceToNat, ↓reduceIte, List.take_of_length_le, evApp_n1, evApp_i0, evApp_i1, evApp_i2, evApp_i3, evApp_i4, evApp_i5, evApp_s0, evApp_s1, evApp_s2, evApp_s3, if_pos, if_neg, decide_eq_true, decide_eq_false, beq_t, beq_f, wrap_succ, wrap_in, getD_ints, getD_intss, getD_tsrs, fillA_len, fillA_at, fillA_full, evApp_z0, evApp_z1, evApp_z2, evApp_z3, evApp_i6, List.getElem?_set_self, List.set_set, evApp_d0, evApp_dT, evApp_dI, Try.ntmps3, Try.results3, h11, h12, z19, y19, w19b, v19b, u8, dec_tsr0, u9, mks_len, mks_take, w2, tk_app])
        · cases o with
          | false => exact absurd (by rw [ho rfl]) hsh
          | true =>
            have w7 := two_new hn7 (hX7.trans (by rw [oN_cons hsh]))
            have l7 := two_len hn7 (hX7.trans (by rw [oN_cons hsh]))
            have w8a := fun A : Blk => gx1 (A := A) w7.1
            have w8b := fun A : Blk => gx1 (A := A) w7.2
            simp only [oR_cons hsh]
            repeat' (first | with_reducible refine RegQ.intro (by kernel_rfl) ?_ | with_reducible refine DrawQ.nat (by kernel_rfl) ?_ | ((with_reducible refine condQ_dec (fun hp => ?_) (fun hp => ?_)) <;> try simp only [hp]) | with_reducible refine condQ_beq (fun hp => ?_) (fun hp => ?_) | ((with_reducible refine wantQ_dec (fun hp => ?_) (fun hp => ?_)) <;> try simp only [hp]) | with_reducible refine wantQ_beq (fun hp => ?_) (fun hp => ?_) | ((with_reducible refine condQ_split (fun hp => ?_) (fun hp => ?_)) <;> try simp only [hp]) | ((with_reducible refine wantQ_split (fun hp => ?_) (fun hp => ?_)) <;> try simp only [hp]) | simp -implicitDefEqProofs (disch := omega) only [go_sem, Nat.reduceAdd, Nat.reduceSub, reduceCtorEq, Nat.reduceLT, Nat.reduceLeDiff, Nat.reduceEqDiff, Nat.reduceMul, Int.reduceToNat, ↓reduceIte, List.take_of_length_le, evApp_n1, evApp_i0, evApp_i1, evApp_i2, evApp_i3, evApp_i4, evApp_i5, evApp_s0, evApp_s1, evApp_s2, evApp_s3, if_pos, if_neg, decide_eq_true, decide_eq_false, beq_t, beq_f, wrap_succ, wrap_in, getD_ints, getD_intss, getD_tsrs, fillA_len, fillA_at, fillA_full, evApp_z0, evApp_z1, evApp_z2, evApp_z3, evApp_i6, List.getElem?_set_self, List.set_set, evApp_d0, evApp_dT, evApp_dI, Try.ntmps3, Try.results3, h11, w8, w8a, w8b, u8, n4, opQ_none, tk_app])
            refine InlK_intro rfl rfl can_toTS (callX (oT l k1 k2) (by simp only [go_sem, ints]) ?_)
            rintro p9 X9 hp9 hX9
            have l8 : (X7 ++ [(⟨2, [tsrA p7 (p7 + 1) t]⟩ : Blk)]).length = X7.length + 1 := by simp
            have s1 := holdT_new hp9 hX9
            have l9 := holdT_len hp9 hX9
            have a9 := (a7.gx (N := [⟨2, [tsrA p7 (p7 + 1) t]⟩]) rfl).gx hX9
            have b9 := (b7.gx (N := [⟨2, [tsrA p7 (p7 + 1) t]⟩]) rfl).gx hX9
            have d9 := gxA hX9 (gx1 d7)
            have z9 := gxA hX9 (w8 _)
            have w9a := gxA hX9 (w8a _)
            have w9b := gxA hX9 (w8b _)
            have y9 := gxA hX9 gxl
            have q5 := expS_holdT a9
            have q6 := expS_holdT s1
            repeat' (first | with_reducible refine RegQ.intro (by kernel_rfl) ?_ | with_reducible refine DrawQ.nat (by kernel_rfl) ?_ | ((with_reducible refine condQ_dec (fun hp => ?_) (fun hp => ?_)) <;> try simp only [hp]) | with_reducible refine condQ_beq (fun hp => ?_) (fun hp => ?_) | ((with_reducible refine wantQ_dec (fun hp => ?_) (fun hp => ?_)) <;> try simp only [hp]) | with_reducible refine wantQ_beq (fun hp => ?_) (fun hp => ?_) | ((with_reducible refine condQ_split (fun hp => ?_) (fun hp => ?_)) <;> try simp only [hp]) | ((with_reducible refine wantQ_split (fun hp => ?_) (fun hp => ?_)) <;> try simp only [hp]) | simp -implicitDefEqProofs (disch := omega) only [go_sem, Nat.reduceAdd, Nat.reduceSub, reduceCtorEq, Nat.reduceLT, Nat.reduceLeDiff, Nat.reduceEqDiff, Nat.reduceMul, Int.reduceToNat, ↓reduceIte, List.take_of_length_le, evApp_n1, evApp_i0, evApp_i1, evApp_i2, evApp_i3, evApp_i4, evApp_i5, evApp_s0, evApp_s1, evApp_s2, evApp_s3, if_pos, if_neg, decide_eq_true, decide_eq_false, beq_t, beq_f, wrap_succ, wrap_in, getD_ints, getD_intss, getD_tsrs, fillA_len, fillA_at, fillA_full, evApp_z0, evApp_z1, evApp_z2, evApp_z3, evApp_i6, List.getElem?_set_self, List.set_set, evApp_d0, evApp_dT, evApp_dI, Try.ntmps3, Try.results3, h8, a9.1, s1.1, q5, q6, u5, n5, opQ_none])
            refine InlK_intro rfl rfl can_toISS (callX (oS b m1' m2') (by simp only [go_sem, ints]) ?_)
            rintro p10 X10 hp10 hX10
            have s2 := holdI_new hp10 hX10
            have l10 := holdI_len hp10 hX10
            have b10 := b9.gx hX10
            have q7 := expS_holdI b10
            have q8 := expS_holdI s2
            repeat' (first | with_reducible refine RegQ.intro (by kernel_rfl) ?_ | with_reducible refine DrawQ.nat (by kernel_rfl) ?_ | ((with_reducible refine condQ_dec (fun hp => ?_) (fun hp => ?_)) <;> try simp only [hp]) | with_reducible refine condQ_beq (fun hp => ?_) (fun hp => ?_) | ((with_reducible refine wantQ_dec (fun hp => ?_) (fun hp => ?_)) <;> try simp only [hp]) | with_reducible refine wantQ_beq (fun hp => ?_) (fun hp => ?_) | ((with_reducible refine condQ_split (fun hp => ?_) (fun hp => ?_)) <;> try simp only [hp]) | ((with_reducible refine wantQ_split (fun hp => ?_) (fun hp => ?_)) <;> try simp only [hp]) | simp -implicitDefEqProofs (disch := omega) only [go_sem, Nat.reduceAdd, Nat.reduceSub, reduceCtorEq, Nat.reduceLT, Nat.reduceLeDiff, Nat.reduceEqDiff, Nat.reduceMul, Int.reduceToNat, ↓reduceIte, List.take_of_length_le, evApp_n1, evApp_i0, evApp_i1, evApp_i2, evApp_i3, evApp_i4, evApp_i5, evApp_s0, evApp_s1, evApp_s2, evApp_s3, if_pos, if_neg, decide_eq_true, decide_eq_false, beq_t, beq_f, wrap_succ, wrap_in, getD_ints, getD_intss, getD_tsrs, fillA_len, fillA_at, fillA_full, evApp_z0, evApp_z1, evApp_z2, evApp_z3, evApp_i6, List.getElem?_set_self, List.set_set, evApp_d0, evApp_dT, evApp_dI, Try.ntmps3, Try.results3, h9, b10.1, s2.1, q7, q8, u6, n6, opQ_none])
            refine InlK_intro rfl rfl can_toI (callX (oI out (by omega)) (by simp only [go_sem, ints]) ?_)
            rintro p11 X11 hp11 hX11
            have s3 := one_new hp11 hX11
            have l11 := one_len hp11 hX11
            have d11 := gxA hX11 (gxA hX10 d9)
            have a11 := (a9.gx hX10).gx hX11
            have b11 := b10.gx hX11
            have z11 := gxA hX11 (gxA hX10 z9)
            have y11 := gxA hX11 (gxA hX10 y9)
            have w11a := gxA hX11 (gxA hX10 w9a)
            have w11b := gxA hX11 (gxA hX10 w9b)
            have e4 : p4 = X3.length + 1 := by simpa using hn4
            repeat' (first | with_reducible refine RegQ.intro (by kernel_rfl) ?_ | with_reducible refine DrawQ.nat (by kernel_rfl) ?_ | ((with_reducible refine condQ_dec (fun hp => ?_) (fun hp => ?_)) <;> try simp only [hp]) | with_reducible refine condQ_beq (fun hp => ?_) (fun hp => ?_) | ((with_reducible refine wantQ_dec (fun hp => ?_) (fun hp => ?_)) <;> try simp only [hp]) | with_reducible refine wantQ_beq (fun hp => ?_) (fun hp => ?_) | ((with_reducible refine condQ_split (fun hp => ?_) (fun hp => ?_)) <;> try simp only [hp]) | ((with_reducible refine wantQ_split (fun hp => ?_) (fun hp => ?_)) <;> try simp only [hp]) | simp -implicitDefEqProofs (disch := omega) only [go_sem, Nat.reduceAdd, Nat.reduceSub, reduceCtorEq, Nat.reduceLT, Nat.reduceLeDiff, Nat.reduceEqDiff, Nat.reduceMul, Int.reduceToNat, ↓reduceIte, List.take_of_length_le, evApp_n1, evApp_i0, evApp_i1, evApp_i2, evApp_i3, evApp_i4, evApp_i5, evApp_s0, evApp_s1, evApp_s2, evApp_s3, if_pos, if_neg, decide_eq_true, decide_eq_false, beq_t, beq_f, wrap_succ, wrap_in, getD_ints, getD_intss, getD_tsrs, fillA_len, fillA_at, fillA_full, evApp_z0, evApp_z1, evApp_z2, evApp_z3, evApp_i6, List.getElem?_set_self, List.set_set, evApp_d0, evApp_dT, evApp_dI, Try.ntmps3, Try.results3, h10, d11, s3, u7, m1, opQ_none])
            refine InlK_intro rfl rfl can_markTS ((iT l 1 p4 X11 a11 k1 k2 (by omega)).mono ?_)
            rintro r Y1 ⟨v1, rfl, ⟨v1a, v1b⟩, t1⟩
            have b12 := t1.holdI b11 (by omega)
            have d12 := t1.get d11 (by omega)
            have z12 := t1.get z11 (by omega)
            have y12 := t1.get y11 (by omega)
            have w12a := t1.get w11a (by omega)
            have w12b := t1.get w11b (by omega)
            repeat' (first | with_reducible refine RegQ.intro (by kernel_rfl) ?_ | with_reducible refine DrawQ.nat (by kernel_rfl) ?_ | ((with_reducible refine condQ_dec (fun hp => ?_) (fun hp => ?_)) <;> try simp only [hp]) | with_reducible refine condQ_beq (fun hp => ?_) (fun hp => ?_) | ((with_reducible refine wantQ_dec (fun hp => ?_) (fun hp => ?_)) <;> try simp only [hp]) | with_reducible refine wantQ_beq (fun hp => ?_) (fun hp => ?_) | ((with_reducible refine condQ_split (fun hp => ?_) (fun hp => ?_)) <;> try simp only [hp]) | ((with_reducible refine wantQ_split (fun hp => ?_) (fun hp => ?_)) <;> try simp only [hp]) | simp -implicitDefEqProofs (disch := omega) only [go_sem, Nat.reduceAdd, Nat.reduceSub, reduceCtorEq, Nat.reduceLT, Nat.reduceLeDiff, Nat.reduceEqDiff, Nat.reduceMul, Int.reduceToNat, ↓reduceIte, List.take_of_length_le, evApp_n1, evApp_i0, evApp_i1, evApp_i2, evApp_i3, evApp_i4, evApp_i5, evApp_s0, evApp_s1, evApp_s2, evApp_s3, if_pos, if_neg, decide_eq_true, decide_eq_false, beq_t, beq_f, wrap_succ, wrap_in, getD_ints, getD_intss, getD_tsrs, fillA_len, fillA_at, fillA_full, evApp_z0, evApp_z1, evApp_z2, evApp_z3, evApp_i6, List.getElem?_set_self, List.set_set, evApp_d0, evApp_dT, evApp_dI, Try.ntmps3, Try.results3, m2, opQ_none])
            refine InlK_intro rfl rfl can_markISS ((iS b v1 p5 Y1 b12 m1' m2' (by omega)).mono ?_)
            rintro r Y2 ⟨v2, rfl, ⟨v2a, v2b⟩, t2⟩
            have d13 := t2.get d12 (by omega)
            have z13 := t2.get z12 (by omega)
            have y13 := t2.get y12 (by omega)
            have w13a := t2.get w12a (by omega)
            have w13b := t2.get w12b (by omega)
            repeat' (first | with_reducible refine RegQ.intro (by kernel_rfl) ?_ | with_reducible refine DrawQ.nat (by kernel_rfl) ?_ | ((with_reducible refine condQ_dec (fun hp => ?_) (fun hp => ?_)) <;> try simp only [hp]) | with_reducible refine condQ_beq (fun hp => ?_) (fun hp => ?_) | ((with_reducible refine wantQ_dec (fun hp => ?_) (fun hp => ?_)) <;> try simp only [hp]) | with_reducible refine wantQ_beq (fun hp => ?_) (fun hp => ?_) | ((with_reducible refine condQ_split (fun hp => ?_) (fun hp => ?_)) <;> try simp only [hp]) | ((with_reducible refine wantQ_split (fun hp => ?_) (fun hp => ?_)) <;> try simp only [hp]) | simp -implicitDefEqProofs (disch := omega) only [go_sem, Nat.reduceAdd, Nat.reduceSub, reduceCtorEq, Nat.reduceLT, Nat.reduceLeDiff, Nat.reduceEqDiff, Nat.reduceMul, Int.reduceToNat, ↓reduceIte, List.take_of_length_le, evApp_n1, evApp_i0, evApp_i1, evApp_i2, evApp_i3, evApp_i4, evApp_i5, evApp_s0, evApp_s1, evApp_s2, evApp_s3, if_pos, if_neg, decide_eq_true, decide_eq_false, beq_t, beq_f, wrap_succ, wrap_in, getD_ints, getD_intss, getD_tsrs, fillA_len, fillA_at, fillA_full, evApp_z0, evApp_z1, evApp_z2, evApp_z3, evApp_i6, List.getElem?_set_self, List.set_set, evApp_d0, evApp_dT, evApp_dI, Try.ntmps3, Try.results3, m3, opQ_none])
            refine InlK_intro rfl rfl can_markI ((iI out v2 p6 Y2 d13 (by omega) (by omega)).mono ?_)
            rintro r Y3 ⟨rfl, hY3⟩
            have t3 : sameOut Y2 Y3 p6 (p6 + 1) := by
              subst hY3
              exact sameOut.set (L := Y2) (L' := Y2) (lo := p6) (hi := p6) ⟨rfl, fun _ _ => rfl⟩ (Nat.le_refl _) _ (by omega) (by omega)
            have z14 := t3.get z13 (by omega)
            have y14 := t3.get y13 (by omega)
            have w14a := t3.get w13a (by omega)
            have w14b := t3.get w13b (by omega)
            clear hY3
            have w1 : ¬ (v2 + (out.length : Int) < 0) := by omega
            repeat' (first | with_reducible refine RegQ.intro (by kernel_rfl) ?_ | with_reducible refine DrawQ.nat (by kernel_rfl) ?_ | ((with_reducible refine condQ_dec (fun hp => ?_) (fun hp => ?_)) <;> try simp only [hp]) | with_reducible refine condQ_beq (fun hp => ?_) (fun hp => ?_) | ((with_reducible refine wantQ_dec (fun hp => ?_) (fun hp => ?_)) <;> try simp only [hp]) | with_reducible refine wantQ_beq (fun hp => ?_) (fun hp => ?_) | ((with_reducible refine condQ_split (fun hp => ?_) (fun hp => ?_)) <;> try simp only [hp]) | ((with_reducible refine wantQ_split (fun hp => ?_) (fun hp => ?_)) <;> try simp only [hp]) | simp -implicitDefEqProofs (disch := omega) only [go_sem, Nat.reduceAdd, Nat.reduceSub, reduceCtorEq, Nat.reduceLT, Nat.reduceLeDiff, Nat.reduceEqDiff, Nat.reduceMul, Int.reduceToNat, ↓reduceIte, List.take_of_length_le, evApp_n1, evApp_i0, evApp_i1, evApp_i2, evApp_i3, evApp_i4, evApp_i5, evApp_s0, evApp_s1, evApp_s2, evApp_s3, if_pos, if_neg, decide_eq_true, decide_eq_false, beq_t, beq_f, wrap_succ, wrap_in, getD_ints, getD_intss, getD_tsrs, fillA_len, fillA_at, fillA_full, evApp_z0, evApp_z1, evApp_z2, evApp_z3, evApp_i6, List.getElem?_set_self, List.set_set, evApp_d0, evApp_dT, evApp_dI, Try.ntmps3, Try.results3, h11, z14, y14, w14a, w14b, u8, w1, m4, opQ_none])
            refine InlK_intro rfl rfl can_markT ((iM t 1 p7 (p7 + 1) Y3 w14a w14b (by omega) ⟨by omega, by omega⟩ (by omega)).mono ?_)
            rintro r Y4 ⟨rfl, hY4⟩
            have hb1 : p7 < Y3.length := (List.getElem?_eq_some_iff.1 w14a).1
            have hb2 : p7 + 1 < Y3.length := (List.getElem?_eq_some_iff.1 w14b).1
            have w15a := gxA hY4 (show ((Y3.set p7 ⟨1, (mks 1 t.sh.length).map fun n => .int .i64 n⟩).set (p7 + 1) ⟨1, (mks (1 + t.sh.length) t.vl.length).map fun n => .int .i64 n⟩)[p7]? = some ⟨1, (mks 1 t.sh.length).map fun n => .int .i64 n⟩ by rw [List.getElem?_set_ne (by omega), List.getElem?_set_self hb1])
            have w15b := gxA hY4 (show ((Y3.set p7 ⟨1, (mks 1 t.sh.length).map fun n => .int .i64 n⟩).set (p7 + 1) ⟨1, (mks (1 + t.sh.length) t.vl.length).map fun n => .int .i64 n⟩)[p7 + 1]? = some ⟨1, (mks (1 + t.sh.length) t.vl.length).map fun n => .int .i64 n⟩ by rw [List.getElem?_set_self (by simpa using hb2)])
            have z15 := gxA hY4 (show ((Y3.set p7 ⟨1, (mks 1 t.sh.length).map fun n => .int .i64 n⟩).set (p7 + 1) ⟨1, (mks (1 + t.sh.length) t.vl.length).map fun n => .int .i64 n⟩)[X3.length]? = _ by rw [List.getElem?_set_ne (by omega), List.getElem?_set_ne (by omega)]; exact z14)
            have y15 := gxA hY4 (show ((Y3.set p7 ⟨1, (mks 1 t.sh.length).map fun n => .int .i64 n⟩).set (p7 + 1) ⟨1, (mks (1 + t.sh.length) t.vl.length).map fun n => .int .i64 n⟩)[X7.length]? = _ by rw [List.getElem?_set_ne (by omega), List.getElem?_set_ne (by omega)]; exact y14)
            clear hY4
            have u9 := gHeldT_eq (x := ⟨mks 1 t.sh.length, mks (1 + t.sh.length) t.vl.length⟩) (k := 1) ⟨by simp only [mks_len]; omega, by simp only [mks_len]; omega, by omega, by omega, by simp only [mks_len], by simp only [mks_len]⟩
            simp only [mks_len] at u9
            have w2 : ¬ ((1 : Int) + t.sh.length + t.vl.length < 0) := by omega
            repeat' (first | with_reducible refine RegQ.intro (by kernel_rfl) ?_ | with_reducible refine DrawQ.nat (by kernel_rfl) ?_ | ((with_reducible refine condQ_dec (fun hp => ?_) (fun hp => ?_)) <;> try simp only [hp]) | with_reducible refine condQ_beq (fun hp => ?_) (fun hp => ?_) | ((with_reducible refine wantQ_dec (fun hp => ?_) (fun hp => ?_)) <;> try simp only [hp]) | with_reducible refine wantQ_beq (fun hp => ?_) (fun hp => ?_) | ((with_reducible refine condQ_split (fun hp => ?_) (fun hp => ?_)) <;> try simp only [hp]) | ((with_reducible refine wantQ_split (fun hp => ?_) (fun hp => ?_)) <;> try simp only [hp]) | simp -implicitDefEqProofs (disch := omega) only [go_sem, Nat.reduceAdd, Nat.reduceSub, reduceCtorEq, Nat.reduceLT, Nat.reduceLeDiff, Nat.reduceEqDiff, Nat.reduceMul, Int.reduceToNat, ↓reduceIte, List.take_of_length_le, evApp_n1, evApp_i0, evApp_i1, evApp_i2, evApp_i3, evApp_i4, evApp_i5, evApp_s0, evApp_s1, evApp_s2, evApp_s3, if_pos, if_neg, decide_eq_true, decide_eq_false, beq_t, beq_f, wrap_succ, wrap_in, getD_ints, getD_intss, getD_tsrs, fillA_len, fillA_at, fillA_full, evApp_z0, evApp_z1, evApp_z2, evApp_z3, evApp_i6, List.getElem?_set_self, List.set_set, evApp_d0, evApp_dT, evApp_dI, Try.ntmps3, Try.results3, h12, mks_len, mks_take, z15, y15, w15a, w15b, u9, w2, n4, opQ_none])
            refine InlK_intro rfl rfl can_toTS (callX (oT l k1 k2) (by simp only [go_sem, ints]) ?_)
            rintro p16 X16 hp16 hX16
            have a16 := holdT_new hp16 hX16
            have l16 := holdT_len hp16 hX16
            repeat' (first | with_reducible refine RegQ.intro (by kernel_rfl) ?_ | with_reducible refine DrawQ.nat (by kernel_rfl) ?_ | ((with_reducible refine condQ_dec (fun hp => ?_) (fun hp => ?_)) <;> try simp only [hp]) | with_reducible refine condQ_beq (fun hp => ?_) (fun hp => ?_) | ((with_reducible refine wantQ_dec (fun hp => ?_) (fun hp => ?_)) <;> try simp only [hp]) | with_reducible refine wantQ_beq (fun hp => ?_) (fun hp => ?_) | ((with_reducible refine condQ_split (fun hp => ?_) (fun hp => ?_)) <;> try simp only [hp]) | ((with_reducible refine wantQ_split (fun hp => ?_) (fun hp => ?_)) <;> try simp only [hp]) | simp -implicitDefEqProofs (disch := omega) only [go_sem, Nat.reduceAdd, Nat.reduceSub, reduceCtorEq, Nat.reduceLT, Nat.reduceLeDiff, Nat.reduceEqDiff, Nat.reduceMul, Int.reduceToNat, ↓reduceIte, List.take_of_length_le, evApp_n1, evApp_i0, evApp_i1, evApp_i2, evApp_i3, evApp_i4, evApp_i5, evApp_s0, evApp_s1, evApp_s2, evApp_s3, if_pos, if_neg, decide_eq_true, decide_eq_false, beq_t, beq_f, wrap_succ, wrap_in, getD_ints, getD_intss, getD_tsrs, fillA_len, fillA_at, fillA_full, evApp_z0, evApp_z1, evApp_z2, evApp_z3, evApp_i6, List.getElem?_set_self, List.set_set, evApp_d0, evApp_dT, evApp_dI, Try.ntmps3, Try.results3, n5, opQ_none])
            refine InlK_intro rfl rfl can_toISS (callX (oS b m1' m2') (by simp only [go_sem, ints]) ?_)
            rintro p17 X17 hp17 hX17
            have b17 := holdI_new hp17 hX17
            have l17 := holdI_len hp17 hX17
            repeat' (first | with_reducible refine RegQ.intro (by kernel_rfl) ?_ | with_reducible refine DrawQ.nat (by kernel_rfl) ?_ | ((with_reducible refine condQ_dec (fun hp => ?_) (fun hp => ?_)) <;> try simp only [hp]) | with_reducible refine condQ_beq (fun hp => ?_) (fun hp => ?_) | ((with_reducible refine wantQ_dec (fun hp => ?_) (fun hp => ?_)) <;> try simp only [hp]) | with_reducible refine wantQ_beq (fun hp => ?_) (fun hp => ?_) | ((with_reducible refine condQ_split (fun hp => ?_) (fun hp => ?_)) <;> try simp only [hp]) | ((with_reducible refine wantQ_split (fun hp => ?_) (fun hp => ?_)) <;> try simp only [hp]) | simp -implicitDefEqProofs (disch := omega) only [go_sem, Nat.reduceAdd, Nat.reduceSub, reduceCtorEq, Nat.reduceLT, Nat.reduceLeDiff, Nat.reduceEqDiff, Nat.reduceMul, Int.reduceToNat, ↓reduceIte, List.take_of_length_le, evApp_n1, evApp_i0, evApp_i1, evApp_i2, evApp_i3, evApp_i4, evApp_i5, evApp_s0, evApp_s1, evApp_s2, evApp_s3, if_pos, if_neg, decide_eq_true, decide_eq_false, beq_t, beq_f, wrap_succ, wrap_in, getD_ints, getD_intss, getD_tsrs, fillA_len, fillA_at, fillA_full, evApp_z0, evApp_z1, evApp_z2, evApp_z3, evApp_i6, List.getElem?_set_self, List.set_set, evApp_d0, evApp_dT, evApp_dI, Try.ntmps3, Try.results3, n6, opQ_none])
            refine InlK_intro rfl rfl can_toI (callX (oI out (by omega)) (by simp only [go_sem, ints]) ?_)
            rintro p18 X18 hp18 hX18
            have d18 := one_new hp18 hX18
            have a18 := (a16.gx hX17).gx hX18
            have b18 := b17.gx hX18
            have z18 := gxA hX18 (gxA hX17 (gxA hX16 z15))
            have y18 := gxA hX18 (gxA hX17 (gxA hX16 y15))
            have w18a := gxA hX18 (gxA hX17 (gxA hX16 w15a))
            have w18b := gxA hX18 (gxA hX17 (gxA hX16 w15b))
            have q9 := expS_holdT a18
            have q10 := expS_holdI b18
            repeat' (first | with_reducible refine RegQ.intro (by kernel_rfl) ?_ | with_reducible refine DrawQ.nat (by kernel_rfl) ?_ | ((with_reducible refine condQ_dec (fun hp => ?_) (fun hp => ?_)) <;> try simp only [hp]) | with_reducible refine condQ_beq (fun hp => ?_) (fun hp => ?_) | ((with_reducible refine wantQ_dec (fun hp => ?_) (fun hp => ?_)) <;> try simp only [hp]) | with_reducible refine wantQ_beq (fun hp => ?_) (fun hp => ?_) | ((with_reducible refine condQ_split (fun hp => ?_) (fun hp => ?_)) <;> try simp only [hp]) | ((with_reducible refine wantQ_split (fun hp => ?_) (fun hp => ?_)) <;> try simp only [hp]) | simp -implicitDefEqProofs (disch := omega) only [go_sem, Nat.reduceAdd, Nat.reduceSub, reduceCtorEq, Nat.reduceLT, Nat.reduceLeDiff, Nat.reduceEqDiff, Nat.reduceMul, Int.reduceToNat, ↓reduceIte, List.take_of_length_le, evApp_n1, evApp_i0, evApp_i1, evApp_i2, evApp_i3, evApp_i4, evApp_i5, evApp_s0, evApp_s1, evApp_s2, evApp_s3, if_pos, if_neg, decide_eq_true, decide_eq_false, beq_t, beq_f, wrap_succ, wrap_in, getD_ints, getD_intss, getD_tsrs, fillA_len, fillA_at, fillA_full, evApp_z0, evApp_z1, evApp_z2, evApp_z3, evApp_i6, List.getElem?_set_self, List.set_set, evApp_d0, evApp_dT, evApp_dI, Try.ntmps3, Try.results3, n7, opQ_none])
            refine InlK_intro rfl rfl can_conBy (callX oC' (by simp only [go_sem, ints, a18.1, b18.1, d18, q9, q10]) ?_)
            rintro p19 X19 hp19 hX19
            have w19 := two_new hp19 (hX19.trans (by rw [oN_cons hsh]))
            have v19a := fun A : Blk => gx1 (A := A) w19.1
            have v19b := fun A : Blk => gx1 (A := A) w19.2
            have z19 := fun A : Blk => gx1 (A := A) (gxA hX19 z18)
            have y19 := fun A : Blk => gx1 (A := A) (gxA hX19 y18)
            have w19a := fun A : Blk => gx1 (A := A) (gxA hX19 w18a)
            have w19b := fun A : Blk => gx1 (A := A) (gxA hX19 w18b)
            simp only [oR_cons hsh]
            repeat' (first | with_reducible refine RegQ.intro (by kernel_rfl) ?_ | with_reducible refine DrawQ.nat (by kernel_rfl) ?_ | ((with_reducible refine condQ_dec (fun hp => ?_) (fun hp => ?_)) <;> try simp only [hp]) | with_reducible refine condQ_beq (fun hp => ?_) (fun hp => ?_) | ((with_reducible refine wantQ_dec (fun hp => ?_) (fun hp => ?_)) <;> try simp only [hp]) | with_reducible refine wantQ_beq (fun hp => ?_) (fun hp => ?_) | ((with_reducible refine condQ_split (fun hp => ?_) (fun hp => ?_)) <;> try simp only [hp]) | ((with_reducible refine wantQ_split (fun hp => ?_) (fun hp => ?_)) <;> try simp only [hp]) | simp -implicitDefEqProofs (disch := omega) only [go_sem, Nat.reduceAdd, Nat.reduceSub, reduceCtorEq, Nat.reduceLT, Nat.reduceLeDiff, Nat.reduceEqDiff, Nat.reduceMul, Int.reduceToNat, ↓reduceIte, List.take_of_length_le, evApp_n1, evApp_i0, evApp_i1, evApp_i2, evApp_i3, evApp_i4, evApp_i5, evApp_s0, evApp_s1, evApp_s2, evApp_s3, if_pos, if_neg, decide_eq_true, decide_eq_false, beq_t, beq_f, wrap_succ, wrap_in, getD_ints, getD_intss, getD_tsrs, fillA_len, fillA_at, fillA_full, evApp_z0, evApp_z1, evApp_z2, evApp_z3, evApp_i6, List.getElem?_set_self, List.set_set, evApp_d0, evApp_dT, evApp_dI, Try.ntmps3, Try.results3, h11, h12, z19, y19, w19a, w19b, v19a, v19b, u8, u9, mks_len, mks_take, w2, tk_app])
end Go.Proofs.Ytfjhhbpipococaa
