/- Contracts of functions that the laws of this seat call. -/
import Derived.Test.YtfjhhbpipococaaGe
import Derived.Test.YtfjhhbpipococaaHb
set_option linter.all false
namespace Go.Proofs.Ytfjhhbpipococaa
open Go Go.Ev Go.RowKit Go.Ev.Enc Go.Pl

set_option maxHeartbeats 2000000 in
set_option maxRecDepth 100000 in
theorem spec_equalInts {Sg : FuncId → Option (List AV → Option AV)} (hS : Sound Try.prog Sg) : ∀ a r, F2 gEqInts a = some r → CSpec Try.prog 35 a r := by
  refine spec2 Try.func35 rfl Try.pf hS ?_
  intro a b r hr
  obtain ⟨⟨h1, h2⟩, rfl⟩ := gd_some hr
  by_cases hl : a.length = b.length
  · have hl' : (a.length : Int) = (b.length : Int) := by omega
    repeat' (first | with_reducible refine RegQ.intro (by kernel_rfl) ?_ | with_reducible refine DrawQ.nat (by kernel_rfl) ?_ | ((with_reducible refine condQ_dec (fun hp => ?_) (fun hp => ?_)) <;> try simp only [hp]) | with_reducible refine condQ_beq (fun hp => ?_) (fun hp => ?_) | ((with_reducible refine wantQ_dec (fun hp => ?_) (fun hp => ?_)) <;> try simp only [hp]) | with_reducible refine wantQ_beq (fun hp => ?_) (fun hp => ?_) | ((with_reducible refine condQ_split (fun hp => ?_) (fun hp => ?_)) <;> try simp only [hp]) | ((with_reducible refine wantQ_split (fun hp => ?_) (fun hp => ?_)) <;> try simp only [hp]) | simp -implicitDefEqProofs (disch := omega) only [go_sem, Nat.reduceAdd, Nat.reduceSub, reduceCtorEq, Nat.reduceLT, Nat.reduceLeDiff, Nat.reduceEqDiff, Nat.reduceMul, Int.reduceToNat, ↓reduceIte, List.take_of_length_le, evApp_n1, evApp_i0, evApp_i1, evApp_i2, evApp_i3, evApp_i4, evApp_i5, evApp_s0, evApp_s1, evApp_s2, evApp_s3, if_pos, if_neg, decide_eq_true, decide_eq_false, beq_t, beq_f, wrap_succ, wrap_in, getD_ints, getD_intss, getD_tsrs, fillA_len, fillA_at, fillA_full, evApp_z0, evApp_z1, evApp_z2, evApp_z3, evApp_i6, List.getElem?_set_self, List.set_set, Try.ntmps35, Try.results35, hl'])
    refine LoopQ.mix (fun t0 L0 nn ss => ∃ (k : Nat) (_ : Unit), (∃ x : Nat → AV, ss = ⟨mixL 0 (.k :: .k :: .k :: .k :: .s :: .v (i64 (k : Nat)) :: .k :: .k :: .k :: .k :: .k :: .s :: .s :: .s :: .s :: .s :: .s :: .s :: .s :: .s :: .s :: .s :: .s :: .s :: .s :: .s :: []) t0 x, L0⟩) ∧ (k ≤ a.length) ∧ (∀ i, i < k → a.getD i 0 = b.getD i 0) ∧ nn = a.length - k) ?_ ?_
    · exact ⟨_, ⟨0, (), mixI rfl, Nat.zero_le _, fun i hi => absurd hi (Nat.not_lt_zero _), rfl⟩⟩
    · rintro I0 hI0 n s ⟨k, _, ⟨x, rfl⟩, g1, g2, rfl⟩
      by_cases hlt : k < a.length
      · have hkb : k < b.length := by omega
        have hlt' : (k : Int) < (b.length : Int) := by omega
        by_cases he : a.getD k 0 = b.getD k 0
        · repeat' (first | with_reducible refine RegQ.intro (by kernel_rfl) ?_ | with_reducible refine DrawQ.nat (by kernel_rfl) ?_ | ((with_reducible refine condQ_dec (fun hp => ?_) (fun hp => ?_)) <;> try simp only [hp]) | with_reducible refine condQ_beq (fun hp => ?_) (fun hp => ?_) | ((with_reducible refine wantQ_dec (fun hp => ?_) (fun hp => ?_)) <;> try simp only [hp]) | with_reducible refine wantQ_beq (fun hp => ?_) (fun hp => ?_) | ((with_reducible refine condQ_split (fun hp => ?_) (fun hp => ?_)) <;> try simp only [hp]) | ((with_reducible refine wantQ_split (fun hp => ?_) (fun hp => ?_)) <;> try simp only [hp]) | simp -implicitDefEqProofs (disch := omega) only [go_sem, Nat.reduceAdd, Nat.reduceSub, reduceCtorEq, Nat.reduceLT, Nat.reduceLeDiff, Nat.reduceEqDiff, Nat.reduceMul, Int.reduceToNat, ↓reduceIte, List.take_of_length_le, evApp_n1, evApp_i0, evApp_i1, evApp_i2, evApp_i3, evApp_i4, evApp_i5, evApp_s0, evApp_s1, evApp_s2, evApp_s3, if_pos, if_neg, decide_eq_true, decide_eq_false, beq_t, beq_f, wrap_succ, wrap_in, getD_ints, getD_intss, getD_tsrs, fillA_len, fillA_at, fillA_full, evApp_z0, evApp_z1, evApp_z2, evApp_z3, evApp_i6, List.getElem?_set_self, List.set_set, Try.ntmps35, Try.results35, hlt', getD_ints hlt, getD_ints hkb, he])
          exact ⟨a.length - (k + 1), by omega, hI0 _ _ ⟨k + 1, (), mixI rfl, hlt, fun i hi => if h : i = k then by subst h; exact he else g2 i (by omega), rfl⟩⟩
        · repeat' (first | with_reducible refine RegQ.intro (by kernel_rfl) ?_ | with_reducible refine DrawQ.nat (by kernel_rfl) ?_ | ((with_reducible refine condQ_dec (fun hp => ?_) (fun hp => ?_)) <;> try simp only [hp]) | with_reducible refine condQ_beq (fun hp => ?_) (fun hp => ?_) | ((with_reducible refine wantQ_dec (fun hp => ?_) (fun hp => ?_)) <;> try simp only [hp]) | with_reducible refine wantQ_beq (fun hp => ?_) (fun hp => ?_) | ((with_reducible refine condQ_split (fun hp => ?_) (fun hp => ?_)) <;> try simp only [hp]) | ((with_reducible refine wantQ_split (fun hp => ?_) (fun hp => ?_)) <;> try simp only [hp]) | simp -implicitDefEqProofs (disch := omega) only [go_sem, Nat.reduceAdd, Nat.reduceSub, reduceCtorEq, Nat.reduceLT, Nat.reduceLeDiff, Nat.reduceEqDiff, Nat.reduceMul, Int.reduceToNat, ↓reduceIte, List.take_of_length_le, evApp_n1, evApp_i0, evApp_i1, evApp_i2, evApp_i3, evApp_i4, evApp_i5, evApp_s0, evApp_s1, evApp_s2, evApp_s3, if_pos, if_neg, decide_eq_true, decide_eq_false, beq_t, beq_f, wrap_succ, wrap_in, getD_ints, getD_intss, getD_tsrs, fillA_len, fillA_at, fillA_full, evApp_z0, evApp_z1, evApp_z2, evApp_z3, evApp_i6, List.getElem?_set_self, List.set_set, Try.ntmps35, Try.results35, hlt', getD_ints hlt, getD_ints hkb, he])
          rw [decide_eq_false (fun h => he (by rw [h]))]
      · obtain rfl : k = a.length := by omega
        repeat' (first | with_reducible refine RegQ.intro (by kernel_rfl) ?_ | with_reducible refine DrawQ.nat (by kernel_rfl) ?_ | ((with_reducible refine condQ_dec (fun hp => ?_) (fun hp => ?_)) <;> try simp only [hp]) | with_reducible refine condQ_beq (fun hp => ?_) (fun hp => ?_) | ((with_reducible refine wantQ_dec (fun hp => ?_) (fun hp => ?_)) <;> try simp only [hp]) | with_reducible refine wantQ_beq (fun hp => ?_) (fun hp => ?_) | ((with_reducible refine condQ_split (fun hp => ?_) (fun hp => ?_)) <;> try simp only [hp]) | ((with_reducible refine wantQ_split (fun hp => ?_) (fun hp => ?_)) <;> try simp only [hp]) | simp -implicitDefEqProofs (disch := omega) only [go_sem, Nat.reduceAdd, Nat.reduceSub, reduceCtorEq, Nat.reduceLT, Nat.reduceLeDiff, Nat.reduceEqDiff, Nat.reduceMul, Int.reduceToNat, ↓reduceIte, List.take_of_length_le, evApp_n1, evApp_i0, evApp_i1, evApp_i2, evApp_i3, evApp_i4, evApp_i5, evApp_s0, evApp_s1, evApp_s2, evApp_s3, if_pos, if_neg, decide_eq_true, decide_eq_false, beq_t, beq_f, wrap_succ, wrap_in, getD_ints, getD_intss, getD_tsrs, fillA_len, fillA_at, fillA_full, evApp_z0, evApp_z1, evApp_z2, evApp_z3, evApp_i6, List.getElem?_set_self, List.set_set, Try.ntmps35, Try.results35, hl'])
        rw [decide_eq_true (ints_ext (by omega) g2)]
  · have hl' : ¬ (a.length : Int) = (b.length : Int) := by omega
    repeat' (first | with_reducible refine RegQ.intro (by kernel_rfl) ?_ | with_reducible refine DrawQ.nat (by kernel_rfl) ?_ | ((with_reducible refine condQ_dec (fun hp => ?_) (fun hp => ?_)) <;> try simp only [hp]) | with_reducible refine condQ_beq (fun hp => ?_) (fun hp => ?_) | ((with_reducible refine wantQ_dec (fun hp => ?_) (fun hp => ?_)) <;> try simp only [hp]) | with_reducible refine wantQ_beq (fun hp => ?_) (fun hp => ?_) | ((with_reducible refine condQ_split (fun hp => ?_) (fun hp => ?_)) <;> try simp only [hp]) | ((with_reducible refine wantQ_split (fun hp => ?_) (fun hp => ?_)) <;> try simp only [hp]) | simp -implicitDefEqProofs (disch := omega) only [go_sem, Nat.reduceAdd, Nat.reduceSub, reduceCtorEq, Nat.reduceLT, Nat.reduceLeDiff, Nat.reduceEqDiff, Nat.reduceMul, Int.reduceToNat, ↓reduceIte, List.take_of_length_le, evApp_n1, evApp_i0, evApp_i1, evApp_i2, evApp_i3, evApp_i4, evApp_i5, evApp_s0, evApp_s1, evApp_s2, evApp_s3, if_pos, if_neg, decide_eq_true, decide_eq_false, beq_t, beq_f, wrap_succ, wrap_in, getD_ints, getD_intss, getD_tsrs, fillA_len, fillA_at, fillA_full, evApp_z0, evApp_z1, evApp_z2, evApp_z3, evApp_i6, List.getElem?_set_self, List.set_set, Try.ntmps35, Try.results35, hl'])
    rw [decide_eq_false (fun h => hl (by rw [h]))]
set_option maxHeartbeats 2000000 in
set_option maxRecDepth 100000 in
theorem spec_equalTensor {Sg : FuncId → Option (List AV → Option AV)} (hS : Sound Try.prog Sg) (hc : Sg 35 = some (F2 gEqInts)) : ∀ a r, F2 gEqTsr a = some r → CSpec Try.prog 25 a r := by
  refine spec2 Try.func25 rfl Try.pf hS ?_
  intro a b r hr
  obtain ⟨⟨⟨h1, h2⟩, h3, h4⟩, rfl⟩ := gd_some hr
  obtain ⟨s, v⟩ := a
  obtain ⟨s', v'⟩ := b
  simp only at h1 h2 h3 h4
  have q1 := gEqInts_eq (a := s) (b := s') ⟨h1, h3⟩
  have q2 := gEqInts_eq (a := v) (b := v') ⟨h2, h4⟩
  repeat' (first | with_reducible refine RegQ.intro (by kernel_rfl) ?_ | with_reducible refine DrawQ.nat (by kernel_rfl) ?_ | ((with_reducible refine condQ_dec (fun hp => ?_) (fun hp => ?_)) <;> try simp only [hp]) | with_reducible refine condQ_beq (fun hp => ?_) (fun hp => ?_) | ((with_reducible refine wantQ_dec (fun hp => ?_) (fun hp => ?_)) <;> try simp only [hp]) | with_reducible refine wantQ_beq (fun hp => ?_) (fun hp => ?_) | ((with_reducible refine condQ_split (fun hp => ?_) (fun hp => ?_)) <;> try simp only [hp]) | ((with_reducible refine wantQ_split (fun hp => ?_) (fun hp => ?_)) <;> try simp only [hp]) | simp -implicitDefEqProofs (disch := omega) only [go_sem, Nat.reduceAdd, Nat.reduceSub, reduceCtorEq, Nat.reduceLT, Nat.reduceLeDiff, Nat.reduceEqDiff, Nat.reduceMul, Int.reduceToNat, ↓reduceIte, List.take_of_length_le, evApp_n1, evApp_i0, evApp_i1, evApp_i2, evApp_i3, evApp_i4, evApp_i5, evApp_s0, evApp_s1, evApp_s2, evApp_s3, if_pos, if_neg, decide_eq_true, decide_eq_false, beq_t, beq_f, wrap_succ, wrap_in, getD_ints, getD_intss, getD_tsrs, fillA_len, fillA_at, fillA_full, evApp_z0, evApp_z1, evApp_z2, evApp_z3, evApp_i6, List.getElem?_set_self, List.set_set, Try.ntmps25, Try.results25, hc, q1, q2])
  · subst hp; simp
  · simp [hp]

theorem mmR_ok {x y t : Tsr} (h : mmR x y = (t, true)) : mmC x y = some t ∧ tsrOK t = true := by
  unfold mmR tsrT at h
  split at h
  · simp at h
  · rename_i t' he
    split at h
    · rename_i ho
      simp only [Prod.mk.injEq, and_true] at h
      subst h
      exact ⟨he, ho⟩
    · simp at h
theorem trR_ok {x : Tsr} {a : Int} (h : traceR (tsrT (trC x)) = (a, true)) : ∃ n : Nat, x.sh = [(n : Int), (n : Int)] ∧ x.vl.length = n * n ∧ n ≤ 60 ∧ tsrOK x = true ∧ a = IntKind.i64.wrap (sumN n fun i => x.vl.getD (i * n + i) 0) := by
  unfold traceR tsrT at h
  cases hc : trC x with
  | none => rw [hc] at h; simp at h
  | some t =>
    rw [hc] at h
    simp only at h
    split at h
    · obtain ⟨n, h1, h2, h3, h4, h5⟩ := tr_form hc
      refine ⟨n, h1, h2, h3, h4, ?_⟩
      rw [← h5]
      split at h
      · simpa using h.symm
      · simp at h
    · simp at h
theorem tp_law {x y t t2 : Tsr} {a c : Int} (h1 : mmR x y = (t, true)) (h2 : mmR y x = (t2, true)) (h3 : traceR (tsrT (trC t)) = (a, true)) (h4 : traceR (tsrT (trC t2)) = (c, true)) : a = c := by
  obtain ⟨p1, p2⟩ := mmR_ok h1
  obtain ⟨p3, p4⟩ := mmR_ok h2
  obtain ⟨n, m, K, M1⟩ := mm_form p1 p2
  obtain ⟨n', m', K', M2⟩ := mm_form p3 p4
  have e1 := M1.xs.symm.trans M2.ys
  have e2 := M1.ys.symm.trans M2.xs
  simp at e1 e2
  obtain ⟨rfl, rfl⟩ : n = m' ∧ m = K' := by omega
  obtain ⟨rfl, rfl⟩ : n' = m ∧ K = n := by omega
  obtain ⟨q, q1, q2, q3, q4, rfl⟩ := trR_ok h3
  obtain ⟨q', r1, r2, r3, r4, rfl⟩ := trR_ok h4
  have e3 := M1.ts.symm.trans q1
  have e4 := M2.ts.symm.trans r1
  simp at e3 e4
  obtain rfl : q = K := by omega
  obtain rfl : q' = n' := by omega
  have f1 : IntKind.i64.wrap (sumN q fun i => t.vl.getD (i * q + i) 0) = IntKind.i64.wrap (sumN q fun i => mmS x.vl y.vl q' q i i) := sumN_wcongr fun i hi => by rw [M1.tv i i hi hi, ww_idem]
  have f2 : IntKind.i64.wrap (sumN q' fun j => t2.vl.getD (j * q' + j) 0) = IntKind.i64.wrap (sumN q' fun j => mmS y.vl x.vl q q' j j) := sumN_wcongr fun i hi => by rw [M2.tv i i hi hi, ww_idem]
  rw [f1, f2]
  congr 1
  unfold mmS
  rw [sumN_swap]
  exact sumN_congr fun j _ => sumN_congr fun i _ => Int.mul_comm _ _

def gTrueB (bs : List UInt8) : Option Bool := gd (bs.length < 9223372036854775808) true
end Go.Proofs.Ytfjhhbpipococaa
