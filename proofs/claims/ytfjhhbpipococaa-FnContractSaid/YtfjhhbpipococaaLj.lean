/- Contracts of functions that the laws of this seat call. -/
import Derived.Test.YtfjhhbpipococaaLg
set_option linter.all false
namespace Go.Proofs.Ytfjhhbpipococaa
open Go Go.Ev Go.RowKit Go.Ev.Enc Go.Pl

theorem rev_drop2 {l : List Int} {m : Nat} (h : m < l.length) : (l.drop (m + 1)).reverse ++ [l.getD m 0] = (l.drop m).reverse := by
  rw [List.drop_eq_getElem_cons h, List.reverse_cons]
  simp [h]
def gBack (l : List Int) : Option (List Int) := gd (l.length ≤ 1048576) l.reverse
theorem gBack_eq {l : List Int} (h : l.length ≤ 1048576) : gBack l = some l.reverse := gd_eq h
set_option maxHeartbeats 2000000 in
set_option maxRecDepth 100000 in
theorem spec_back {Sg : FuncId → Option (List AV → Option AV)} (hS : Sound Try.prog Sg) : ∀ a r, F1 gBack a = some r → CSpec Try.prog 34 a r := by
  refine spec1 Try.func34 rfl Try.pf hS ?_
  intro l r hr
  obtain ⟨h1, rfl⟩ := gd_some hr
  repeat' (first | with_reducible refine RegQ.intro (by kernel_rfl) ?_ | with_reducible refine DrawQ.nat (by kernel_rfl) ?_ | ((with_reducible refine condQ_dec (fun hp => ?_) (fun hp => ?_)) <;> try simp only [hp]) | with_reducible refine condQ_beq (fun hp => ?_) (fun hp => ?_) | ((with_reducible refine wantQ_dec (fun hp => ?_) (fun hp => ?_)) <;> try simp only [hp]) | with_reducible refine wantQ_beq (fun hp => ?_) (fun hp => ?_) | ((with_reducible refine condQ_split (fun hp => ?_) (fun hp => ?_)) <;> try simp only [hp]) | ((with_reducible refine wantQ_split (fun hp => ?_) (fun hp => ?_)) <;> try simp only [hp]) | simp -implicitDefEqProofs (disch := omega) only [go_sem, Nat.reduceAdd, Nat.reduceSub, reduceCtorEq, Nat.reduceLT, Nat.reduceLeDiff, Nat.reduceEqDiff, Nat.reduceMul, Int.reduceToNat, ↓reduceIte, List.take_of_length_le, evApp_n1, evApp_i0, evApp_i1, evApp_i2, evApp_i3, evApp_i4, evApp_i5, evApp_s0, evApp_s1, evApp_s2, evApp_s3, if_pos, if_neg, decide_eq_true, decide_eq_false, beq_t, beq_f, wrap_succ, wrap_in, getD_ints, getD_intss, getD_tsrs, fillA_len, fillA_at, fillA_full, evApp_z0, evApp_z1, evApp_z2, evApp_z3, evApp_i6, List.getElem?_set_self, List.set_set, Try.ntmps34, Try.results34])
  refine LoopQ.mix (fun t0 L0 nn ss => ∃ (m : Nat) (k : Nat) (q : List Int) (_ : Unit), (∃ x : Nat → AV, ss = ⟨mixL 0 (.k :: .k :: .k :: .v (.sl 0 k 0 k k) :: .v (i64 ((m : Nat) - 1)) :: .k :: .k :: .k :: .k :: .s :: .s :: .s :: .s :: .s :: .s :: .s :: .s :: .s :: .s :: .s :: .k :: []) t0 x, [⟨1, q.map fun n => .int .i64 n⟩]⟩) ∧ (m + k = l.length) ∧ (q.length = k) ∧ (q = (l.drop m).reverse) ∧ nn = m + 1) ?_ ?_
  · exact ⟨_, ⟨l.length, 0, [], (), mixI rfl, Nat.add_zero _, rfl, by rw [List.drop_of_length_le (Nat.le_refl _)]; rfl, rfl⟩⟩
  · rintro I0 hI0 n s ⟨m, k, q, _, ⟨x, rfl⟩, g1, g2, g3, rfl⟩
    match m, g1, g3 with
    | 0, g1, g3 =>
      repeat' (first | with_reducible refine RegQ.intro (by kernel_rfl) ?_ | with_reducible refine DrawQ.nat (by kernel_rfl) ?_ | ((with_reducible refine condQ_dec (fun hp => ?_) (fun hp => ?_)) <;> try simp only [hp]) | with_reducible refine condQ_beq (fun hp => ?_) (fun hp => ?_) | ((with_reducible refine wantQ_dec (fun hp => ?_) (fun hp => ?_)) <;> try simp only [hp]) | with_reducible refine wantQ_beq (fun hp => ?_) (fun hp => ?_) | ((with_reducible refine condQ_split (fun hp => ?_) (fun hp => ?_)) <;> try simp only [hp]) | ((with_reducible refine wantQ_split (fun hp => ?_) (fun hp => ?_)) <;> try simp only [hp]) | simp -implicitDefEqProofs (disch := omega) only [go_sem, Nat.reduceAdd, Nat.reduceSub, reduceCtorEq, Nat.reduceLT, Nat.reduceLeDiff, Nat.reduceEqDiff, Nat.reduceMul, Int.reduceToNat, ↓reduceIte, List.take_of_length_le, evApp_n1, evApp_i0, evApp_i1, evApp_i2, evApp_i3, evApp_i4, evApp_i5, evApp_s0, evApp_s1, evApp_s2, evApp_s3, if_pos, if_neg, decide_eq_true, decide_eq_false, beq_t, beq_f, wrap_succ, wrap_in, getD_ints, getD_intss, getD_tsrs, fillA_len, fillA_at, fillA_full, evApp_z0, evApp_z1, evApp_z2, evApp_z3, evApp_i6, List.getElem?_set_self, List.set_set, Try.ntmps34, Try.results34])
      rw [g3]; rfl
    | m + 1, g1, g3 =>
      have hml : m < l.length := by omega
      have e1 : (((m + 1 : Nat) : Int) - 1) = (m : Int) := by omega
      have hr1 := rev_drop2 hml
      rw [← g3] at hr1
      have hmi : (m : Int) < (l.length : Int) := by omega
      rw [e1]
      repeat' (first | with_reducible refine RegQ.intro (by kernel_rfl) ?_ | with_reducible refine DrawQ.nat (by kernel_rfl) ?_ | ((with_reducible refine condQ_dec (fun hp => ?_) (fun hp => ?_)) <;> try simp only [hp]) | with_reducible refine condQ_beq (fun hp => ?_) (fun hp => ?_) | ((with_reducible refine wantQ_dec (fun hp => ?_) (fun hp => ?_)) <;> try simp only [hp]) | with_reducible refine wantQ_beq (fun hp => ?_) (fun hp => ?_) | ((with_reducible refine condQ_split (fun hp => ?_) (fun hp => ?_)) <;> try simp only [hp]) | ((with_reducible refine wantQ_split (fun hp => ?_) (fun hp => ?_)) <;> try simp only [hp]) | simp -implicitDefEqProofs (disch := omega) only [go_sem, Nat.reduceAdd, Nat.reduceSub, reduceCtorEq, Nat.reduceLT, Nat.reduceLeDiff, Nat.reduceEqDiff, Nat.reduceMul, Int.reduceToNat, ↓reduceIte, List.take_of_length_le, evApp_n1, evApp_i0, evApp_i1, evApp_i2, evApp_i3, evApp_i4, evApp_i5, evApp_s0, evApp_s1, evApp_s2, evApp_s3, if_pos, if_neg, decide_eq_true, decide_eq_false, beq_t, beq_f, wrap_succ, wrap_in, getD_ints, getD_intss, getD_tsrs, fillA_len, fillA_at, fillA_full, evApp_z0, evApp_z1, evApp_z2, evApp_z3, evApp_i6, List.getElem?_set_self, List.set_set, Try.ntmps34, Try.results34, hmi])
      exact ⟨m + 1, by omega, hI0 _ _ ⟨m, k + 1, q ++ [l.getD m 0], (), mixI rfl, by omega, by simp [g2], hr1, rfl⟩⟩
set_option maxHeartbeats 2000000 in
set_option maxRecDepth 100000 in
theorem spec_takes {Sg : FuncId → Option (List AV → Option AV)} (hS : Sound Try.prog Sg) : ∀ a r, F2 gTakenOf a = some r → CSpec Try.prog 36 a r := by
  refine spec2 Try.func36 rfl Try.pf hS ?_
  intro e l r hr
  obtain ⟨⟨h1, h2⟩, rfl⟩ := gd_some hr
  repeat' (first | with_reducible refine RegQ.intro (by kernel_rfl) ?_ | with_reducible refine DrawQ.nat (by kernel_rfl) ?_ | ((with_reducible refine condQ_dec (fun hp => ?_) (fun hp => ?_)) <;> try simp only [hp]) | with_reducible refine condQ_beq (fun hp => ?_) (fun hp => ?_) | ((with_reducible refine wantQ_dec (fun hp => ?_) (fun hp => ?_)) <;> try simp only [hp]) | with_reducible refine wantQ_beq (fun hp => ?_) (fun hp => ?_) | ((with_reducible refine condQ_split (fun hp => ?_) (fun hp => ?_)) <;> try simp only [hp]) | ((with_reducible refine wantQ_split (fun hp => ?_) (fun hp => ?_)) <;> try simp only [hp]) | simp -implicitDefEqProofs (disch := omega) only [go_sem, Nat.reduceAdd, Nat.reduceSub, reduceCtorEq, Nat.reduceLT, Nat.reduceLeDiff, Nat.reduceEqDiff, Nat.reduceMul, Int.reduceToNat, ↓reduceIte, List.take_of_length_le, evApp_n1, evApp_i0, evApp_i1, evApp_i2, evApp_i3, evApp_i4, evApp_i5, evApp_s0, evApp_s1, evApp_s2, evApp_s3, if_pos, if_neg, decide_eq_true, decide_eq_false, beq_t, beq_f, wrap_succ, wrap_in, getD_ints, getD_intss, getD_tsrs, fillA_len, fillA_at, fillA_full, evApp_z0, evApp_z1, evApp_z2, evApp_z3, evApp_i6, List.getElem?_set_self, List.set_set, Try.ntmps36, Try.results36])
  refine LoopQ.mix (fun t0 L0 nn ss => ∃ (k : Nat) (q : List Int) (_ : Unit), (∃ x : Nat → AV, ss = ⟨mixL 0 (.k :: .k :: .k :: .k :: .k :: .v (.sl 0 k 0 k k) :: .v (i64 (k : Nat)) :: .k :: .s :: .s :: .s :: .s :: .s :: .s :: .s :: .s :: .s :: .s :: .s :: .s :: .s :: .s :: .s :: .s :: .k :: []) t0 x, [⟨1, q.map fun n => .int .i64 n⟩]⟩) ∧ (k ≤ l.length) ∧ (q.length = k) ∧ (q = tkn e (l.take k)) ∧ nn = l.length - k) ?_ ?_
  · exact ⟨_, ⟨0, [], (), mixI rfl, Nat.zero_le _, rfl, rfl, rfl⟩⟩
  · rintro I0 hI0 n s ⟨k, q, _, ⟨x, rfl⟩, g1, g2, g3, rfl⟩
    by_cases hlt : k < l.length
    · obtain ⟨i1, i2⟩ := h2 k hlt
      repeat' (first | with_reducible refine RegQ.intro (by kernel_rfl) ?_ | with_reducible refine DrawQ.nat (by kernel_rfl) ?_ | ((with_reducible refine condQ_dec (fun hp => ?_) (fun hp => ?_)) <;> try simp only [hp]) | with_reducible refine condQ_beq (fun hp => ?_) (fun hp => ?_) | ((with_reducible refine wantQ_dec (fun hp => ?_) (fun hp => ?_)) <;> try simp only [hp]) | with_reducible refine wantQ_beq (fun hp => ?_) (fun hp => ?_) | ((with_reducible refine condQ_split (fun hp => ?_) (fun hp => ?_)) <;> try simp only [hp]) | ((with_reducible refine wantQ_split (fun hp => ?_) (fun hp => ?_)) <;> try simp only [hp]) | simp -implicitDefEqProofs (disch := omega) only [go_sem, Nat.reduceAdd, Nat.reduceSub, reduceCtorEq, Nat.reduceLT, Nat.reduceLeDiff, Nat.reduceEqDiff, Nat.reduceMul, Int.reduceToNat, ↓reduceIte, List.take_of_length_le, evApp_n1, evApp_i0, evApp_i1, evApp_i2, evApp_i3, evApp_i4, evApp_i5, evApp_s0, evApp_s1, evApp_s2, evApp_s3, if_pos, if_neg, decide_eq_true, decide_eq_false, beq_t, beq_f, wrap_succ, wrap_in, getD_ints, getD_intss, getD_tsrs, fillA_len, fillA_at, fillA_full, evApp_z0, evApp_z1, evApp_z2, evApp_z3, evApp_i6, List.getElem?_set_self, List.set_set, Try.ntmps36, Try.results36])
      exact ⟨l.length - (k + 1), by omega, hI0 _ _ ⟨k + 1, _, (), mixI rfl, hlt, by simp [g2], by rw [g3, tkn_take hlt], rfl⟩⟩
    · obtain rfl : k = l.length := by omega
      repeat' (first | with_reducible refine RegQ.intro (by kernel_rfl) ?_ | with_reducible refine DrawQ.nat (by kernel_rfl) ?_ | ((with_reducible refine condQ_dec (fun hp => ?_) (fun hp => ?_)) <;> try simp only [hp]) | with_reducible refine condQ_beq (fun hp => ?_) (fun hp => ?_) | ((with_reducible refine wantQ_dec (fun hp => ?_) (fun hp => ?_)) <;> try simp only [hp]) | with_reducible refine wantQ_beq (fun hp => ?_) (fun hp => ?_) | ((with_reducible refine condQ_split (fun hp => ?_) (fun hp => ?_)) <;> try simp only [hp]) | ((with_reducible refine wantQ_split (fun hp => ?_) (fun hp => ?_)) <;> try simp only [hp]) | simp -implicitDefEqProofs (disch := omega) only [go_sem, Nat.reduceAdd, Nat.reduceSub, reduceCtorEq, Nat.reduceLT, Nat.reduceLeDiff, Nat.reduceEqDiff, Nat.reduceMul, Int.reduceToNat, ↓reduceIte, List.take_of_length_le, evApp_n1, evApp_i0, evApp_i1, evApp_i2, evApp_i3, evApp_i4, evApp_i5, evApp_s0, evApp_s1, evApp_s2, evApp_s3, if_pos, if_neg, decide_eq_true, decide_eq_false, beq_t, beq_f, wrap_succ, wrap_in, getD_ints, getD_intss, getD_tsrs, fillA_len, fillA_at, fillA_full, evApp_z0, evApp_z1, evApp_z2, evApp_z3, evApp_i6, List.getElem?_set_self, List.set_set, Try.ntmps36, Try.results36])
      rw [g3, List.take_length]
def upF (n : Nat) : List Int := (List.range n).map fun i : Nat => (i : Int)
theorem upF_len (n : Nat) : (upF n).length = n := by simp [upF]
theorem upF_snoc (n : Nat) : upF n ++ [(n : Int)] = upF (n + 1) := by simp [upF, List.range_succ]
theorem upF_at {n i : Nat} (h : i < n) : (upF n).getD i 0 = (i : Int) := by simp [upF, h]
def gUpTo (n : Int) : Option (List Int) := gd (0 ≤ n ∧ n ≤ 1048576) (upF n.toNat)
theorem gUpTo_eq {n : Nat} (h : n ≤ 1048576) : gUpTo (n : Int) = some (upF n) := gd_eq ⟨by omega, by omega⟩
set_option maxHeartbeats 2000000 in
set_option maxRecDepth 100000 in
theorem spec_upTo {Sg : FuncId → Option (List AV → Option AV)} (hS : Sound Try.prog Sg) : ∀ a r, F1 gUpTo a = some r → CSpec Try.prog 38 a r := by
  refine spec1 Try.func38 rfl Try.pf hS ?_
  intro n r hr
  obtain ⟨⟨h1, h2⟩, rfl⟩ := gd_some hr
  obtain ⟨N, rfl⟩ : ∃ N : Nat, n = N := ⟨n.toNat, by omega⟩
  rw [Int.toNat_natCast]
  repeat' (first | with_reducible refine RegQ.intro (by kernel_rfl) ?_ | with_reducible refine DrawQ.nat (by kernel_rfl) ?_ | ((with_reducible refine condQ_dec (fun hp => ?_) (fun hp => ?_)) <;> try simp only [hp]) | with_reducible refine condQ_beq (fun hp => ?_) (fun hp => ?_) | ((with_reducible refine wantQ_dec (fun hp => ?_) (fun hp => ?_)) <;> try simp only [hp]) | with_reducible refine wantQ_beq (fun hp => ?_) (fun hp => ?_) | ((with_reducible refine condQ_split (fun hp => ?_) (fun hp => ?_)) <;> try simp only [hp]) | ((with_reducible refine wantQ_split (fun hp => ?_) (fun hp => ?_)) <;> try simp only [hp]) | simp -implicitDefEqProofs (disch := omega) only [go_sem, Nat.reduceAdd, Nat.reduceSub, reduceCtorEq, Nat.reduceLT, Nat.reduceLeDiff, Nat.reduceEqDiff, Nat.reduceMul, Int.reduceToNat, ↓reduceIte, List.take_of_length_le, evApp_n1, evApp_i0, evApp_i1, evApp_i2, evApp_i3, evApp_i4, evApp_i5, evApp_s0, evApp_s1, evApp_s2, evApp_s3, if_pos, if_neg, decide_eq_true, decide_eq_false, beq_t, beq_f, wrap_succ, wrap_in, getD_ints, getD_intss, getD_tsrs, fillA_len, fillA_at, fillA_full, evApp_z0, evApp_z1, evApp_z2, evApp_z3, evApp_i6, List.getElem?_set_self, List.set_set, Try.ntmps38, Try.results38])
  refine LoopQ.mix (fun t0 L0 nn ss => ∃ (k : Nat) (q : List Int) (_ : Unit), (∃ x : Nat → AV, ss = ⟨mixL 0 (.k :: .k :: .k :: .v (.sl 0 k 0 k k) :: .v (i64 (k : Nat)) :: .k :: .s :: .s :: .s :: .s :: .s :: .s :: .s :: .s :: .s :: .k :: []) t0 x, [⟨1, q.map fun n => .int .i64 n⟩]⟩) ∧ (k ≤ N) ∧ (q.length = k) ∧ (q = upF k) ∧ nn = N - k) ?_ ?_
  · exact ⟨_, ⟨0, [], (), mixI rfl, Nat.zero_le _, rfl, rfl, rfl⟩⟩
  · rintro I0 hI0 nn s ⟨k, q, _, ⟨x, rfl⟩, g1, g2, g3, rfl⟩
    by_cases hlt : k < N
    · have hki : (k : Int) < (N : Int) := by omega
      repeat' (first | with_reducible refine RegQ.intro (by kernel_rfl) ?_ | with_reducible refine DrawQ.nat (by kernel_rfl) ?_ | ((with_reducible refine condQ_dec (fun hp => ?_) (fun hp => ?_)) <;> try simp only [hp]) | with_reducible refine condQ_beq (fun hp => ?_) (fun hp => ?_) | ((with_reducible refine wantQ_dec (fun hp => ?_) (fun hp => ?_)) <;> try simp only [hp]) | with_reducible refine wantQ_beq (fun hp => ?_) (fun hp => ?_) | ((with_reducible refine condQ_split (fun hp => ?_) (fun hp => ?_)) <;> try simp only [hp]) | ((with_reducible refine wantQ_split (fun hp => ?_) (fun hp => ?_)) <;> try simp only [hp]) | simp -implicitDefEqProofs (disch := omega) only [go_sem, Nat.reduceAdd, Nat.reduceSub, reduceCtorEq, Nat.reduceLT, Nat.reduceLeDiff, Nat.reduceEqDiff, Nat.reduceMul, Int.reduceToNat, ↓reduceIte, List.take_of_length_le, evApp_n1, evApp_i0, evApp_i1, evApp_i2, evApp_i3, evApp_i4, evApp_i5, evApp_s0, evApp_s1, evApp_s2, evApp_s3, if_pos, if_neg, decide_eq_true, decide_eq_false, beq_t, beq_f, wrap_succ, wrap_in, getD_ints, getD_intss, getD_tsrs, fillA_len, fillA_at, fillA_full, evApp_z0, evApp_z1, evApp_z2, evApp_z3, evApp_i6, List.getElem?_set_self, List.set_set, Try.ntmps38, Try.results38, hki])
      exact ⟨N - (k + 1), by omega, hI0 _ _ ⟨k + 1, _, (), mixI rfl, hlt, by simp [g2], by rw [g3, upF_snoc], rfl⟩⟩
    · obtain rfl : k = N := by omega
      repeat' (first | with_reducible refine RegQ.intro (by kernel_rfl) ?_ | with_reducible refine DrawQ.nat (by kernel_rfl) ?_ | ((with_reducible refine condQ_dec (fun hp => ?_) (fun hp => ?_)) <;> try simp only [hp]) | with_reducible refine condQ_beq (fun hp => ?_) (fun hp => ?_) | ((with_reducible refine wantQ_dec (fun hp => ?_) (fun hp => ?_)) <;> try simp only [hp]) | with_reducible refine wantQ_beq (fun hp => ?_) (fun hp => ?_) | ((with_reducible refine condQ_split (fun hp => ?_) (fun hp => ?_)) <;> try simp only [hp]) | ((with_reducible refine wantQ_split (fun hp => ?_) (fun hp => ?_)) <;> try simp only [hp]) | simp -implicitDefEqProofs (disch := omega) only [go_sem, Nat.reduceAdd, Nat.reduceSub, reduceCtorEq, Nat.reduceLT, Nat.reduceLeDiff, Nat.reduceEqDiff, Nat.reduceMul, Int.reduceToNat, ↓reduceIte, List.take_of_length_le, evApp_n1, evApp_i0, evApp_i1, evApp_i2, evApp_i3, evApp_i4, evApp_i5, evApp_s0, evApp_s1, evApp_s2, evApp_s3, if_pos, if_neg, decide_eq_true, decide_eq_false, beq_t, beq_f, wrap_succ, wrap_in, getD_ints, getD_intss, getD_tsrs, fillA_len, fillA_at, fillA_full, evApp_z0, evApp_z1, evApp_z2, evApp_z3, evApp_i6, List.getElem?_set_self, List.set_set, Try.ntmps38, Try.results38])
      rw [g3]
set_option maxHeartbeats 2000000 in
set_option maxRecDepth 100000 in
theorem spec_ExtentsOfI {Sg : FuncId → Option (List AV → Option AV)} (hS : Sound Try.prog Sg) (he : Sg 48 = some (F2 gExtentsOf)) : ∀ a r, F2 gExtentsOf a = some r → CSpec Try.prog 33 a r := by
  refine spec2 Try.func33 rfl Try.pf hS ?_
  intro l b r hr
  obtain ⟨h1, rfl⟩ := gd_some hr
  repeat' (first | with_reducible refine RegQ.intro (by kernel_rfl) ?_ | with_reducible refine DrawQ.nat (by kernel_rfl) ?_ | ((with_reducible refine condQ_dec (fun hp => ?_) (fun hp => ?_)) <;> try simp only [hp]) | with_reducible refine condQ_beq (fun hp => ?_) (fun hp => ?_) | ((with_reducible refine wantQ_dec (fun hp => ?_) (fun hp => ?_)) <;> try simp only [hp]) | with_reducible refine wantQ_beq (fun hp => ?_) (fun hp => ?_) | ((with_reducible refine condQ_split (fun hp => ?_) (fun hp => ?_)) <;> try simp only [hp]) | ((with_reducible refine wantQ_split (fun hp => ?_) (fun hp => ?_)) <;> try simp only [hp]) | simp -implicitDefEqProofs (disch := omega) only [go_sem, Nat.reduceAdd, Nat.reduceSub, reduceCtorEq, Nat.reduceLT, Nat.reduceLeDiff, Nat.reduceEqDiff, Nat.reduceMul, Int.reduceToNat, ↓reduceIte, List.take_of_length_le, evApp_n1, evApp_i0, evApp_i1, evApp_i2, evApp_i3, evApp_i4, evApp_i5, evApp_s0, evApp_s1, evApp_s2, evApp_s3, if_pos, if_neg, decide_eq_true, decide_eq_false, beq_t, beq_f, wrap_succ, wrap_in, getD_ints, getD_intss, getD_tsrs, fillA_len, fillA_at, fillA_full, evApp_z0, evApp_z1, evApp_z2, evApp_z3, evApp_i6, List.getElem?_set_self, List.set_set, Try.ntmps33, Try.results33, he, gExtentsOf_eq h1])
/-! ### a tensor with its dimensions in reverse order -/
def revO (n : Nat) : List Int := (upF n).reverse
theorem revO_len (n : Nat) : (revO n).length = n := by simp [revO, upF_len]
theorem getD_rev {l : List Int} {i : Nat} (h : i < l.length) : l.reverse.getD i 0 = l.getD (l.length - 1 - i) 0 := by
  simp only [List.getD_eq_getElem?_getD]
  rw [List.getElem?_reverse h]
theorem revO_at {n i : Nat} (h : i < n) : (revO n).getD i 0 = ((n - 1 - i : Nat) : Int) := by
  unfold revO
  rw [getD_rev (by rw [upF_len]; exact h), upF_len, upF_at (by omega)]
theorem revO_fresh {n i : Nat} (h : i < n) : ((revO n).take i).contains ((revO n).getD i 0) = false := by
  rw [← Bool.not_eq_true, List.contains_iff_mem, revO_at h]
  intro hm
  obtain ⟨j, hj, hje⟩ := List.mem_iff_getElem.1 hm
  rw [List.length_take] at hj
  have h1 : j < i := by omega
  have h2 : (revO n).getD j 0 = ((n - 1 - i : Nat) : Int) := by
    rw [← hje]; simp [show j < (revO n).length by rw [revO_len]; omega]
  rw [revO_at (by omega)] at h2
  omega
def turnAt (x : Tsr) (k : Nat) : Int := x.vl.getD (rankW x.sh (unrF x.sh.reverse (k : Int)).reverse x.sh.length).toNat 0
def turnQ (x : Tsr) (n : Nat) : List Int := (List.range n).map (turnAt x)
theorem turnQ_len (x : Tsr) (n : Nat) : (turnQ x n).length = n := by simp [turnQ]
theorem turnQ_snoc (x : Tsr) (n : Nat) : turnQ x n ++ [turnAt x n] = turnQ x (n + 1) := by simp [turnQ, List.range_succ]
def turnR (x : Tsr) : Tsr := ⟨x.sh.reverse, turnQ x (prodW x.sh.reverse).toNat⟩
def gTurnR (x : Tsr) (o : List Int) : Option Tsr := gd (tsrOK x = true ∧ o = revO x.sh.length) (turnR x)
theorem gTurnR_eq {x : Tsr} (h : tsrOK x = true) : gTurnR x (revO x.sh.length) = some (turnR x) := gd_eq ⟨h, rfl⟩
theorem prE_app : ∀ s t : List Int, prE (s ++ t) = prE s * prE t
  | [], t => by simp [prE]
  | x :: s, t => by rw [List.cons_append, prE, prE, prE_app s t, Int.mul_assoc]
theorem prE_rev : ∀ s : List Int, prE s.reverse = prE s
  | [] => rfl
  | x :: s => by rw [List.reverse_cons, prE_app, prE_rev s, prE]; simp [prE, Int.mul_comm]
theorem shape_rev {s : List Int} (h : shapeOK s = true) : shapeOK s.reverse = true ∧ prodW s.reverse = prodW s := by
  unfold shapeOK at h ⊢
  simp only [Bool.and_eq_true, decide_eq_true_eq, List.all_eq_true] at h ⊢
  have h1 : inE s := fun x hx => by have := h.1.2 x hx; unfold inExt at this; simpa using this
  have h2 : inE s.reverse := fun x hx => h1 x (by simpa using hx)
  have h3 : prodW s.reverse = prodW s := by rw [prodW_eq h1 (by omega), prodW_eq h2 (by simp; omega), prE_rev]
  exact ⟨⟨⟨by simpa using h.1.1, fun x hx => h.1.2 x (by simpa using hx)⟩, by rw [h3]; exact h.2⟩, h3⟩
/-- blocks while the shape grows -/
def trB (w : Tsr) : Nat → List Int → List Blk
  | 0, _ => [tsX w, ⟨2, [.agg [.nilS, .nilS]]⟩, ⟨2, [.agg [.nilS, .nilS]]⟩]
  | i + 1, q => [tsX w, ⟨2, [.agg [.nilS, .nilS]]⟩, ⟨2, [.agg [.sl 3 (i + 1) 0 (i + 1) (i + 1), .nilS]]⟩, ⟨1, q.map fun n => .int .i64 n⟩]
theorem trB_full (w : Tsr) {n : Nat} (h : 0 < n) (q : List Int) : trB w n q = [tsX w, ⟨2, [.agg [.nilS, .nilS]]⟩, ⟨2, [.agg [.sl 3 n 0 n n, .nilS]]⟩, ⟨1, q.map fun n => .int .i64 n⟩] := by
  match n, h with
  | n + 1, _ => rfl
/-- blocks while the values grow -/
def tqB (w : Tsr) (n : Nat) (jq : List Int) : Nat → List Int → List Blk
  | 0, _ => [tsX w, ⟨2, [.agg [.nilS, .nilS]]⟩, ⟨2, [.agg [.sl 3 n 0 n n, .nilS]]⟩, ⟨1, w.sh.reverse.map fun n => .int .i64 n⟩]
  | k + 1, q => [tsX w, ⟨2, [.agg [.nilS, .nilS]]⟩, ⟨2, [.agg [.sl 3 n 0 n n, .sl 5 (k + 1) 0 (k + 1) (k + 1)]]⟩, ⟨1, w.sh.reverse.map fun n => .int .i64 n⟩, ⟨1, jq.map fun n => .int .i64 n⟩, ⟨1, q.map fun n => .int .i64 n⟩]
/-- blocks while the one value of a tensor without dimensions is taken -/
def tzB (vl : List Int) : Nat → List Blk
  | 0 => [tsX ⟨[], vl⟩, ⟨2, [.agg [.nilS, .nilS]]⟩, ⟨2, [.agg [.nilS, .nilS]]⟩]
  | _ => [tsX ⟨[], vl⟩, ⟨2, [.agg [.nilS, .nilS]]⟩, ⟨2, [.agg [.nilS, .sl 4 1 0 1 1]]⟩, ⟨1, []⟩, ⟨1, [.int .i64 (vl.getD 0 0)]⟩]
theorem expS_own {t : Nat} {L : List Blk} {n : Nat} {q : List Int} (h : q.length = n) (e : Nat) : expS t L n 0 n (some ⟨e, q.map fun n => .int .i64 n⟩) = ints t q := by
  subst h
  simp [expS, ints, expE, stepC, Function.comp_def, List.take_of_length_le]
theorem evApp_at5 {A B C D E : Blk} {n by' : Nat} {q : List Int} {x : Int} (hn : q.length = n) (h1 : (n + 1) * by' ≤ 140737488355328) (h2 : n + 1 ≤ 9223372036854775807) (F : List Blk) :
    evApp (A :: B :: C :: D :: E :: ⟨1, q.map fun n => .int .i64 n⟩ :: F) (.sl 5 n 0 n n) [.int .i64 x] 1 by' = some (.sl 5 (n + 1) 0 (n + 1) (n + 1), A :: B :: C :: D :: E :: ⟨1, (q ++ [x]).map fun n => .int .i64 n⟩ :: F) := evApp_int (L := A :: B :: C :: D :: E :: ⟨1, q.map fun n => .int .i64 n⟩ :: F) (b := 5) rfl hn h1 h2
theorem rev_bd {s i : List Int} (hl : i.length = s.length) (h : ∀ d, d < s.reverse.length → 0 ≤ i.getD d 0 ∧ i.getD d 0 < s.reverse.getD d 0) : ∀ d, d < s.length → 0 ≤ i.reverse.getD d 0 ∧ i.reverse.getD d 0 < s.getD d 0 := fun d hd => by
  have := h (s.length - 1 - d) (by simp; omega)
  rw [getD_rev (l := s) (by omega), show s.length - 1 - (s.length - 1 - d) = d by omega] at this
  rw [getD_rev (by omega), hl]
  exact this
set_option maxHeartbeats 4000000 in
set_option maxRecDepth 100000 in
theorem spec_TurnRev {Sg : FuncId → Option (List AV → Option AV)} (hS : Sound Try.prog Sg) (ht : Sg 62 = some (F1 gIsTensor)) (hc : Sg 63 = some (F2 gContains)) (hn : Sg 64 = some (F1 gCountOf)) (hi : Sg 65 = some (F2 gUnrank)) (hr : Sg 66 = some (F2 gRankOf)) : ∀ a r, F2 gTurnR a = some r → CSpec Try.prog 37 a r := by
  refine F2_spec ?_
  intro w o r hr0
  obtain ⟨⟨h1, rfl⟩, rfl⟩ := gd_some hr0
  refine CSpec.intro Try.func37 rfl (own _) (vc3_sound Try.pf hS hS _ _ _ ?_)
  have hq := tsrOK_dims h1
  have hv := tsr_vl60 h1
  have q1 := gIsTensor_eq (x := w) (by have := hq.1; omega) (by omega)
  rw [h1] at q1
  have hol := revO_len w.sh.length
  have hsok := shape_of h1
  obtain ⟨hsr, hpr⟩ := shape_rev hsok
  have hrl : w.sh.reverse.length = w.sh.length := List.length_reverse
  have hin : inE w.sh := hq.2
  have hinr : inE w.sh.reverse := fun x hx => hin x (by simpa using hx)
  have hwl := (tsr_facts h1).2.2
  have hwp := prodW_eq hin (by omega)
  have q2 := gCountOf_eq (l := w.sh.reverse) (by omega)
  obtain ⟨N, hN⟩ : ∃ N : Nat, prodW w.sh.reverse = N := ⟨(prodW w.sh.reverse).toNat, by rw [hpr, hwp, ← hwl]; omega⟩
  have hNl : N = w.vl.length := by rw [hpr, hwp, ← hwl] at hN; omega
  rw [hN] at q2
  have hturn : turnR w = ⟨w.sh.reverse, turnQ w N⟩ := by unfold turnR; rw [hN, Int.toNat_natCast]
  have hpos : ∀ k : Nat, k < N → ∀ i, i < w.sh.reverse.length → 1 ≤ w.sh.reverse.getD i 0 := fun k hk i hi => by
    have := prE_pos hin (by omega) (w.sh.reverse.getD i 0) (by have := gmem hi; simpa using this)
    exact this
  rw [hturn]
  by_cases hne : w.sh = []
  · obtain ⟨sh, vl⟩ := w
    obtain rfl : sh = [] := hne
    have hN0 : prodW ([] : List Int).reverse = 1 := rfl
    have hN1 : N = 1 := by rw [hN0] at hN; omega
    subst hN1
    have hvl : vl.length = 1 := hNl.symm
    have q1' : gIsTensor ⟨[], vl⟩ = some true := q1
    have q2' : gCountOf [] = some 1 := q2
    have q3 : gUnrank [] 0 = some [] := rfl
    have q4 : gRankOf [] [] = some 0 := rfl
    have hT : turnQ ⟨[], vl⟩ 1 = [vl.getD 0 0] := rfl
    have g1 := getD_ints (show 0 < vl.length by omega)
    have ho : revO ([] : List Int).length = [] := rfl
    rw [ho, hT]
    repeat' (first | with_reducible refine RegQ.intro (by kernel_rfl) ?_ | with_reducible refine DrawQ.nat (by kernel_rfl) ?_ | ((with_reducible refine condQ_dec (fun hp => ?_) (fun hp => ?_)) <;> try simp only [hp]) | with_reducible refine condQ_beq (fun hp => ?_) (fun hp => ?_) | ((with_reducible refine wantQ_dec (fun hp => ?_) (fun hp => ?_)) <;> try simp only [hp]) | with_reducible refine wantQ_beq (fun hp => ?_) (fun hp => ?_) | ((with_reducible refine condQ_split (fun hp => ?_) (fun hp => ?_)) <;> try simp only [hp]) | ((with_reducible refine wantQ_split (fun hp => ?_) (fun hp => ?_)) <;> try simp only [hp]) | simp -implicitDefEqProofs (disch := omega) only [go_sem, Nat.reduceAdd, Nat.reduceSub, reduceCtorEq, Nat.reduceLT, Nat.reduceLeDiff, Nat.reduceEqDiff, Nat.reduceMul, Int.reduceToNat, ↓reduceIte, List.take_of_length_le, evApp_n1, evApp_i0, evApp_i1, evApp_i2, evApp_i3, evApp_i4, evApp_i5, evApp_s0, evApp_s1, evApp_s2, evApp_s3, if_pos, if_neg, decide_eq_true, decide_eq_false, beq_t, beq_f, wrap_succ, wrap_in, getD_ints, getD_intss, getD_tsrs, fillA_len, fillA_at, fillA_full, evApp_z0, evApp_z1, evApp_z2, evApp_z3, evApp_i6, List.getElem?_set_self, List.set_set, evApp_at5, Try.ntmps37, Try.results37, ht, q1', dec_tsr0])
    refine LoopQ.mix (fun t0 L0 nn ss => ∃ (i : Nat) (_ : Unit), (∃ x : Nat → AV, ss = ⟨mixL 0 (.k :: .k :: .k :: .k :: .k :: .k :: .s :: .s :: .k :: .k :: .k :: .k :: .k :: .k :: .k :: .k :: .k :: .k :: .k :: .k :: .k :: .k :: .k :: .k :: .k :: .k :: .k :: .k :: .v (i64 0) :: .s :: .s :: .s :: .s :: .s :: .s :: .s :: .s :: .s :: .s :: .s :: .s :: .s :: .s :: .s :: .s :: .s :: .s :: .s :: .s :: .s :: .s :: .s :: .s :: .s :: .s :: .s :: .s :: .s :: .s :: .s :: .k :: .k :: .k :: .k :: .k :: .k :: .k :: .k :: .k :: .k :: .k :: .k :: .k :: .k :: .k :: .k :: .k :: .k :: .k :: .k :: .k :: .k :: .k :: .k :: .k :: .k :: .k :: .k :: .k :: .k :: .k :: .k :: .k :: .k :: .k :: .k :: .k :: .k :: .k :: .k :: .k :: .k :: .k :: []) t0 x, tzB vl 0⟩) ∧ (True) ∧ nn = 0) ?_ ?_
    · exact ⟨_, ⟨0, (), mixJ rfl (rfl), trivial, rfl⟩⟩
    · rintro I0 hI0 n ss ⟨i, _, ⟨y, rfl⟩, _, rfl⟩
      repeat' (first | with_reducible refine RegQ.intro (by kernel_rfl) ?_ | with_reducible refine DrawQ.nat (by kernel_rfl) ?_ | ((with_reducible refine condQ_dec (fun hp => ?_) (fun hp => ?_)) <;> try simp only [hp]) | with_reducible refine condQ_beq (fun hp => ?_) (fun hp => ?_) | ((with_reducible refine wantQ_dec (fun hp => ?_) (fun hp => ?_)) <;> try simp only [hp]) | with_reducible refine wantQ_beq (fun hp => ?_) (fun hp => ?_) | ((with_reducible refine condQ_split (fun hp => ?_) (fun hp => ?_)) <;> try simp only [hp]) | ((with_reducible refine wantQ_split (fun hp => ?_) (fun hp => ?_)) <;> try simp only [hp]) | simp -implicitDefEqProofs (disch := omega) only [go_sem, Nat.reduceAdd, Nat.reduceSub, reduceCtorEq, Nat.reduceLT, Nat.reduceLeDiff, Nat.reduceEqDiff, Nat.reduceMul, Int.reduceToNat, ↓reduceIte, List.take_of_length_le, evApp_n1, evApp_i0, evApp_i1, evApp_i2, evApp_i3, evApp_i4, evApp_i5, evApp_s0, evApp_s1, evApp_s2, evApp_s3, if_pos, if_neg, decide_eq_true, decide_eq_false, beq_t, beq_f, wrap_succ, wrap_in, getD_ints, getD_intss, getD_tsrs, fillA_len, fillA_at, fillA_full, evApp_z0, evApp_z1, evApp_z2, evApp_z3, evApp_i6, List.getElem?_set_self, List.set_set, evApp_at5, Try.ntmps37, Try.results37, hn, q2', dec_nilI, tzB])
      refine LoopQ.mix (fun t0 L0 nn ss => ∃ (k : Nat) (_ : Unit), (∃ x : Nat → AV, ss = ⟨mixL 0 (.k :: .k :: .k :: .k :: .k :: .k :: .k :: .k :: .s :: .s :: .s :: .s :: .s :: .k :: .k :: .k :: .k :: .k :: .k :: .k :: .k :: .k :: .k :: .k :: .k :: .k :: .k :: .k :: .k :: .k :: .k :: .k :: .k :: .k :: .k :: .k :: .k :: .k :: .k :: .k :: .k :: .k :: .k :: .k :: .k :: .k :: .k :: .k :: .k :: .k :: .k :: .k :: .k :: .k :: .k :: .k :: .k :: .k :: .k :: .k :: .k :: .k :: .k :: .v (i64 (k : Nat)) :: .s :: .s :: .s :: .s :: .s :: .s :: .s :: .s :: .s :: .s :: .s :: .s :: .s :: .s :: .s :: .s :: .s :: .s :: .s :: .s :: .s :: .s :: .s :: .s :: .s :: .s :: .s :: .s :: .s :: .s :: .s :: .s :: .s :: .s :: .s :: .s :: .s :: .s :: .k :: []) t0 x, tzB vl k⟩) ∧ (k ≤ 1) ∧ nn = 1 - k) ?_ ?_
      · exact ⟨_, ⟨0, (), mixJ rfl (rfl), Nat.zero_le _, rfl⟩⟩
      · rintro I1 hI1 n ss ⟨k, _, ⟨y, rfl⟩, m1, rfl⟩
        match k, m1 with
        | 0, _ =>
          unfold tzB
          have q3' : gUnrank [] ((0 : Nat) : Int) = some [] := q3
          repeat' (first | with_reducible refine RegQ.intro (by kernel_rfl) ?_ | with_reducible refine DrawQ.nat (by kernel_rfl) ?_ | ((with_reducible refine condQ_dec (fun hp => ?_) (fun hp => ?_)) <;> try simp only [hp]) | with_reducible refine condQ_beq (fun hp => ?_) (fun hp => ?_) | ((with_reducible refine wantQ_dec (fun hp => ?_) (fun hp => ?_)) <;> try simp only [hp]) | with_reducible refine wantQ_beq (fun hp => ?_) (fun hp => ?_) | ((with_reducible refine condQ_split (fun hp => ?_) (fun hp => ?_)) <;> try simp only [hp]) | ((with_reducible refine wantQ_split (fun hp => ?_) (fun hp => ?_)) <;> try simp only [hp]) | simp -implicitDefEqProofs (disch := omega) only [go_sem, Nat.reduceAdd, Nat.reduceSub, reduceCtorEq, Nat.reduceLT, Nat.reduceLeDiff, Nat.reduceEqDiff, Nat.reduceMul, Int.reduceToNat, ↓reduceIte, List.take_of_length_le, evApp_n1, evApp_i0, evApp_i1, evApp_i2, evApp_i3, evApp_i4, evApp_i5, evApp_s0, evApp_s1, evApp_s2, evApp_s3, if_pos, if_neg, decide_eq_true, decide_eq_false, beq_t, beq_f, wrap_succ, wrap_in, getD_ints, getD_intss, getD_tsrs, fillA_len, fillA_at, fillA_full, evApp_z0, evApp_z1, evApp_z2, evApp_z3, evApp_i6, List.getElem?_set_self, List.set_set, evApp_at5, Try.ntmps37, Try.results37, hi, q3', dec_nilI])
          refine LoopQ.mix (fun t0 L0 nn ss => ∃ (i : Nat) (_ : Unit), (∃ x : Nat → AV, ss = ⟨mixL 0 (.k :: .k :: .k :: .k :: .k :: .k :: .k :: .k :: .k :: .k :: .k :: .s :: .s :: .k :: .k :: .k :: .k :: .k :: .k :: .k :: .k :: .k :: .k :: .k :: .k :: .k :: .k :: .k :: .k :: .k :: .k :: .k :: .k :: .k :: .k :: .k :: .k :: .k :: .k :: .k :: .k :: .k :: .k :: .k :: .k :: .k :: .k :: .k :: .k :: .k :: .k :: .k :: .k :: .k :: .k :: .k :: .k :: .k :: .k :: .k :: .k :: .k :: .k :: .k :: .k :: .k :: .k :: .k :: .k :: .k :: .k :: .k :: .k :: .k :: .k :: .v (i64 0) :: .s :: .s :: .s :: .s :: .s :: .s :: .s :: .s :: .s :: .s :: .s :: .s :: .k :: .k :: .k :: .k :: .k :: .k :: .k :: .k :: .k :: .k :: .k :: .k :: .k :: .k :: .k :: []) t0 x, L0⟩) ∧ (True) ∧ nn = 0) ?_ ?_
          · exact ⟨_, ⟨0, (), mixI rfl, trivial, rfl⟩⟩
          · rintro I2 hI2 n ss ⟨i, _, ⟨y2, rfl⟩, _, rfl⟩
            repeat' (first | with_reducible refine RegQ.intro (by kernel_rfl) ?_ | with_reducible refine DrawQ.nat (by kernel_rfl) ?_ | ((with_reducible refine condQ_dec (fun hp => ?_) (fun hp => ?_)) <;> try simp only [hp]) | with_reducible refine condQ_beq (fun hp => ?_) (fun hp => ?_) | ((with_reducible refine wantQ_dec (fun hp => ?_) (fun hp => ?_)) <;> try simp only [hp]) | with_reducible refine wantQ_beq (fun hp => ?_) (fun hp => ?_) | ((with_reducible refine condQ_split (fun hp => ?_) (fun hp => ?_)) <;> try simp only [hp]) | ((with_reducible refine wantQ_split (fun hp => ?_) (fun hp => ?_)) <;> try simp only [hp]) | simp -implicitDefEqProofs (disch := omega) only [go_sem, Nat.reduceAdd, Nat.reduceSub, reduceCtorEq, Nat.reduceLT, Nat.reduceLeDiff, Nat.reduceEqDiff, Nat.reduceMul, Int.reduceToNat, ↓reduceIte, List.take_of_length_le, evApp_n1, evApp_i0, evApp_i1, evApp_i2, evApp_i3, evApp_i4, evApp_i5, evApp_s0, evApp_s1, evApp_s2, evApp_s3, if_pos, if_neg, decide_eq_true, decide_eq_false, beq_t, beq_f, wrap_succ, wrap_in, getD_ints, getD_intss, getD_tsrs, fillA_len, fillA_at, fillA_full, evApp_z0, evApp_z1, evApp_z2, evApp_z3, evApp_i6, List.getElem?_set_self, List.set_set, evApp_at5, Try.ntmps37, Try.results37, hr, q4, dec_nilI, es_nil0, g1])
            exact ⟨0, by omega, hI1 _ _ ⟨1, (), mixJ rfl rfl, by omega, rfl⟩⟩
        | 1, _ =>
          unfold tzB
          repeat' (first | with_reducible refine RegQ.intro (by kernel_rfl) ?_ | with_reducible refine DrawQ.nat (by kernel_rfl) ?_ | ((with_reducible refine condQ_dec (fun hp => ?_) (fun hp => ?_)) <;> try simp only [hp]) | with_reducible refine condQ_beq (fun hp => ?_) (fun hp => ?_) | ((with_reducible refine wantQ_dec (fun hp => ?_) (fun hp => ?_)) <;> try simp only [hp]) | with_reducible refine wantQ_beq (fun hp => ?_) (fun hp => ?_) | ((with_reducible refine condQ_split (fun hp => ?_) (fun hp => ?_)) <;> try simp only [hp]) | ((with_reducible refine wantQ_split (fun hp => ?_) (fun hp => ?_)) <;> try simp only [hp]) | simp -implicitDefEqProofs (disch := omega) only [go_sem, Nat.reduceAdd, Nat.reduceSub, reduceCtorEq, Nat.reduceLT, Nat.reduceLeDiff, Nat.reduceEqDiff, Nat.reduceMul, Int.reduceToNat, ↓reduceIte, List.take_of_length_le, evApp_n1, evApp_i0, evApp_i1, evApp_i2, evApp_i3, evApp_i4, evApp_i5, evApp_s0, evApp_s1, evApp_s2, evApp_s3, if_pos, if_neg, decide_eq_true, decide_eq_false, beq_t, beq_f, wrap_succ, wrap_in, getD_ints, getD_intss, getD_tsrs, fillA_len, fillA_at, fillA_full, evApp_z0, evApp_z1, evApp_z2, evApp_z3, evApp_i6, List.getElem?_set_self, List.set_set, evApp_at5, Try.ntmps37, Try.results37])
          rfl
  · have hn0 : 0 < w.sh.length := List.length_pos_iff.2 hne
    repeat' (first | with_reducible refine RegQ.intro (by kernel_rfl) ?_ | with_reducible refine DrawQ.nat (by kernel_rfl) ?_ | ((with_reducible refine condQ_dec (fun hp => ?_) (fun hp => ?_)) <;> try simp only [hp]) | with_reducible refine condQ_beq (fun hp => ?_) (fun hp => ?_) | ((with_reducible refine wantQ_dec (fun hp => ?_) (fun hp => ?_)) <;> try simp only [hp]) | with_reducible refine wantQ_beq (fun hp => ?_) (fun hp => ?_) | ((with_reducible refine condQ_split (fun hp => ?_) (fun hp => ?_)) <;> try simp only [hp]) | ((with_reducible refine wantQ_split (fun hp => ?_) (fun hp => ?_)) <;> try simp only [hp]) | simp -implicitDefEqProofs (disch := omega) only [go_sem, Nat.reduceAdd, Nat.reduceSub, reduceCtorEq, Nat.reduceLT, Nat.reduceLeDiff, Nat.reduceEqDiff, Nat.reduceMul, Int.reduceToNat, ↓reduceIte, List.take_of_length_le, evApp_n1, evApp_i0, evApp_i1, evApp_i2, evApp_i3, evApp_i4, evApp_i5, evApp_s0, evApp_s1, evApp_s2, evApp_s3, if_pos, if_neg, decide_eq_true, decide_eq_false, beq_t, beq_f, wrap_succ, wrap_in, getD_ints, getD_intss, getD_tsrs, fillA_len, fillA_at, fillA_full, evApp_z0, evApp_z1, evApp_z2, evApp_z3, evApp_i6, List.getElem?_set_self, List.set_set, evApp_at5, Try.ntmps37, Try.results37, ht, q1, hol])
    refine LoopQ.mix (fun t0 L0 nn ss => ∃ (i : Nat) (_ : Unit), (∃ x : Nat → AV, ss = ⟨mixL 0 (.k :: .k :: .k :: .k :: .k :: .k :: .s :: .s :: .k :: .k :: .k :: .k :: .k :: .k :: .k :: .k :: .k :: .k :: .k :: .k :: .k :: .k :: .k :: .k :: .k :: .k :: .k :: .k :: .v (i64 (i : Nat)) :: .s :: .s :: .s :: .s :: .s :: .s :: .s :: .s :: .s :: .s :: .s :: .s :: .s :: .s :: .s :: .s :: .s :: .s :: .s :: .s :: .s :: .s :: .s :: .s :: .s :: .s :: .s :: .s :: .s :: .s :: .s :: .k :: .k :: .k :: .k :: .k :: .k :: .k :: .k :: .k :: .k :: .k :: .k :: .k :: .k :: .k :: .k :: .k :: .k :: .k :: .k :: .k :: .k :: .k :: .k :: .k :: .k :: .k :: .k :: .k :: .k :: .k :: .k :: .k :: .k :: .k :: .k :: .k :: .k :: .k :: .k :: .k :: .k :: .k :: []) t0 x, trB w i (w.sh.reverse.take i)⟩) ∧ (i ≤ w.sh.length) ∧ nn = w.sh.length - i) ?_ ?_
    · exact ⟨_, ⟨0, (), mixJ rfl (rfl), Nat.zero_le _, rfl⟩⟩
    · rintro I0 hI0 n ss ⟨i, _, ⟨y, rfl⟩, m1, rfl⟩
      by_cases hi' : i < w.sh.length
      · have v1 := revO_at hi'
        have v2 := revO_fresh hi'
        have v3 : (w.sh.length - 1 - i : Nat) < w.sh.length := by omega
        have v4 : w.sh.getD (w.sh.length - 1 - i) 0 = w.sh.reverse.getD i 0 := (getD_rev hi').symm
        have v5 := take_succ_getD (l := w.sh.reverse) (k := i) (by omega)
        rw [v1] at v2
        have v6 := gContains_eq (l := (revO w.sh.length).take i) (by rw [List.length_take]; omega) ((w.sh.length - 1 - i : Nat) : Int)
        rw [v2] at v6
        have v7 : (w.sh.reverse.take i).length = i := by rw [List.length_take]; omega
        have v8 : ((w.sh.length - 1 - i : Nat) : Int) < (w.sh.length : Int) := by omega
        have v9 : ¬ ((w.sh.length - 1 - i : Nat) : Int) < 0 := by omega
        generalize w.sh.length - 1 - i = d at *
        match i, v7, hi', v5, v6, v1 with
        | 0, v7, hi', v5, v6, v1 =>
          have v6 : gContains [] (d : Int) = some false := v6
          unfold trB
          repeat' (first | with_reducible refine RegQ.intro (by kernel_rfl) ?_ | with_reducible refine DrawQ.nat (by kernel_rfl) ?_ | ((with_reducible refine condQ_dec (fun hp => ?_) (fun hp => ?_)) <;> try simp only [hp]) | with_reducible refine condQ_beq (fun hp => ?_) (fun hp => ?_) | ((with_reducible refine wantQ_dec (fun hp => ?_) (fun hp => ?_)) <;> try simp only [hp]) | with_reducible refine wantQ_beq (fun hp => ?_) (fun hp => ?_) | ((with_reducible refine condQ_split (fun hp => ?_) (fun hp => ?_)) <;> try simp only [hp]) | ((with_reducible refine wantQ_split (fun hp => ?_) (fun hp => ?_)) <;> try simp only [hp]) | simp -implicitDefEqProofs (disch := omega) only [go_sem, Nat.reduceAdd, Nat.reduceSub, reduceCtorEq, Nat.reduceLT, Nat.reduceLeDiff, Nat.reduceEqDiff, Nat.reduceMul, Int.reduceToNat, ↓reduceIte, List.take_of_length_le, evApp_n1, evApp_i0, evApp_i1, evApp_i2, evApp_i3, evApp_i4, evApp_i5, evApp_s0, evApp_s1, evApp_s2, evApp_s3, if_pos, if_neg, decide_eq_true, decide_eq_false, beq_t, beq_f, wrap_succ, wrap_in, getD_ints, getD_intss, getD_tsrs, fillA_len, fillA_at, fillA_full, evApp_z0, evApp_z1, evApp_z2, evApp_z3, evApp_i6, List.getElem?_set_self, List.set_set, evApp_at5, Try.ntmps37, Try.results37, hc, dec_nilI, v1, v6, v8, v9, v4, hol])
          exact ⟨w.sh.length - 1, by omega, hI0 _ _ ⟨1, (), mixJ rfl (by rw [v5]; rfl), hi', rfl⟩⟩
        | i + 1, v7, hi', v5, v6, v1 =>
          unfold trB
          repeat' (first | with_reducible refine RegQ.intro (by kernel_rfl) ?_ | with_reducible refine DrawQ.nat (by kernel_rfl) ?_ | ((with_reducible refine condQ_dec (fun hp => ?_) (fun hp => ?_)) <;> try simp only [hp]) | with_reducible refine condQ_beq (fun hp => ?_) (fun hp => ?_) | ((with_reducible refine wantQ_dec (fun hp => ?_) (fun hp => ?_)) <;> try simp only [hp]) | with_reducible refine wantQ_beq (fun hp => ?_) (fun hp => ?_) | ((with_reducible refine condQ_split (fun hp => ?_) (fun hp => ?_)) <;> try simp only [hp]) | ((with_reducible refine wantQ_split (fun hp => ?_) (fun hp => ?_)) <;> try simp only [hp]) | simp -implicitDefEqProofs (disch := omega) only [go_sem, Nat.reduceAdd, Nat.reduceSub, reduceCtorEq, Nat.reduceLT, Nat.reduceLeDiff, Nat.reduceEqDiff, Nat.reduceMul, Int.reduceToNat, ↓reduceIte, List.take_of_length_le, evApp_n1, evApp_i0, evApp_i1, evApp_i2, evApp_i3, evApp_i4, evApp_i5, evApp_s0, evApp_s1, evApp_s2, evApp_s3, if_pos, if_neg, decide_eq_true, decide_eq_false, beq_t, beq_f, wrap_succ, wrap_in, getD_ints, getD_intss, getD_tsrs, fillA_len, fillA_at, fillA_full, evApp_z0, evApp_z1, evApp_z2, evApp_z3, evApp_i6, List.getElem?_set_self, List.set_set, evApp_at5, Try.ntmps37, Try.results37, hc, v1, v6, v8, v9, v4, hol])
          exact ⟨w.sh.length - (i + 1 + 1), by omega, hI0 _ _ ⟨i + 1 + 1, (), mixJ rfl (by rw [v5]; rfl), hi', rfl⟩⟩
      · obtain rfl : i = w.sh.length := by omega
        rw [trB_full w hn0, List.take_of_length_le (by omega)]
        repeat' (first | with_reducible refine RegQ.intro (by kernel_rfl) ?_ | with_reducible refine DrawQ.nat (by kernel_rfl) ?_ | ((with_reducible refine condQ_dec (fun hp => ?_) (fun hp => ?_)) <;> try simp only [hp]) | with_reducible refine condQ_beq (fun hp => ?_) (fun hp => ?_) | ((with_reducible refine wantQ_dec (fun hp => ?_) (fun hp => ?_)) <;> try simp only [hp]) | with_reducible refine wantQ_beq (fun hp => ?_) (fun hp => ?_) | ((with_reducible refine condQ_split (fun hp => ?_) (fun hp => ?_)) <;> try simp only [hp]) | ((with_reducible refine wantQ_split (fun hp => ?_) (fun hp => ?_)) <;> try simp only [hp]) | simp -implicitDefEqProofs (disch := omega) only [go_sem, Nat.reduceAdd, Nat.reduceSub, reduceCtorEq, Nat.reduceLT, Nat.reduceLeDiff, Nat.reduceEqDiff, Nat.reduceMul, Int.reduceToNat, ↓reduceIte, List.take_of_length_le, evApp_n1, evApp_i0, evApp_i1, evApp_i2, evApp_i3, evApp_i4, evApp_i5, evApp_s0, evApp_s1, evApp_s2, evApp_s3, if_pos, if_neg, decide_eq_true, decide_eq_false, beq_t, beq_f, wrap_succ, wrap_in, getD_ints, getD_intss, getD_tsrs, fillA_len, fillA_at, fillA_full, evApp_z0, evApp_z1, evApp_z2, evApp_z3, evApp_i6, List.getElem?_set_self, List.set_set, evApp_at5, Try.ntmps37, Try.results37, hn, q2, expS_own])
        refine LoopQ.mixG 6 (fun t0 L0 nn ss => ∃ (k : Nat) (q : List Int) (jq : List Int) (_ : Unit), (∃ x : Nat → AV, ss = ⟨mixL 0 (.k :: .k :: .k :: .k :: .k :: .k :: .s :: .s :: .s :: .s :: .s :: .s :: .s :: .k :: .k :: .k :: .k :: .k :: .k :: .k :: .k :: .k :: .k :: .k :: .k :: .k :: .k :: .k :: .k :: .s :: .s :: .s :: .s :: .s :: .s :: .s :: .s :: .s :: .s :: .s :: .s :: .s :: .s :: .s :: .s :: .s :: .s :: .s :: .s :: .s :: .s :: .s :: .s :: .s :: .s :: .s :: .s :: .s :: .s :: .s :: .k :: .k :: .k :: .v (i64 (k : Nat)) :: .s :: .s :: .s :: .s :: .s :: .s :: .s :: .s :: .s :: .s :: .s :: .s :: .s :: .s :: .s :: .s :: .s :: .s :: .s :: .s :: .s :: .s :: .s :: .s :: .s :: .s :: .s :: .s :: .s :: .s :: .s :: .s :: .s :: .s :: .s :: .s :: .s :: .s :: .k :: []) t0 x, tqB w w.sh.length jq k q⟩) ∧ (k ≤ N) ∧ (q = turnQ w k) ∧ nn = N - k) (by simp) ?_ ?_
        · exact ⟨_, ⟨0, [], [], (), mixJ rfl (rfl), Nat.zero_le _, rfl, rfl⟩⟩
        · rintro I1 hI1 n ss ⟨k, q, jq, _, ⟨y, rfl⟩, m1, m2, rfl⟩
          have hql : q.length = k := by rw [m2, turnQ_len]
          by_cases hk : k < N
          · have hki : (k : Int) < (N : Int) := by omega
            have hdi := hpos k hk
            have q3 : gUnrank w.sh.reverse (k : Int) = some (unrF w.sh.reverse (k : Int)) := gUnrank_eq ⟨by omega, ⟨by omega, by omega⟩, hdi⟩
            have hxl : (unrF w.sh.reverse (k : Int)).length = w.sh.length := by rw [unrF_len, hrl]
            have hbd := rev_bd (s := w.sh) (i := unrF w.sh.reverse (k : Int)) hxl (fun d hd => unrF_bd hdi (by omega) hd)
            have hsn := turnQ_snoc w k
            rw [← m2] at hsn
            have hta : turnAt w k = w.vl.getD (rankW w.sh (unrF w.sh.reverse (k : Int)).reverse w.sh.length).toNat 0 := rfl
            rw [hta] at hsn
            generalize unrF w.sh.reverse (k : Int) = ix at *
            have hxr : ix.reverse.length = w.sh.length := by rw [List.length_reverse]; exact hxl
            have hR : rankOf w.sh ix.reverse = rankW w.sh ix.reverse w.sh.length := rankOf_eq hsok (idx_ok hxr hbd)
            have q4 := gRankOf_eq (s := w.sh) (i := ix.reverse) (by omega) (by omega)
            rw [hR] at q4
            have hlt := rank_lt hin (by omega) hbd _ (Nat.le_refl _)
            rw [List.take_length, ← hwl] at hlt
            obtain ⟨rk, hrk⟩ : ∃ rk : Nat, rankW w.sh ix.reverse w.sh.length = rk := ⟨(rankW w.sh ix.reverse w.sh.length).toNat, by omega⟩
            rw [hrk] at q4 hlt hsn
            rw [Int.toNat_natCast] at hsn
            have g1 := getD_ints (show rk < w.vl.length by omega)
            have hrl2 : (rk : Int) < (w.vl.length : Int) := hlt.2
            match k, hki, hql, hsn with
            | 0, hki, hql, hsn =>
              unfold tqB
              repeat' (first | with_reducible refine RegQ.intro (by kernel_rfl) ?_ | with_reducible refine DrawQ.nat (by kernel_rfl) ?_ | ((with_reducible refine condQ_dec (fun hp => ?_) (fun hp => ?_)) <;> try simp only [hp]) | with_reducible refine condQ_beq (fun hp => ?_) (fun hp => ?_) | ((with_reducible refine wantQ_dec (fun hp => ?_) (fun hp => ?_)) <;> try simp only [hp]) | with_reducible refine wantQ_beq (fun hp => ?_) (fun hp => ?_) | ((with_reducible refine condQ_split (fun hp => ?_) (fun hp => ?_)) <;> try simp only [hp]) | ((with_reducible refine wantQ_split (fun hp => ?_) (fun hp => ?_)) <;> try simp only [hp]) | simp -implicitDefEqProofs (disch := omega) only [go_sem, Nat.reduceAdd, Nat.reduceSub, reduceCtorEq, Nat.reduceLT, Nat.reduceLeDiff, Nat.reduceEqDiff, Nat.reduceMul, Int.reduceToNat, ↓reduceIte, List.take_of_length_le, evApp_n1, evApp_i0, evApp_i1, evApp_i2, evApp_i3, evApp_i4, evApp_i5, evApp_s0, evApp_s1, evApp_s2, evApp_s3, if_pos, if_neg, decide_eq_true, decide_eq_false, beq_t, beq_f, wrap_succ, wrap_in, getD_ints, getD_intss, getD_tsrs, fillA_len, fillA_at, fillA_full, evApp_z0, evApp_z1, evApp_z2, evApp_z3, evApp_i6, List.getElem?_set_self, List.set_set, evApp_at5, Try.ntmps37, Try.results37, hi, q3, expS_own, hxl, hol])
              refine LoopQ.mix (fun t0 L0 nn ss => ∃ (i : Nat) (_ : Unit), (∃ x : Nat → AV, ss = ⟨mixL 0 (.k :: .k :: .k :: .k :: .k :: .k :: .k :: .k :: .k :: .k :: .k :: .s :: .s :: .k :: .k :: .k :: .k :: .k :: .k :: .k :: .k :: .k :: .k :: .k :: .k :: .k :: .k :: .k :: .k :: .k :: .k :: .k :: .k :: .k :: .k :: .k :: .k :: .k :: .k :: .k :: .k :: .k :: .k :: .k :: .k :: .k :: .k :: .k :: .k :: .k :: .k :: .k :: .k :: .k :: .k :: .k :: .k :: .k :: .k :: .k :: .k :: .k :: .k :: .k :: .k :: .k :: .k :: .k :: .k :: .k :: .k :: .k :: .k :: .k :: .k :: .v (i64 (i : Nat)) :: .s :: .s :: .s :: .s :: .s :: .s :: .s :: .s :: .s :: .s :: .s :: .s :: .k :: .k :: .k :: .k :: .k :: .k :: .k :: .k :: .k :: .k :: .k :: .k :: .k :: .k :: .k :: []) t0 x, [tsX w, ⟨2, [.agg [.nilS, .nilS]]⟩, ⟨2, [.agg [.sl 3 w.sh.length 0 w.sh.length w.sh.length, .nilS]]⟩, ⟨1, w.sh.reverse.map fun n => .int .i64 n⟩, ⟨1, (fromEnd ix.reverse (w.sh.length - i)).map fun n => .int .i64 n⟩]⟩) ∧ (i ≤ w.sh.length) ∧ nn = w.sh.length - i) ?_ ?_
              · exact ⟨_, ⟨0, (), mixJ rfl (by rw [Nat.sub_zero, ← hxr, fromEnd, List.drop_of_length_le (Nat.le_refl _), List.append_nil]), Nat.zero_le _, rfl⟩⟩
              · rintro I2 hI2 n ss ⟨i, _, ⟨y2, rfl⟩, o1, rfl⟩
                by_cases hi2 : i < w.sh.length
                · have v1 := revO_at hi2
                  obtain ⟨d, hd⟩ : ∃ d : Nat, w.sh.length - i = d + 1 := ⟨w.sh.length - 1 - i, by omega⟩
                  have hd2 : w.sh.length - 1 - i = d := by omega
                  have hd3 : w.sh.length - (i + 1) = d := by omega
                  rw [hd2] at v1
                  have hdl : (d : Int) < (w.sh.length : Int) := by omega
                  have v4 : ix.getD i 0 = ix.reverse.getD d 0 := by rw [getD_rev (by omega), show ix.length - 1 - d = i by omega]
                  have v5 := fromEnd_set (l := ix.reverse) (m := d) (by omega)
                  have v6 := fromEnd_len (l := ix.reverse) (m := d + 1) (by omega)
                  rw [hd]
                  repeat' (first | with_reducible refine RegQ.intro (by kernel_rfl) ?_ | with_reducible refine DrawQ.nat (by kernel_rfl) ?_ | ((with_reducible refine condQ_dec (fun hp => ?_) (fun hp => ?_)) <;> try simp only [hp]) | with_reducible refine condQ_beq (fun hp => ?_) (fun hp => ?_) | ((with_reducible refine wantQ_dec (fun hp => ?_) (fun hp => ?_)) <;> try simp only [hp]) | with_reducible refine wantQ_beq (fun hp => ?_) (fun hp => ?_) | ((with_reducible refine condQ_split (fun hp => ?_) (fun hp => ?_)) <;> try simp only [hp]) | ((with_reducible refine wantQ_split (fun hp => ?_) (fun hp => ?_)) <;> try simp only [hp]) | simp -implicitDefEqProofs (disch := omega) only [go_sem, Nat.reduceAdd, Nat.reduceSub, reduceCtorEq, Nat.reduceLT, Nat.reduceLeDiff, Nat.reduceEqDiff, Nat.reduceMul, Int.reduceToNat, ↓reduceIte, List.take_of_length_le, evApp_n1, evApp_i0, evApp_i1, evApp_i2, evApp_i3, evApp_i4, evApp_i5, evApp_s0, evApp_s1, evApp_s2, evApp_s3, if_pos, if_neg, decide_eq_true, decide_eq_false, beq_t, beq_f, wrap_succ, wrap_in, getD_ints, getD_intss, getD_tsrs, fillA_len, fillA_at, fillA_full, evApp_z0, evApp_z1, evApp_z2, evApp_z3, evApp_i6, List.getElem?_set_self, List.set_set, evApp_at5, Try.ntmps37, Try.results37, v1, v4, v5, v6, hxr, hxl, hol, hdl, set_ints])
                  exact ⟨w.sh.length - (i + 1), by omega, hI2 _ _ ⟨i + 1, (), mixJ rfl (by rw [hd3]), hi2, rfl⟩⟩
                · obtain rfl : i = w.sh.length := by omega
                  have v7 : fromEnd ix.reverse (w.sh.length - w.sh.length) = ix.reverse := by rw [Nat.sub_self]; simp [fromEnd]
                  rw [v7]
                  have hq0 : q = [] := List.length_eq_zero_iff.1 hql
                  rw [hq0] at hsn
                  repeat' (first | with_reducible refine RegQ.intro (by kernel_rfl) ?_ | with_reducible refine DrawQ.nat (by kernel_rfl) ?_ | ((with_reducible refine condQ_dec (fun hp => ?_) (fun hp => ?_)) <;> try simp only [hp]) | with_reducible refine condQ_beq (fun hp => ?_) (fun hp => ?_) | ((with_reducible refine wantQ_dec (fun hp => ?_) (fun hp => ?_)) <;> try simp only [hp]) | with_reducible refine wantQ_beq (fun hp => ?_) (fun hp => ?_) | ((with_reducible refine condQ_split (fun hp => ?_) (fun hp => ?_)) <;> try simp only [hp]) | ((with_reducible refine wantQ_split (fun hp => ?_) (fun hp => ?_)) <;> try simp only [hp]) | simp -implicitDefEqProofs (disch := omega) only [go_sem, Nat.reduceAdd, Nat.reduceSub, reduceCtorEq, Nat.reduceLT, Nat.reduceLeDiff, Nat.reduceEqDiff, Nat.reduceMul, Int.reduceToNat, ↓reduceIte, List.take_of_length_le, evApp_n1, evApp_i0, evApp_i1, evApp_i2, evApp_i3, evApp_i4, evApp_i5, evApp_s0, evApp_s1, evApp_s2, evApp_s3, if_pos, if_neg, decide_eq_true, decide_eq_false, beq_t, beq_f, wrap_succ, wrap_in, getD_ints, getD_intss, getD_tsrs, fillA_len, fillA_at, fillA_full, evApp_z0, evApp_z1, evApp_z2, evApp_z3, evApp_i6, List.getElem?_set_self, List.set_set, evApp_at5, Try.ntmps37, Try.results37, hr, expS_own, q4, g1, hrl2])
                  exact ⟨N - 1, by omega, hI1 _ _ ⟨1, [w.vl.getD rk 0], ix.reverse, (), mixJ rfl rfl, by omega, hsn, rfl⟩⟩
            | k + 1, hki, hql, hsn =>
              unfold tqB
              repeat' (first | with_reducible refine RegQ.intro (by kernel_rfl) ?_ | with_reducible refine DrawQ.nat (by kernel_rfl) ?_ | ((with_reducible refine condQ_dec (fun hp => ?_) (fun hp => ?_)) <;> try simp only [hp]) | with_reducible refine condQ_beq (fun hp => ?_) (fun hp => ?_) | ((with_reducible refine wantQ_dec (fun hp => ?_) (fun hp => ?_)) <;> try simp only [hp]) | with_reducible refine wantQ_beq (fun hp => ?_) (fun hp => ?_) | ((with_reducible refine condQ_split (fun hp => ?_) (fun hp => ?_)) <;> try simp only [hp]) | ((with_reducible refine wantQ_split (fun hp => ?_) (fun hp => ?_)) <;> try simp only [hp]) | simp -implicitDefEqProofs (disch := omega) only [go_sem, Nat.reduceAdd, Nat.reduceSub, reduceCtorEq, Nat.reduceLT, Nat.reduceLeDiff, Nat.reduceEqDiff, Nat.reduceMul, Int.reduceToNat, ↓reduceIte, List.take_of_length_le, evApp_n1, evApp_i0, evApp_i1, evApp_i2, evApp_i3, evApp_i4, evApp_i5, evApp_s0, evApp_s1, evApp_s2, evApp_s3, if_pos, if_neg, decide_eq_true, decide_eq_false, beq_t, beq_f, wrap_succ, wrap_in, getD_ints, getD_intss, getD_tsrs, fillA_len, fillA_at, fillA_full, evApp_z0, evApp_z1, evApp_z2, evApp_z3, evApp_i6, List.getElem?_set_self, List.set_set, evApp_at5, Try.ntmps37, Try.results37, hi, q3, expS_own, hxl, hol])
              refine LoopQ.mix (fun t0 L0 nn ss => ∃ (i : Nat) (_ : Unit), (∃ x : Nat → AV, ss = ⟨mixL 0 (.k :: .k :: .k :: .k :: .k :: .k :: .k :: .k :: .k :: .k :: .k :: .s :: .s :: .k :: .k :: .k :: .k :: .k :: .k :: .k :: .k :: .k :: .k :: .k :: .k :: .k :: .k :: .k :: .k :: .k :: .k :: .k :: .k :: .k :: .k :: .k :: .k :: .k :: .k :: .k :: .k :: .k :: .k :: .k :: .k :: .k :: .k :: .k :: .k :: .k :: .k :: .k :: .k :: .k :: .k :: .k :: .k :: .k :: .k :: .k :: .k :: .k :: .k :: .k :: .k :: .k :: .k :: .k :: .k :: .k :: .k :: .k :: .k :: .k :: .k :: .v (i64 (i : Nat)) :: .s :: .s :: .s :: .s :: .s :: .s :: .s :: .s :: .s :: .s :: .s :: .s :: .k :: .k :: .k :: .k :: .k :: .k :: .k :: .k :: .k :: .k :: .k :: .k :: .k :: .k :: .k :: []) t0 x, [tsX w, ⟨2, [.agg [.nilS, .nilS]]⟩, ⟨2, [.agg [.sl 3 w.sh.length 0 w.sh.length w.sh.length, .sl 5 (k + 1) 0 (k + 1) (k + 1)]]⟩, ⟨1, w.sh.reverse.map fun n => .int .i64 n⟩, ⟨1, jq.map fun n => .int .i64 n⟩, ⟨1, q.map fun n => .int .i64 n⟩, ⟨1, (fromEnd ix.reverse (w.sh.length - i)).map fun n => .int .i64 n⟩]⟩) ∧ (i ≤ w.sh.length) ∧ nn = w.sh.length - i) ?_ ?_
              · exact ⟨_, ⟨0, (), mixJ rfl (by rw [Nat.sub_zero, ← hxr, fromEnd, List.drop_of_length_le (Nat.le_refl _), List.append_nil]), Nat.zero_le _, rfl⟩⟩
              · rintro I2 hI2 n ss ⟨i, _, ⟨y2, rfl⟩, o1, rfl⟩
                by_cases hi2 : i < w.sh.length
                · have v1 := revO_at hi2
                  obtain ⟨d, hd⟩ : ∃ d : Nat, w.sh.length - i = d + 1 := ⟨w.sh.length - 1 - i, by omega⟩
                  have hd2 : w.sh.length - 1 - i = d := by omega
                  have hd3 : w.sh.length - (i + 1) = d := by omega
                  rw [hd2] at v1
                  have hdl : (d : Int) < (w.sh.length : Int) := by omega
                  have v4 : ix.getD i 0 = ix.reverse.getD d 0 := by rw [getD_rev (by omega), show ix.length - 1 - d = i by omega]
                  have v5 := fromEnd_set (l := ix.reverse) (m := d) (by omega)
                  have v6 := fromEnd_len (l := ix.reverse) (m := d + 1) (by omega)
                  rw [hd]
                  repeat' (first | with_reducible refine RegQ.intro (by kernel_rfl) ?_ | with_reducible refine DrawQ.nat (by kernel_rfl) ?_ | ((with_reducible refine condQ_dec (fun hp => ?_) (fun hp => ?_)) <;> try simp only [hp]) | with_reducible refine condQ_beq (fun hp => ?_) (fun hp => ?_) | ((with_reducible refine wantQ_dec (fun hp => ?_) (fun hp => ?_)) <;> try simp only [hp]) | with_reducible refine wantQ_beq (fun hp => ?_) (fun hp => ?_) | ((with_reducible refine condQ_split (fun hp => ?_) (fun hp => ?_)) <;> try simp only [hp]) | ((with_reducible refine wantQ_split (fun hp => ?_) (fun hp => ?_)) <;> try simp only [hp]) | simp -implicitDefEqProofs (disch := omega) only [go_sem, Nat.reduceAdd, Nat.reduceSub, reduceCtorEq, Nat.reduceLT, Nat.reduceLeDiff, Nat.reduceEqDiff, Nat.reduceMul, Int.reduceToNat, ↓reduceIte, List.take_of_length_le, evApp_n1, evApp_i0, evApp_i1, evApp_i2, evApp_i3, evApp_i4, evApp_i5, evApp_s0, evApp_s1, evApp_s2, evApp_s3, if_pos, if_neg, decide_eq_true, decide_eq_false, beq_t, beq_f, wrap_succ, wrap_in, getD_ints, getD_intss, getD_tsrs, fillA_len, fillA_at, fillA_full, evApp_z0, evApp_z1, evApp_z2, evApp_z3, evApp_i6, List.getElem?_set_self, List.set_set, evApp_at5, Try.ntmps37, Try.results37, v1, v4, v5, v6, hxr, hxl, hol, hdl, set_ints])
                  exact ⟨w.sh.length - (i + 1), by omega, hI2 _ _ ⟨i + 1, (), mixJ rfl (by rw [hd3]), hi2, rfl⟩⟩
                · obtain rfl : i = w.sh.length := by omega
                  have v7 : fromEnd ix.reverse (w.sh.length - w.sh.length) = ix.reverse := by rw [Nat.sub_self]; simp [fromEnd]
                  rw [v7]
                  repeat' (first | with_reducible refine RegQ.intro (by kernel_rfl) ?_ | with_reducible refine DrawQ.nat (by kernel_rfl) ?_ | ((with_reducible refine condQ_dec (fun hp => ?_) (fun hp => ?_)) <;> try simp only [hp]) | with_reducible refine condQ_beq (fun hp => ?_) (fun hp => ?_) | ((with_reducible refine wantQ_dec (fun hp => ?_) (fun hp => ?_)) <;> try simp only [hp]) | with_reducible refine wantQ_beq (fun hp => ?_) (fun hp => ?_) | ((with_reducible refine condQ_split (fun hp => ?_) (fun hp => ?_)) <;> try simp only [hp]) | ((with_reducible refine wantQ_split (fun hp => ?_) (fun hp => ?_)) <;> try simp only [hp]) | simp -implicitDefEqProofs (disch := omega) only [go_sem, Nat.reduceAdd, Nat.reduceSub, reduceCtorEq, Nat.reduceLT, Nat.reduceLeDiff, Nat.reduceEqDiff, Nat.reduceMul, Int.reduceToNat, ↓reduceIte, List.take_of_length_le, evApp_n1, evApp_i0, evApp_i1, evApp_i2, evApp_i3, evApp_i4, evApp_i5, evApp_s0, evApp_s1, evApp_s2, evApp_s3, if_pos, if_neg, decide_eq_true, decide_eq_false, beq_t, beq_f, wrap_succ, wrap_in, getD_ints, getD_intss, getD_tsrs, fillA_len, fillA_at, fillA_full, evApp_z0, evApp_z1, evApp_z2, evApp_z3, evApp_i6, List.getElem?_set_self, List.set_set, evApp_at5, Try.ntmps37, Try.results37, hr, expS_own, q4, g1, hrl2])
                  exact ⟨N - (k + 1 + 1), by omega, hI1 _ _ ⟨k + 1 + 1, q ++ [w.vl.getD rk 0], jq, (), mixJ rfl rfl, by omega, hsn, rfl⟩⟩
          · obtain rfl : k = N := by omega
            match hz : k, m2, hql with
            | 0, m2, hql =>
              unfold tqB
              repeat' (first | with_reducible refine RegQ.intro (by kernel_rfl) ?_ | with_reducible refine DrawQ.nat (by kernel_rfl) ?_ | ((with_reducible refine condQ_dec (fun hp => ?_) (fun hp => ?_)) <;> try simp only [hp]) | with_reducible refine condQ_beq (fun hp => ?_) (fun hp => ?_) | ((with_reducible refine wantQ_dec (fun hp => ?_) (fun hp => ?_)) <;> try simp only [hp]) | with_reducible refine wantQ_beq (fun hp => ?_) (fun hp => ?_) | ((with_reducible refine condQ_split (fun hp => ?_) (fun hp => ?_)) <;> try simp only [hp]) | ((with_reducible refine wantQ_split (fun hp => ?_) (fun hp => ?_)) <;> try simp only [hp]) | simp -implicitDefEqProofs (disch := omega) only [go_sem, Nat.reduceAdd, Nat.reduceSub, reduceCtorEq, Nat.reduceLT, Nat.reduceLeDiff, Nat.reduceEqDiff, Nat.reduceMul, Int.reduceToNat, ↓reduceIte, List.take_of_length_le, evApp_n1, evApp_i0, evApp_i1, evApp_i2, evApp_i3, evApp_i4, evApp_i5, evApp_s0, evApp_s1, evApp_s2, evApp_s3, if_pos, if_neg, decide_eq_true, decide_eq_false, beq_t, beq_f, wrap_succ, wrap_in, getD_ints, getD_intss, getD_tsrs, fillA_len, fillA_at, fillA_full, evApp_z0, evApp_z1, evApp_z2, evApp_z3, evApp_i6, List.getElem?_set_self, List.set_set, evApp_at5, Try.ntmps37, Try.results37, expS_own])
              rfl
            | k + 1, m2, hql =>
              unfold tqB
              repeat' (first | with_reducible refine RegQ.intro (by kernel_rfl) ?_ | with_reducible refine DrawQ.nat (by kernel_rfl) ?_ | ((with_reducible refine condQ_dec (fun hp => ?_) (fun hp => ?_)) <;> try simp only [hp]) | with_reducible refine condQ_beq (fun hp => ?_) (fun hp => ?_) | ((with_reducible refine wantQ_dec (fun hp => ?_) (fun hp => ?_)) <;> try simp only [hp]) | with_reducible refine wantQ_beq (fun hp => ?_) (fun hp => ?_) | ((with_reducible refine condQ_split (fun hp => ?_) (fun hp => ?_)) <;> try simp only [hp]) | ((with_reducible refine wantQ_split (fun hp => ?_) (fun hp => ?_)) <;> try simp only [hp]) | simp -implicitDefEqProofs (disch := omega) only [go_sem, Nat.reduceAdd, Nat.reduceSub, reduceCtorEq, Nat.reduceLT, Nat.reduceLeDiff, Nat.reduceEqDiff, Nat.reduceMul, Int.reduceToNat, ↓reduceIte, List.take_of_length_le, evApp_n1, evApp_i0, evApp_i1, evApp_i2, evApp_i3, evApp_i4, evApp_i5, evApp_s0, evApp_s1, evApp_s2, evApp_s3, if_pos, if_neg, decide_eq_true, decide_eq_false, beq_t, beq_f, wrap_succ, wrap_in, getD_ints, getD_intss, getD_tsrs, fillA_len, fillA_at, fillA_full, evApp_z0, evApp_z1, evApp_z2, evApp_z3, evApp_i6, List.getElem?_set_self, List.set_set, evApp_at5, Try.ntmps37, Try.results37, expS_own])
              rw [m2]
end Go.Proofs.Ytfjhhbpipococaa
