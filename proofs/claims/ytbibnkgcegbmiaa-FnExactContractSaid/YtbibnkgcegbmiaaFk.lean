/- Contracts of functions that the laws of this seat call. -/
import Derived.Test.YtbibnkgcegbmiaaFj
set_option linter.all false
namespace Go.Proofs.Ytbibnkgcegbmiaa
open Go Go.Ev Go.RowKit Go.Ev.Enc

theorem extAll_len {p : Tsr → Bool} : ∀ (z : List (Tsr × List Int)) (out o : List Int), extAll p out z = some o → o.length = out.length
  | [], out, o, h => by simp [extAll] at h; rw [h]
  | x :: r, out, o, h => by
    unfold extAll at h
    split at h
    · simp only [Option.bind_eq_some_iff] at h
      obtain ⟨o1, h1, h2⟩ := h
      rw [extAll_len r _ _ h2, extIn_len _ _ _ h1]
    · simp at h
theorem extF_len {l : List Tsr} {b : List (List Int)} {e : List Int} (h : extF l b = some e) : e.length = 5 ∧ b.length = l.length ∧ tsrsOK l b = true ∧ 1 ≤ l.length ∧ l.length ≤ 3 := by
  have h0 := extF_eq l b
  unfold extF at h
  split at h
  · rename_i hl
    refine ⟨extAll_len _ _ _ h, hl.2.2, ?_, hl.1, hl.2.1⟩
    by_cases ht : tsrsOK l b = true
    · exact ht
    · rw [if_neg ht] at h0
      unfold extF at h0
      rw [if_pos hl, h] at h0
      simp at h0
  · simp at h
def pairOK (n : Nat) (i j : Int) : Prop := 0 ≤ i ∧ i < n ∧ 0 ≤ j ∧ j < n ∧ i ≠ j
instance (n : Nat) (i j : Int) : Decidable (pairOK n i j) := by unfold pairOK; infer_instance
def costF (l : List Tsr) (b : List (List Int)) (out : List Int) (i j : Int) : Int :=
  match extF l b with
  | none => -1
  | some e => if labOK out = true ∧ pairOK l.length i j then costS e b out i j else -1
def gCostByT (l : List Tsr) (b : List (List Int)) (out : List Int) (i j : Int) : Option Int := gd (szOK l b ∧ out.length ≤ 1048576) (costF l b out i j)
theorem gCostByT_eq {l : List Tsr} {b : List (List Int)} {out : List Int} {i j : Int} (h : szOK l b ∧ out.length ≤ 1048576) : gCostByT l b out i j = some (costF l b out i j) := gd_eq h
theorem inR_t {n lo hi : Int} (h : inR n lo hi = true) : lo ≤ n ∧ n ≤ hi := by
  unfold inR at h; simpa using h
theorem inR_f {n lo hi : Int} (h : inR n lo hi = false) : ¬ (lo ≤ n ∧ n ≤ hi) := by
  intro hh; unfold inR at h; rw [decide_eq_true hh.1, decide_eq_true hh.2] at h; simp at h
set_option maxHeartbeats 2000000 in
set_option maxRecDepth 100000 in
theorem spec_CostByS {Sg : FuncId → Option (List AV → Option AV)} (hS : Sound Try.prog Sg) (he : Sg 48 = some (F2 gExtentsOf)) (hi : Sg 49 = some (F3 gAllIn)) (hn : Sg 50 = some (F3 gInRange)) (hc : Sg 51 = some (F5 gCostBy)) : ∀ a r, F5 gCostByT a = some r → CSpec Try.prog 17 a r := by
  refine spec5 Try.func17 rfl Try.pf hS ?_
  intro l b out i j r hr
  obtain ⟨⟨h1, h2⟩, rfl⟩ := gd_some hr
  unfold costF
  have b1 := h1.1
  cases hE : extF l b with
  | none =>
    repeat' (first | with_reducible refine RegQ.intro (by kernel_rfl) ?_ | ((with_reducible refine condQ_dec (fun hp => ?_) (fun hp => ?_)) <;> try simp only [hp]) | with_reducible refine condQ_beq (fun hp => ?_) (fun hp => ?_) | ((with_reducible refine wantQ_dec (fun hp => ?_) (fun hp => ?_)) <;> try simp only [hp]) | with_reducible refine wantQ_beq (fun hp => ?_) (fun hp => ?_) | ((with_reducible refine condQ_split (fun hp => ?_) (fun hp => ?_)) <;> try simp only [hp]) | ((with_reducible refine wantQ_split (fun hp => ?_) (fun hp => ?_)) <;> try simp only [hp]) | simp -implicitDefEqProofs (disch := omega) only [go_sem, Nat.reduceAdd, Nat.reduceSub, reduceCtorEq, Nat.reduceLT, Nat.reduceLeDiff, Nat.reduceEqDiff, Nat.reduceMul, Int.reduceToNat, ↓reduceIte, List.take_of_length_le, evApp_n1, evApp_i0, evApp_i1, evApp_i2, evApp_i3, evApp_i4, evApp_i5, evApp_s0, evApp_s1, evApp_s2, evApp_s3, if_pos, if_neg, decide_eq_true, decide_eq_false, beq_t, beq_f, wrap_succ, wrap_in, getD_ints, getD_intss, getD_tsrs, fillA_len, fillA_at, fillA_full, Try.ntmps17, Try.results17, he, gExtentsOf_eq h1, hE, extRes])
  | some e =>
    obtain ⟨e1, e2, e3, e4, e5⟩ := extF_len hE
    have hi4 : rowsOK b := fun k hk => h1.2.2.2 k hk
    by_cases hpp : pairOK l.length i j
    · have hb : keepB b out i j := ⟨⟨⟨by omega, by omega⟩, hi4⟩, by obtain ⟨p1, p2, p3, p4, p5⟩ := hpp; exact ⟨p1, by omega, p3, by omega⟩⟩
      have q1 : inR i 0 (l.length - 1) = true := by obtain ⟨p1, p2, p3, p4, p5⟩ := hpp; unfold inR; rw [decide_eq_true p1, decide_eq_true (by omega)]; rfl
      have q2 : inR j 0 (l.length - 1) = true := by obtain ⟨p1, p2, p3, p4, p5⟩ := hpp; unfold inR; rw [decide_eq_true p3, decide_eq_true (by omega)]; rfl
      have q3 : (i == j) = false := beq_f hpp.2.2.2.2
      repeat' (first | with_reducible refine RegQ.intro (by kernel_rfl) ?_ | ((with_reducible refine condQ_dec (fun hp => ?_) (fun hp => ?_)) <;> try simp only [hp]) | with_reducible refine condQ_beq (fun hp => ?_) (fun hp => ?_) | ((with_reducible refine wantQ_dec (fun hp => ?_) (fun hp => ?_)) <;> try simp only [hp]) | with_reducible refine wantQ_beq (fun hp => ?_) (fun hp => ?_) | ((with_reducible refine condQ_split (fun hp => ?_) (fun hp => ?_)) <;> try simp only [hp]) | ((with_reducible refine wantQ_split (fun hp => ?_) (fun hp => ?_)) <;> try simp only [hp]) | simp -implicitDefEqProofs (disch := omega) only [go_sem, Nat.reduceAdd, Nat.reduceSub, reduceCtorEq, Nat.reduceLT, Nat.reduceLeDiff, Nat.reduceEqDiff, Nat.reduceMul, Int.reduceToNat, ↓reduceIte, List.take_of_length_le, evApp_n1, evApp_i0, evApp_i1, evApp_i2, evApp_i3, evApp_i4, evApp_i5, evApp_s0, evApp_s1, evApp_s2, evApp_s3, if_pos, if_neg, decide_eq_true, decide_eq_false, beq_t, beq_f, wrap_succ, wrap_in, getD_ints, getD_intss, getD_tsrs, fillA_len, fillA_at, fillA_full, Try.ntmps17, Try.results17, he, gExtentsOf_eq h1, hE, extRes, hi, gAllIn_eq, labOK_in, hn, gInRange_eq, hc, gCostBy_eq ⟨e1, hb⟩, q1, q2, q3])
      all_goals simp only [false_and, if_false]
    · repeat' (first | with_reducible refine RegQ.intro (by kernel_rfl) ?_ | ((with_reducible refine condQ_dec (fun hp => ?_) (fun hp => ?_)) <;> try simp only [hp]) | with_reducible refine condQ_beq (fun hp => ?_) (fun hp => ?_) | ((with_reducible refine wantQ_dec (fun hp => ?_) (fun hp => ?_)) <;> try simp only [hp]) | with_reducible refine wantQ_beq (fun hp => ?_) (fun hp => ?_) | ((with_reducible refine condQ_split (fun hp => ?_) (fun hp => ?_)) <;> try simp only [hp]) | ((with_reducible refine wantQ_split (fun hp => ?_) (fun hp => ?_)) <;> try simp only [hp]) | simp -implicitDefEqProofs (disch := omega) only [go_sem, Nat.reduceAdd, Nat.reduceSub, reduceCtorEq, Nat.reduceLT, Nat.reduceLeDiff, Nat.reduceEqDiff, Nat.reduceMul, Int.reduceToNat, ↓reduceIte, List.take_of_length_le, evApp_n1, evApp_i0, evApp_i1, evApp_i2, evApp_i3, evApp_i4, evApp_i5, evApp_s0, evApp_s1, evApp_s2, evApp_s3, if_pos, if_neg, decide_eq_true, decide_eq_false, beq_t, beq_f, wrap_succ, wrap_in, getD_ints, getD_intss, getD_tsrs, fillA_len, fillA_at, fillA_full, Try.ntmps17, Try.results17, he, gExtentsOf_eq h1, hE, extRes, hi, gAllIn_eq, labOK_in, hn, gInRange_eq, hc])
      all_goals (try simp only [false_and, if_false])
      all_goals (try rw [if_neg hpp])
      exfalso
      have n3 : inR i 0 ((l.length : Int) - 1) = true := by assumption
      have n4 : inR j 0 ((l.length : Int) - 1) = true := by assumption
      have h6 := inR_t n3
      have h7 := inR_t n4
      exact hpp ⟨h6.1, by omega, h7.1, by omega, by assumption⟩
end Go.Proofs.Ytbibnkgcegbmiaa
