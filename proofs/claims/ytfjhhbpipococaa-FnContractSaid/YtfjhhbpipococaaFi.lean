/- Contracts of functions that the laws of this seat call. -/
import Derived.Test.YtfjhhbpipococaaFh
set_option linter.all false
namespace Go.Proofs.Ytfjhhbpipococaa
open Go Go.Ev Go.RowKit Go.Ev.Enc

/-- tensors and labels that the program takes -/
def tsrsOK (l : List Tsr) (b : List (List Int)) : Bool := l.all tsrOK && decide (1 ≤ l.length ∧ l.length ≤ 3) && decide (b.length = l.length)
def gValidTensors (l : List Tsr) (b : List (List Int)) : Option Bool := gd ((l.length < 4294967296 ∧ b.length < 4294967296) ∧ tsrsB l) (tsrsOK l b)
theorem gValidTensors_eq {l : List Tsr} {b : List (List Int)} (h : (l.length < 4294967296 ∧ b.length < 4294967296) ∧ tsrsB l) : gValidTensors l b = some (tsrsOK l b) := gd_eq h
set_option maxHeartbeats 2000000 in
set_option maxRecDepth 100000 in
theorem spec_validTensors {Sg : FuncId → Option (List AV → Option AV)} (hS : Sound Try.prog Sg) (hc : Sg 84 = some (F1 gIsTensor)) (hi : Sg 43 = some (F3 gInRange)) : ∀ a r, F2 gValidTensors a = some r → CSpec Try.prog 60 a r := by
  refine spec2 Try.func60 rfl Try.pf hS ?_
  intro l b r hr
  obtain ⟨⟨⟨h1, h2⟩, h3⟩, rfl⟩ := gd_some hr
  repeat' (first | with_reducible refine RegQ.intro (by kernel_rfl) ?_ | ((with_reducible refine condQ_dec (fun hp => ?_) (fun hp => ?_)) <;> try simp only [hp]) | with_reducible refine condQ_beq (fun hp => ?_) (fun hp => ?_) | ((with_reducible refine wantQ_dec (fun hp => ?_) (fun hp => ?_)) <;> try simp only [hp]) | with_reducible refine wantQ_beq (fun hp => ?_) (fun hp => ?_) | ((with_reducible refine condQ_split (fun hp => ?_) (fun hp => ?_)) <;> try simp only [hp]) | ((with_reducible refine wantQ_split (fun hp => ?_) (fun hp => ?_)) <;> try simp only [hp]) | simp -implicitDefEqProofs (disch := omega) only [go_sem, Nat.reduceAdd, Nat.reduceSub, reduceCtorEq, Nat.reduceLT, Nat.reduceLeDiff, Nat.reduceEqDiff, Nat.reduceMul, Int.reduceToNat, ↓reduceIte, List.take_of_length_le, evApp_n1, evApp_i0, evApp_i1, evApp_i2, evApp_i3, evApp_i4, evApp_i5, evApp_s0, evApp_s1, evApp_s2, evApp_s3, if_pos, if_neg, decide_eq_true, decide_eq_false, beq_t, beq_f, wrap_succ, wrap_in, getD_ints, getD_intss, getD_tsrs, fillA_len, fillA_at, fillA_full, Try.ntmps60, Try.results60])
  refine LoopQ.mix (fun t0 L0 nn ss => ∃ (k : Nat) (_ : Unit), (∃ x : Nat → AV, ss = ⟨mixL 0 (.k :: .k :: .k :: .k :: .s :: .v (i64 (k : Nat)) :: .s :: .s :: .s :: .s :: .s :: .s :: .s :: .s :: .s :: .s :: .s :: .s :: .k :: .k :: .k :: .k :: .k :: .k :: .k :: .k :: .k :: .k :: []) t0 x, L0⟩) ∧ (k ≤ l.length) ∧ (∀ x ∈ l.take k, tsrOK x = true) ∧ nn = l.length - k) ?_ ?_
  · exact ⟨_, ⟨0, (), mixI rfl, Nat.zero_le _, by simp, rfl⟩⟩
  · rintro I0 hI0 n s ⟨k, _, ⟨x, rfl⟩, g1, g2, rfl⟩
    by_cases hlt : k < l.length
    · obtain ⟨g3, g4⟩ := h3 k hlt
      repeat' (first | with_reducible refine RegQ.intro (by kernel_rfl) ?_ | ((with_reducible refine condQ_dec (fun hp => ?_) (fun hp => ?_)) <;> try simp only [hp]) | with_reducible refine condQ_beq (fun hp => ?_) (fun hp => ?_) | ((with_reducible refine wantQ_dec (fun hp => ?_) (fun hp => ?_)) <;> try simp only [hp]) | with_reducible refine wantQ_beq (fun hp => ?_) (fun hp => ?_) | ((with_reducible refine condQ_split (fun hp => ?_) (fun hp => ?_)) <;> try simp only [hp]) | ((with_reducible refine wantQ_split (fun hp => ?_) (fun hp => ?_)) <;> try simp only [hp]) | simp -implicitDefEqProofs (disch := omega) only [go_sem, Nat.reduceAdd, Nat.reduceSub, reduceCtorEq, Nat.reduceLT, Nat.reduceLeDiff, Nat.reduceEqDiff, Nat.reduceMul, Int.reduceToNat, ↓reduceIte, List.take_of_length_le, evApp_n1, evApp_i0, evApp_i1, evApp_i2, evApp_i3, evApp_i4, evApp_i5, evApp_s0, evApp_s1, evApp_s2, evApp_s3, if_pos, if_neg, decide_eq_true, decide_eq_false, beq_t, beq_f, wrap_succ, wrap_in, getD_ints, getD_intss, getD_tsrs, fillA_len, fillA_at, fillA_full, Try.ntmps60, Try.results60, hc, gIsTensor_eq])
      · exact ⟨l.length - (k + 1), by omega, hI0 _ _ ⟨k + 1, (), mixI rfl, hlt, by rw [List.take_succ_eq_append_getElem hlt]; intro y hy; rcases List.mem_append.1 hy with h | h; exact g2 y h; simp at h; subst h; simpa [hlt] using hp, rfl⟩⟩
      · have : l.all tsrOK = false := by rw [List.all_eq_false]; exact ⟨l.getD k ⟨[], []⟩, by simp [hlt], by rw [hp]; simp⟩
        rw [tsrsOK, this]; rfl
    · obtain rfl : k = l.length := by omega
      rw [List.take_length] at g2
      have e1 : l.all tsrOK = true := List.all_eq_true.2 g2
      repeat' (first | with_reducible refine RegQ.intro (by kernel_rfl) ?_ | ((with_reducible refine condQ_dec (fun hp => ?_) (fun hp => ?_)) <;> try simp only [hp]) | with_reducible refine condQ_beq (fun hp => ?_) (fun hp => ?_) | ((with_reducible refine wantQ_dec (fun hp => ?_) (fun hp => ?_)) <;> try simp only [hp]) | with_reducible refine wantQ_beq (fun hp => ?_) (fun hp => ?_) | ((with_reducible refine condQ_split (fun hp => ?_) (fun hp => ?_)) <;> try simp only [hp]) | ((with_reducible refine wantQ_split (fun hp => ?_) (fun hp => ?_)) <;> try simp only [hp]) | simp -implicitDefEqProofs (disch := omega) only [go_sem, Nat.reduceAdd, Nat.reduceSub, reduceCtorEq, Nat.reduceLT, Nat.reduceLeDiff, Nat.reduceEqDiff, Nat.reduceMul, Int.reduceToNat, ↓reduceIte, List.take_of_length_le, evApp_n1, evApp_i0, evApp_i1, evApp_i2, evApp_i3, evApp_i4, evApp_i5, evApp_s0, evApp_s1, evApp_s2, evApp_s3, if_pos, if_neg, decide_eq_true, decide_eq_false, beq_t, beq_f, wrap_succ, wrap_in, getD_ints, getD_intss, getD_tsrs, fillA_len, fillA_at, fillA_full, Try.ntmps60, Try.results60, hi, gInRange_eq])
      · simp only [inR, Bool.and_eq_true, decide_eq_true_eq] at hp
        rw [tsrsOK, e1, decide_eq_true (by omega), Bool.true_and, Bool.true_and, Bool.eq_iff_iff]
        simp; omega
      · simp only [inR, Bool.and_eq_false_iff, decide_eq_false_iff_not] at hp
        rw [tsrsOK, e1, decide_eq_false (by omega)]; rfl

/-- the extents, without a look at the tensors -/
def extS (l : List Tsr) (b : List (List Int)) : Option (List Int) := extAll (fun _ => true) [-1, -1, -1, -1, -1] (l.zip b)
def gExtentsS (l : List Tsr) (b : List (List Int)) : Option (List Int × Bool) := gd (szOK l b ∧ b.length = l.length) (extRes (extS l b))
theorem gExtentsS_eq {l : List Tsr} {b : List (List Int)} (h : szOK l b ∧ b.length = l.length) : gExtentsS l b = some (extRes (extS l b)) := gd_eq h
theorem labOK_in (l : List Int) : (l.all fun n => inR n 0 4) = labOK l := by
  unfold labOK
  rw [List.not_any_eq_all_not]
  congr 1
  funext n
  unfold inR notLab
  rw [Bool.eq_iff_iff]
  simp only [Bool.and_eq_true, decide_eq_true_eq, Bool.not_eq_true', Bool.or_eq_false_iff, decide_eq_false_iff_not]
  omega
set_option maxHeartbeats 2000000 in
set_option maxRecDepth 100000 in
theorem spec_extents {Sg : FuncId → Option (List AV → Option AV)} (hS : Sound Try.prog Sg) (hi : Sg 44 = some (F3 gAllIn)) : ∀ a r, F2 gExtentsS a = some r → CSpec Try.prog 69 a r := by
  refine spec2 Try.func69 rfl Try.pf hS ?_
  intro l b r hr
  obtain ⟨⟨⟨b1, b2, b3, b4⟩, b5⟩, rfl⟩ := gd_some hr
  unfold extS
  generalize hR : extAll (fun _ => true) [-1, -1, -1, -1, -1] (l.zip b) = R
  repeat' (first | with_reducible refine RegQ.intro (by kernel_rfl) ?_ | ((with_reducible refine condQ_dec (fun hp => ?_) (fun hp => ?_)) <;> try simp only [hp]) | with_reducible refine condQ_beq (fun hp => ?_) (fun hp => ?_) | ((with_reducible refine wantQ_dec (fun hp => ?_) (fun hp => ?_)) <;> try simp only [hp]) | with_reducible refine wantQ_beq (fun hp => ?_) (fun hp => ?_) | ((with_reducible refine condQ_split (fun hp => ?_) (fun hp => ?_)) <;> try simp only [hp]) | ((with_reducible refine wantQ_split (fun hp => ?_) (fun hp => ?_)) <;> try simp only [hp]) | simp -implicitDefEqProofs (disch := omega) only [go_sem, Nat.reduceAdd, Nat.reduceSub, reduceCtorEq, Nat.reduceLT, Nat.reduceLeDiff, Nat.reduceEqDiff, Nat.reduceMul, Int.reduceToNat, ↓reduceIte, List.take_of_length_le, evApp_n1, evApp_i0, evApp_i1, evApp_i2, evApp_i3, evApp_i4, evApp_i5, evApp_s0, evApp_s1, evApp_s2, evApp_s3, if_pos, if_neg, decide_eq_true, decide_eq_false, beq_t, beq_f, wrap_succ, wrap_in, getD_ints, getD_intss, getD_tsrs, fillA_len, fillA_at, fillA_full, Try.ntmps69, Try.results69])
  refine LoopQ.mix (fun t0 L0 nn ss => ∃ (k : Nat) (q : List Int) (_ : Unit), (∃ x : Nat → AV, ss = ⟨mixL 0 (.k :: .k :: .k :: .k :: .k :: .k :: .v (.sl 0 k 0 k k) :: .v (i64 (k : Nat)) :: .k :: .k :: .k :: .k :: .s :: .s :: .s :: .s :: .s :: .s :: .s :: .k :: .k :: .k :: .k :: .k :: .k :: .k :: .k :: .k :: .k :: .k :: .k :: .k :: .k :: .k :: .k :: .k :: .k :: .k :: .k :: .k :: .k :: .k :: .k :: .k :: .k :: .k :: .k :: .k :: .k :: .k :: .k :: .k :: .k :: .k :: .k :: .k :: .k :: .k :: .k :: .k :: .k :: .k :: .k :: .k :: .k :: .k :: .k :: .k :: .k :: .k :: .k :: .k :: .k :: .k :: .k :: .k :: .k :: .k :: .k :: .k :: .k :: .k :: .k :: .k :: .k :: .k :: .k :: .k :: .k :: .k :: .k :: .k :: .k :: []) t0 x, [⟨1, q.map fun n => .int .i64 n⟩]⟩) ∧ (k ≤ 5) ∧ (q.length = k) ∧ (∀ i, i < k → q.getD i 0 = -1) ∧ nn = 5 - k) ?_ ?_
  · exact ⟨_, ⟨0, [], (), mixI rfl, Nat.zero_le _, rfl, fun i hi => absurd hi (Nat.not_lt_zero _), rfl⟩⟩
  · rintro I0 hI0 n s ⟨k, q, _, ⟨x, rfl⟩, h1, h2, h3, rfl⟩
    repeat' (first | with_reducible refine RegQ.intro (by kernel_rfl) ?_ | ((with_reducible refine condQ_dec (fun hp => ?_) (fun hp => ?_)) <;> try simp only [hp]) | with_reducible refine condQ_beq (fun hp => ?_) (fun hp => ?_) | ((with_reducible refine wantQ_dec (fun hp => ?_) (fun hp => ?_)) <;> try simp only [hp]) | with_reducible refine wantQ_beq (fun hp => ?_) (fun hp => ?_) | ((with_reducible refine condQ_split (fun hp => ?_) (fun hp => ?_)) <;> try simp only [hp]) | ((with_reducible refine wantQ_split (fun hp => ?_) (fun hp => ?_)) <;> try simp only [hp]) | simp -implicitDefEqProofs (disch := omega) only [go_sem, Nat.reduceAdd, Nat.reduceSub, reduceCtorEq, Nat.reduceLT, Nat.reduceLeDiff, Nat.reduceEqDiff, Nat.reduceMul, Int.reduceToNat, ↓reduceIte, List.take_of_length_le, evApp_n1, evApp_i0, evApp_i1, evApp_i2, evApp_i3, evApp_i4, evApp_i5, evApp_s0, evApp_s1, evApp_s2, evApp_s3, if_pos, if_neg, decide_eq_true, decide_eq_false, beq_t, beq_f, wrap_succ, wrap_in, getD_ints, getD_intss, getD_tsrs, fillA_len, fillA_at, fillA_full, Try.ntmps69, Try.results69])
    · exact ⟨5 - (k + 1), by omega, hI0 _ _ ⟨k + 1, q ++ [-1], (), mixI rfl, by omega, by simp [h2], fun i hi => if h : i < k then by rw [List.getD_eq_getElem?_getD, List.getElem?_append_left (by omega), ← List.getD_eq_getElem?_getD]; exact h3 i h else by (have : i = q.length := by omega); subst this; simp, rfl⟩⟩
    · obtain rfl : k = 5 := by omega
      have hq := fives h2 h3
      subst hq
      clear h1 hp h2 h3
      refine LoopQ.mix (fun t0 L0 nn ss => ∃ (k : Nat) (o : List Int) (_ : Unit), (∃ x : Nat → AV, ss = ⟨mixL 0 (.k :: .k :: .k :: .k :: .s :: .s :: .k :: .k :: .v (i64 (k : Nat)) :: .s :: .s :: .k :: .k :: .k :: .k :: .k :: .k :: .k :: .k :: .s :: .s :: .s :: .s :: .s :: .s :: .s :: .s :: .s :: .s :: .s :: .s :: .s :: .s :: .s :: .s :: .s :: .s :: .s :: .s :: .s :: .s :: .s :: .s :: .s :: .s :: .s :: .s :: .s :: .s :: .s :: .s :: .s :: .s :: .s :: .s :: .s :: .s :: .s :: .s :: .s :: .s :: .s :: .s :: .s :: .s :: .s :: .s :: .s :: .s :: .s :: .s :: .s :: .s :: .s :: .s :: .s :: .s :: .s :: .s :: .s :: .s :: .s :: .s :: .s :: .s :: .s :: .s :: .s :: .s :: .s :: .s :: .s :: .k :: []) t0 x, [⟨1, o.map fun n => .int .i64 n⟩]⟩) ∧ (k ≤ l.length) ∧ (o.length = 5) ∧ (extAll (fun _ => true) o ((l.zip b).drop k) = R) ∧ nn = l.length - k) ?_ ?_
      · exact ⟨_, ⟨0, [-1, -1, -1, -1, -1], (), mixI rfl, Nat.zero_le _, rfl, hR, rfl⟩⟩
      · rintro I1 hI1 n s ⟨k, o, _, ⟨x, rfl⟩, h1, h2, h3, rfl⟩
        by_cases hlt : k < l.length
        · obtain ⟨s1, s2⟩ := b3 k hlt
          have s3 := b4 k (by omega)
          rw [zip_drop (x := ⟨[], []⟩) (y := []) hlt (by omega)] at h3
          unfold extAll at h3
          simp only [true_and] at h3
          repeat' (first | with_reducible refine RegQ.intro (by kernel_rfl) ?_ | ((with_reducible refine condQ_dec (fun hp => ?_) (fun hp => ?_)) <;> try simp only [hp]) | with_reducible refine condQ_beq (fun hp => ?_) (fun hp => ?_) | ((with_reducible refine wantQ_dec (fun hp => ?_) (fun hp => ?_)) <;> try simp only [hp]) | with_reducible refine wantQ_beq (fun hp => ?_) (fun hp => ?_) | ((with_reducible refine condQ_split (fun hp => ?_) (fun hp => ?_)) <;> try simp only [hp]) | ((with_reducible refine wantQ_split (fun hp => ?_) (fun hp => ?_)) <;> try simp only [hp]) | simp -implicitDefEqProofs (disch := omega) only [go_sem, Nat.reduceAdd, Nat.reduceSub, reduceCtorEq, Nat.reduceLT, Nat.reduceLeDiff, Nat.reduceEqDiff, Nat.reduceMul, Int.reduceToNat, ↓reduceIte, List.take_of_length_le, evApp_n1, evApp_i0, evApp_i1, evApp_i2, evApp_i3, evApp_i4, evApp_i5, evApp_s0, evApp_s1, evApp_s2, evApp_s3, if_pos, if_neg, decide_eq_true, decide_eq_false, beq_t, beq_f, wrap_succ, wrap_in, getD_ints, getD_intss, getD_tsrs, fillA_len, fillA_at, fillA_full, Try.ntmps69, Try.results69, hi, gAllIn_eq, labOK_in])
          · rw [if_pos ⟨by omega, by assumption⟩] at h3
            rename_i hle _
            generalize hE : extIn o ((b.getD k []).zip (l.getD k ⟨[], []⟩).sh) = E at h3
            refine LoopQ.mix (fun t0 L0 nn ss => ∃ (d : Nat) (q : List Int) (_ : Unit), (∃ x : Nat → AV, ss = ⟨mixL 0 (.k :: .k :: .k :: .k :: .s :: .s :: .k :: .k :: .k :: .v (i64 (d : Nat)) :: .s :: .k :: .k :: .k :: .k :: .k :: .k :: .k :: .k :: .k :: .k :: .k :: .k :: .k :: .k :: .k :: .k :: .k :: .k :: .k :: .k :: .k :: .k :: .k :: .k :: .k :: .k :: .k :: .k :: .k :: .k :: .k :: .k :: .k :: .k :: .s :: .s :: .s :: .s :: .s :: .s :: .s :: .s :: .s :: .s :: .s :: .s :: .s :: .s :: .s :: .s :: .s :: .s :: .s :: .s :: .s :: .s :: .s :: .s :: .s :: .s :: .s :: .s :: .s :: .s :: .s :: .s :: .s :: .s :: .s :: .s :: .s :: .s :: .s :: .s :: .s :: .s :: .s :: .s :: .s :: .s :: .s :: .k :: []) t0 x, [⟨1, q.map fun n => .int .i64 n⟩]⟩) ∧ (d ≤ (b.getD k []).length) ∧ (q.length = 5) ∧ (extIn q (((b.getD k []).zip (l.getD k ⟨[], []⟩).sh).drop d) = E) ∧ nn = (b.getD k []).length - d) ?_ ?_
            · exact ⟨_, ⟨0, o, (), mixI rfl, Nat.zero_le _, h2, hE, rfl⟩⟩
            · rintro I2 hI2 n s ⟨d, q, _, ⟨x, rfl⟩, g1, g2, g3, rfl⟩
              by_cases hd : d < (b.getD k []).length
              · have la := labOK_at (l := b.getD k []) (by assumption) hd
                rw [zip_drop (x := 0) (y := 0) hd (by omega)] at g3
                unfold extIn at g3
                simp only at g3
                repeat' (first | with_reducible refine RegQ.intro (by kernel_rfl) ?_ | ((with_reducible refine condQ_dec (fun hp => ?_) (fun hp => ?_)) <;> try simp only [hp]) | with_reducible refine condQ_beq (fun hp => ?_) (fun hp => ?_) | ((with_reducible refine wantQ_dec (fun hp => ?_) (fun hp => ?_)) <;> try simp only [hp]) | with_reducible refine wantQ_beq (fun hp => ?_) (fun hp => ?_) | ((with_reducible refine condQ_split (fun hp => ?_) (fun hp => ?_)) <;> try simp only [hp]) | ((with_reducible refine wantQ_split (fun hp => ?_) (fun hp => ?_)) <;> try simp only [hp]) | simp -implicitDefEqProofs (disch := omega) only [go_sem, Nat.reduceAdd, Nat.reduceSub, reduceCtorEq, Nat.reduceLT, Nat.reduceLeDiff, Nat.reduceEqDiff, Nat.reduceMul, Int.reduceToNat, ↓reduceIte, List.take_of_length_le, evApp_n1, evApp_i0, evApp_i1, evApp_i2, evApp_i3, evApp_i4, evApp_i5, evApp_s0, evApp_s1, evApp_s2, evApp_s3, if_pos, if_neg, decide_eq_true, decide_eq_false, beq_t, beq_f, wrap_succ, wrap_in, getD_ints, getD_intss, getD_tsrs, fillA_len, fillA_at, fillA_full, Try.ntmps69, Try.results69, set_ints])
                · rw [if_neg (fun h => h.2 hp)] at g3
                  exact ⟨(b.getD k []).length - (d + 1), by omega, hI2 _ _ ⟨d + 1, _, (), mixI rfl, hd, by simp [g2], g3, rfl⟩⟩
                · rw [if_pos ⟨by assumption, hp⟩] at g3
                  subst g3
                  rw [← h3]; rfl
                · rw [if_neg (fun h => hp h.1)] at g3
                  exact ⟨(b.getD k []).length - (d + 1), by omega, hI2 _ _ ⟨d + 1, _, (), mixI rfl, hd, by simp [g2], g3, rfl⟩⟩
              · obtain rfl : d = (b.getD k []).length := by omega
                rw [List.drop_of_length_le (by rw [List.length_zip]; omega)] at g3
                subst g3
                repeat' (first | with_reducible refine RegQ.intro (by kernel_rfl) ?_ | ((with_reducible refine condQ_dec (fun hp => ?_) (fun hp => ?_)) <;> try simp only [hp]) | with_reducible refine condQ_beq (fun hp => ?_) (fun hp => ?_) | ((with_reducible refine wantQ_dec (fun hp => ?_) (fun hp => ?_)) <;> try simp only [hp]) | with_reducible refine wantQ_beq (fun hp => ?_) (fun hp => ?_) | ((with_reducible refine condQ_split (fun hp => ?_) (fun hp => ?_)) <;> try simp only [hp]) | ((with_reducible refine wantQ_split (fun hp => ?_) (fun hp => ?_)) <;> try simp only [hp]) | simp -implicitDefEqProofs (disch := omega) only [go_sem, Nat.reduceAdd, Nat.reduceSub, reduceCtorEq, Nat.reduceLT, Nat.reduceLeDiff, Nat.reduceEqDiff, Nat.reduceMul, Int.reduceToNat, ↓reduceIte, List.take_of_length_le, evApp_n1, evApp_i0, evApp_i1, evApp_i2, evApp_i3, evApp_i4, evApp_i5, evApp_s0, evApp_s1, evApp_s2, evApp_s3, if_pos, if_neg, decide_eq_true, decide_eq_false, beq_t, beq_f, wrap_succ, wrap_in, getD_ints, getD_intss, getD_tsrs, fillA_len, fillA_at, fillA_full, Try.ntmps69, Try.results69])
                exact ⟨l.length - (k + 1), by omega, hI1 _ _ ⟨k + 1, _, (), mixI rfl, hlt, g2, h3, rfl⟩⟩
          · rw [if_neg (fun h => absurd (hp.symm.trans h.2) Bool.false_ne_true)] at h3
            subst h3; rfl
          · rw [if_neg (fun h => hp (by rw [h.1]))] at h3
            subst h3; rfl
        · obtain rfl : k = l.length := by omega
          rw [List.drop_of_length_le (by rw [List.length_zip]; omega)] at h3
          subst h3
          repeat' (first | with_reducible refine RegQ.intro (by kernel_rfl) ?_ | ((with_reducible refine condQ_dec (fun hp => ?_) (fun hp => ?_)) <;> try simp only [hp]) | with_reducible refine condQ_beq (fun hp => ?_) (fun hp => ?_) | ((with_reducible refine wantQ_dec (fun hp => ?_) (fun hp => ?_)) <;> try simp only [hp]) | with_reducible refine wantQ_beq (fun hp => ?_) (fun hp => ?_) | ((with_reducible refine condQ_split (fun hp => ?_) (fun hp => ?_)) <;> try simp only [hp]) | ((with_reducible refine wantQ_split (fun hp => ?_) (fun hp => ?_)) <;> try simp only [hp]) | simp -implicitDefEqProofs (disch := omega) only [go_sem, Nat.reduceAdd, Nat.reduceSub, reduceCtorEq, Nat.reduceLT, Nat.reduceLeDiff, Nat.reduceEqDiff, Nat.reduceMul, Int.reduceToNat, ↓reduceIte, List.take_of_length_le, evApp_n1, evApp_i0, evApp_i1, evApp_i2, evApp_i3, evApp_i4, evApp_i5, evApp_s0, evApp_s1, evApp_s2, evApp_s3, if_pos, if_neg, decide_eq_true, decide_eq_false, beq_t, beq_f, wrap_succ, wrap_in, getD_ints, getD_intss, getD_tsrs, fillA_len, fillA_at, fillA_full, Try.ntmps69, Try.results69])
          rfl
end Go.Proofs.Ytfjhhbpipococaa
