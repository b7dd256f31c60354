/- Contracts of functions that the laws of this seat call. -/
import Derived.Test.YtfjhhbpipococaaFf
set_option linter.all false
namespace Go.Proofs.Ytfjhhbpipococaa
open Go Go.Ev Go.RowKit Go.Ev.Enc

/-- the extents of the labels of one tensor, put into those that are known -/
def extIn : List Int → List (Int × Int) → Option (List Int)
  | out, [] => some out
  | out, x :: r => if 0 ≤ out.getD x.1.toNat 0 ∧ out.getD x.1.toNat 0 ≠ x.2 then none else extIn (out.set x.1.toNat x.2) r
def extAll (p : Tsr → Bool) : List Int → List (Tsr × List Int) → Option (List Int)
  | out, [] => some out
  | out, x :: r => if p x.1 = true ∧ x.2.length = x.1.sh.length ∧ labOK x.2 = true then (extIn out (x.2.zip x.1.sh)).bind fun o => extAll p o r else none
def extRes : Option (List Int) → List Int × Bool
  | some o => (o, true)
  | none => ([], false)
theorem extIn_len : ∀ (z : List (Int × Int)) (out o : List Int), extIn out z = some o → o.length = out.length
  | [], out, o, h => by simp [extIn] at h; rw [h]
  | x :: r, out, o, h => by
    unfold extIn at h
    split at h
    · simp at h
    · rw [extIn_len r _ _ h, List.length_set]
theorem zip_drop {α β : Type} {a : List α} {b : List β} {k : Nat} {x : α} {y : β} (ha : k < a.length) (hb : k < b.length) : (a.zip b).drop k = (a.getD k x, b.getD k y) :: (a.zip b).drop (k + 1) := by
  rw [List.drop_eq_getElem_cons (by rw [List.length_zip]; omega)]
  simp [ha, hb]
theorem labOK_at {l : List Int} (h : labOK l = true) {k : Nat} (hk : k < l.length) : 0 ≤ l.getD k 0 ∧ l.getD k 0 ≤ 4 := by
  unfold labOK at h
  rw [Bool.not_eq_true', List.any_eq_false] at h
  have := h (l.getD k 0) (by simp [hk])
  unfold notLab at this
  simp only [Bool.or_eq_true, decide_eq_true_eq, not_or] at this
  omega

def szOK (l : List Tsr) (b : List (List Int)) : Prop := l.length < 4294967296 ∧ b.length < 4294967296 ∧ (∀ k, k < l.length → (l.getD k ⟨[], []⟩).sh.length < 4294967296 ∧ (l.getD k ⟨[], []⟩).vl.length < 4294967296) ∧ (∀ k, k < b.length → (b.getD k []).length < 4294967296)
instance (l : List Tsr) (b : List (List Int)) : Decidable (szOK l b) := by unfold szOK; infer_instance
def extF (l : List Tsr) (b : List (List Int)) : Option (List Int) := if 1 ≤ l.length ∧ l.length ≤ 3 ∧ b.length = l.length then extAll tsrOK [-1, -1, -1, -1, -1] (l.zip b) else none
def gExtentsOf (l : List Tsr) (b : List (List Int)) : Option (List Int × Bool) := gd (szOK l b) (extRes (extF l b))
theorem gExtentsOf_eq {l : List Tsr} {b : List (List Int)} (h : szOK l b) : gExtentsOf l b = some (extRes (extF l b)) := gd_eq h
theorem fives {q : List Int} (h : q.length = 5) (h' : ∀ i, i < 5 → q.getD i 0 = -1) : q = [-1, -1, -1, -1, -1] := by
  match q, h with
  | [a, b, c, d, e], _ =>
    have h0 := h' 0 (by omega); have h1 := h' 1 (by omega); have h2 := h' 2 (by omega); have h3 := h' 3 (by omega); have h4 := h' 4 (by omega)
    simp at h0 h1 h2 h3 h4
    simp [h0, h1, h2, h3, h4]

set_option maxHeartbeats 2000000 in
set_option maxRecDepth 100000 in
theorem spec_extentsOf {Sg : FuncId → Option (List AV → Option AV)} (hS : Sound Try.prog Sg) (ht : Sg 62 = some (F1 gIsTensor)) (hl : Sg 50 = some (F1 gAreLabels)) : ∀ a r, F2 gExtentsOf a = some r → CSpec Try.prog 48 a r := by
  refine spec2 Try.func48 rfl Try.pf hS ?_
  intro l b r hr
  obtain ⟨⟨b1, b2, b3, b4⟩, rfl⟩ := gd_some hr
  repeat' (first | with_reducible refine RegQ.intro (by kernel_rfl) ?_ | ((with_reducible refine condQ_dec (fun hp => ?_) (fun hp => ?_)) <;> try simp only [hp]) | with_reducible refine condQ_beq (fun hp => ?_) (fun hp => ?_) | ((with_reducible refine wantQ_dec (fun hp => ?_) (fun hp => ?_)) <;> try simp only [hp]) | with_reducible refine wantQ_beq (fun hp => ?_) (fun hp => ?_) | ((with_reducible refine condQ_split (fun hp => ?_) (fun hp => ?_)) <;> try simp only [hp]) | ((with_reducible refine wantQ_split (fun hp => ?_) (fun hp => ?_)) <;> try simp only [hp]) | simp -implicitDefEqProofs (disch := omega) only [go_sem, Nat.reduceAdd, Nat.reduceSub, reduceCtorEq, Nat.reduceLT, Nat.reduceLeDiff, Nat.reduceEqDiff, Nat.reduceMul, Int.reduceToNat, ↓reduceIte, List.take_of_length_le, evApp_n1, evApp_i0, evApp_i1, evApp_i2, evApp_i3, evApp_i4, evApp_i5, evApp_s0, evApp_s1, evApp_s2, evApp_s3, if_pos, if_neg, decide_eq_true, decide_eq_false, beq_t, beq_f, wrap_succ, wrap_in, getD_ints, getD_intss, getD_tsrs, Try.ntmps48, Try.results48])
  · simp [extF, extRes, show ¬ 1 ≤ l.length by omega]
  · simp [extF, extRes, show ¬ l.length ≤ 3 by omega]
  rotate_left
  · simp [extF, extRes, show ¬ b.length = l.length by omega]
  have hF : extF l b = extAll tsrOK [-1, -1, -1, -1, -1] (l.zip b) := if_pos ⟨by omega, by omega, by omega⟩
  rw [hF]
  clear hF
  generalize hR : extAll tsrOK [-1, -1, -1, -1, -1] (l.zip b) = R
  refine LoopQ.mix (fun t0 L0 nn ss => ∃ (k : Nat) (q : List Int) (_ : Unit), (∃ x : Nat → AV, ss = ⟨mixL 0 (.k :: .k :: .k :: .k :: .k :: .k :: .k :: .s :: .k :: .k :: .k :: .k :: .k :: .k :: .k :: .k :: .k :: .k :: .k :: .k :: .k :: .k :: .k :: .k :: .k :: .k :: .k :: .k :: .k :: .k :: .v (i64 (k : Nat)) :: .s :: .s :: .s :: .s :: .s :: .s :: .k :: .k :: .k :: .k :: .k :: .k :: .k :: .k :: .k :: .k :: .k :: .k :: .k :: .k :: .k :: .k :: .k :: .k :: .k :: .k :: .k :: .k :: .k :: .k :: .k :: .k :: .k :: .k :: .k :: .k :: .k :: .k :: .k :: .k :: .k :: .k :: .k :: .k :: .k :: .k :: .k :: .k :: .k :: .k :: .k :: .k :: .k :: .k :: .k :: .k :: .k :: .k :: .k :: .k :: .k :: .k :: .k :: .k :: .k :: .k :: .k :: .k :: .k :: .k :: .k :: .k :: .k :: []) t0 x, [⟨1, q.map fun n => .int .i64 n⟩]⟩) ∧ (k ≤ 5) ∧ (q.length = 5) ∧ (∀ i, i < k → q.getD i 0 = -1) ∧ nn = 5 - k) ?_ ?_
  · exact ⟨_, ⟨0, List.replicate 5 0, (), mixI rfl, Nat.zero_le _, rfl, fun i hi => absurd hi (Nat.not_lt_zero _), rfl⟩⟩
  · rintro I0 hI0 n s ⟨k, q, _, ⟨x, rfl⟩, h1, h2, h3, rfl⟩
    repeat' (first | with_reducible refine RegQ.intro (by kernel_rfl) ?_ | ((with_reducible refine condQ_dec (fun hp => ?_) (fun hp => ?_)) <;> try simp only [hp]) | with_reducible refine condQ_beq (fun hp => ?_) (fun hp => ?_) | ((with_reducible refine wantQ_dec (fun hp => ?_) (fun hp => ?_)) <;> try simp only [hp]) | with_reducible refine wantQ_beq (fun hp => ?_) (fun hp => ?_) | ((with_reducible refine condQ_split (fun hp => ?_) (fun hp => ?_)) <;> try simp only [hp]) | ((with_reducible refine wantQ_split (fun hp => ?_) (fun hp => ?_)) <;> try simp only [hp]) | simp -implicitDefEqProofs (disch := omega) only [go_sem, Nat.reduceAdd, Nat.reduceSub, reduceCtorEq, Nat.reduceLT, Nat.reduceLeDiff, Nat.reduceEqDiff, Nat.reduceMul, Int.reduceToNat, ↓reduceIte, List.take_of_length_le, evApp_n1, evApp_i0, evApp_i1, evApp_i2, evApp_i3, evApp_i4, evApp_i5, evApp_s0, evApp_s1, evApp_s2, evApp_s3, if_pos, if_neg, decide_eq_true, decide_eq_false, beq_t, beq_f, wrap_succ, wrap_in, getD_ints, getD_intss, getD_tsrs, Try.ntmps48, Try.results48, set_ints])
    · exact ⟨5 - (k + 1), by omega, hI0 _ _ ⟨k + 1, q.set k (-1), (), mixI rfl, by omega, by simp [h2], by intro i hi; rw [getD_set]; split; rfl; exact h3 i (by omega), rfl⟩⟩
    · obtain rfl : k = 5 := by omega
      have hq := fives h2 h3
      subst hq
      clear h1 hp h2 h3
      refine LoopQ.mixG 1 (fun t0 L0 nn ss => ∃ (k : Nat) (o : List Int) (_ : Unit), (∃ x : Nat → AV, ss = ⟨mixL 0 (.k :: .k :: .k :: .k :: .s :: .s :: .k :: .s :: .s :: .s :: .s :: .s :: .k :: .k :: .k :: .k :: .k :: .k :: .k :: .k :: .k :: .k :: .k :: .k :: .k :: .k :: .k :: .k :: .k :: .k :: .k :: .s :: .s :: .s :: .s :: .s :: .s :: .k :: .k :: .v (i64 (k : Nat)) :: .s :: .s :: .s :: .s :: .s :: .s :: .s :: .s :: .s :: .s :: .s :: .s :: .s :: .s :: .s :: .s :: .s :: .s :: .s :: .s :: .s :: .s :: .s :: .s :: .s :: .s :: .s :: .s :: .s :: .s :: .s :: .s :: .s :: .s :: .s :: .s :: .s :: .s :: .s :: .s :: .s :: .s :: .s :: .s :: .s :: .s :: .s :: .s :: .s :: .s :: .s :: .s :: .s :: .s :: .s :: .s :: .s :: .s :: .s :: .s :: .s :: .s :: .s :: .k :: []) t0 x, [⟨1, o.map fun n => .int .i64 n⟩]⟩) ∧ (k ≤ l.length) ∧ (o.length = 5) ∧ (extAll tsrOK o ((l.zip b).drop k) = R) ∧ nn = l.length - k) (by simp) ?_ ?_
      · exact ⟨_, ⟨0, [-1, -1, -1, -1, -1], (), mixI rfl, Nat.zero_le _, rfl, hR, rfl⟩⟩
      · rintro I1 hI1 n s ⟨k, o, _, ⟨x, rfl⟩, h1, h2, h3, rfl⟩
        by_cases hlt : k < l.length
        · obtain ⟨s1, s2⟩ := b3 k hlt
          have s3 := b4 k (by omega)
          rw [zip_drop (x := ⟨[], []⟩) (y := []) hlt (by omega)] at h3
          unfold extAll at h3
          simp only at h3
          repeat' (first | with_reducible refine RegQ.intro (by kernel_rfl) ?_ | ((with_reducible refine condQ_dec (fun hp => ?_) (fun hp => ?_)) <;> try simp only [hp]) | with_reducible refine condQ_beq (fun hp => ?_) (fun hp => ?_) | ((with_reducible refine wantQ_dec (fun hp => ?_) (fun hp => ?_)) <;> try simp only [hp]) | with_reducible refine wantQ_beq (fun hp => ?_) (fun hp => ?_) | ((with_reducible refine condQ_split (fun hp => ?_) (fun hp => ?_)) <;> try simp only [hp]) | ((with_reducible refine wantQ_split (fun hp => ?_) (fun hp => ?_)) <;> try simp only [hp]) | simp -implicitDefEqProofs (disch := omega) only [go_sem, Nat.reduceAdd, Nat.reduceSub, reduceCtorEq, Nat.reduceLT, Nat.reduceLeDiff, Nat.reduceEqDiff, Nat.reduceMul, Int.reduceToNat, ↓reduceIte, List.take_of_length_le, evApp_n1, evApp_i0, evApp_i1, evApp_i2, evApp_i3, evApp_i4, evApp_i5, evApp_s0, evApp_s1, evApp_s2, evApp_s3, if_pos, if_neg, decide_eq_true, decide_eq_false, beq_t, beq_f, wrap_succ, wrap_in, getD_ints, getD_intss, getD_tsrs, Try.ntmps48, Try.results48, ht, hl, gIsTensor_eq, gAreLabels_eq])
          · rw [if_pos ⟨by assumption, by omega, by assumption⟩] at h3
            rename_i hle _
            generalize hE : extIn o ((b.getD k []).zip (l.getD k ⟨[], []⟩).sh) = E at h3
            refine LoopQ.mix (fun t0 L0 nn ss => ∃ (d : Nat) (q : List Int) (_ : Unit), (∃ x : Nat → AV, ss = ⟨mixL 0 (.k :: .k :: .k :: .k :: .s :: .s :: .k :: .k :: .k :: .k :: .s :: .s :: .k :: .k :: .k :: .k :: .k :: .k :: .k :: .k :: .k :: .k :: .k :: .k :: .k :: .k :: .k :: .k :: .k :: .k :: .k :: .k :: .k :: .k :: .k :: .k :: .k :: .k :: .k :: .k :: .k :: .k :: .k :: .k :: .k :: .k :: .k :: .k :: .k :: .k :: .k :: .k :: .k :: .k :: .k :: .k :: .k :: .k :: .k :: .k :: .k :: .k :: .k :: .k :: .k :: .k :: .k :: .k :: .k :: .k :: .k :: .v (i64 (d : Nat)) :: .s :: .s :: .s :: .s :: .s :: .s :: .s :: .s :: .s :: .s :: .s :: .s :: .s :: .s :: .s :: .s :: .s :: .s :: .s :: .s :: .s :: .s :: .s :: .s :: .s :: .s :: .s :: .s :: .s :: .s :: .k :: .k :: []) t0 x, [⟨1, q.map fun n => .int .i64 n⟩, ⟨2, [.agg [ints 0 (l.getD k ⟨[], []⟩).sh, ints 0 (l.getD k ⟨[], []⟩).vl]]⟩]⟩) ∧ (d ≤ (b.getD k []).length) ∧ (q.length = 5) ∧ (extIn q (((b.getD k []).zip (l.getD k ⟨[], []⟩).sh).drop d) = E) ∧ nn = (b.getD k []).length - d) ?_ ?_
            · exact ⟨_, ⟨0, o, (), mixI rfl, Nat.zero_le _, h2, hE, rfl⟩⟩
            · rintro I2 hI2 n s ⟨d, q, _, ⟨x, rfl⟩, g1, g2, g3, rfl⟩
              by_cases hd : d < (b.getD k []).length
              · have la := labOK_at (l := b.getD k []) (by assumption) hd
                rw [zip_drop (x := 0) (y := 0) hd (by omega)] at g3
                unfold extIn at g3
                simp only at g3
                repeat' (first | with_reducible refine RegQ.intro (by kernel_rfl) ?_ | ((with_reducible refine condQ_dec (fun hp => ?_) (fun hp => ?_)) <;> try simp only [hp]) | with_reducible refine condQ_beq (fun hp => ?_) (fun hp => ?_) | ((with_reducible refine wantQ_dec (fun hp => ?_) (fun hp => ?_)) <;> try simp only [hp]) | with_reducible refine wantQ_beq (fun hp => ?_) (fun hp => ?_) | ((with_reducible refine condQ_split (fun hp => ?_) (fun hp => ?_)) <;> try simp only [hp]) | ((with_reducible refine wantQ_split (fun hp => ?_) (fun hp => ?_)) <;> try simp only [hp]) | simp -implicitDefEqProofs (disch := omega) only [go_sem, Nat.reduceAdd, Nat.reduceSub, reduceCtorEq, Nat.reduceLT, Nat.reduceLeDiff, Nat.reduceEqDiff, Nat.reduceMul, Int.reduceToNat, ↓reduceIte, List.take_of_length_le, evApp_n1, evApp_i0, evApp_i1, evApp_i2, evApp_i3, evApp_i4, evApp_i5, evApp_s0, evApp_s1, evApp_s2, evApp_s3, if_pos, if_neg, decide_eq_true, decide_eq_false, beq_t, beq_f, wrap_succ, wrap_in, getD_ints, getD_intss, getD_tsrs, Try.ntmps48, Try.results48, ht, hl, gIsTensor_eq, gAreLabels_eq, set_ints])
                · rw [if_neg (fun h => h.2 hp)] at g3
                  exact ⟨(b.getD k []).length - (d + 1), by omega, hI2 _ _ ⟨d + 1, _, (), mixI rfl, hd, by simp [g2], g3, rfl⟩⟩
                · rw [if_pos ⟨by assumption, hp⟩] at g3
                  subst g3
                  rw [← h3]; rfl
                · rw [if_neg (fun h => hp h.1)] at g3
                  exact ⟨(b.getD k []).length - (d + 1), by omega, hI2 _ _ ⟨d + 1, _, (), mixI rfl, hd, by simp [g2], g3, rfl⟩⟩
              · obtain rfl : d = (b.getD k []).length := by omega
                rw [List.drop_of_length_le (by rw [List.length_zip]; omega)] at g3
                subst g3
                repeat' (first | with_reducible refine RegQ.intro (by kernel_rfl) ?_ | ((with_reducible refine condQ_dec (fun hp => ?_) (fun hp => ?_)) <;> try simp only [hp]) | with_reducible refine condQ_beq (fun hp => ?_) (fun hp => ?_) | ((with_reducible refine wantQ_dec (fun hp => ?_) (fun hp => ?_)) <;> try simp only [hp]) | with_reducible refine wantQ_beq (fun hp => ?_) (fun hp => ?_) | ((with_reducible refine condQ_split (fun hp => ?_) (fun hp => ?_)) <;> try simp only [hp]) | ((with_reducible refine wantQ_split (fun hp => ?_) (fun hp => ?_)) <;> try simp only [hp]) | simp -implicitDefEqProofs (disch := omega) only [go_sem, Nat.reduceAdd, Nat.reduceSub, reduceCtorEq, Nat.reduceLT, Nat.reduceLeDiff, Nat.reduceEqDiff, Nat.reduceMul, Int.reduceToNat, ↓reduceIte, List.take_of_length_le, evApp_n1, evApp_i0, evApp_i1, evApp_i2, evApp_i3, evApp_i4, evApp_i5, evApp_s0, evApp_s1, evApp_s2, evApp_s3, if_pos, if_neg, decide_eq_true, decide_eq_false, beq_t, beq_f, wrap_succ, wrap_in, getD_ints, getD_intss, getD_tsrs, Try.ntmps48, Try.results48])
                exact ⟨l.length - (k + 1), by omega, hI1 _ _ ⟨k + 1, _, (), mixI rfl, hlt, g2, h3, rfl⟩⟩
          · rw [if_neg (fun h => absurd (hp.symm.trans h.2.2) Bool.false_ne_true)] at h3
            subst h3; rfl
          · rw [if_neg (fun h => hp (by rw [h.2.1]))] at h3
            subst h3; rfl
          · rw [if_neg (fun h => absurd (hp.symm.trans h.1) Bool.false_ne_true)] at h3
            subst h3; rfl
        · obtain rfl : k = l.length := by omega
          rw [List.drop_of_length_le (by rw [List.length_zip]; omega)] at h3
          subst h3
          repeat' (first | with_reducible refine RegQ.intro (by kernel_rfl) ?_ | ((with_reducible refine condQ_dec (fun hp => ?_) (fun hp => ?_)) <;> try simp only [hp]) | with_reducible refine condQ_beq (fun hp => ?_) (fun hp => ?_) | ((with_reducible refine wantQ_dec (fun hp => ?_) (fun hp => ?_)) <;> try simp only [hp]) | with_reducible refine wantQ_beq (fun hp => ?_) (fun hp => ?_) | ((with_reducible refine condQ_split (fun hp => ?_) (fun hp => ?_)) <;> try simp only [hp]) | ((with_reducible refine wantQ_split (fun hp => ?_) (fun hp => ?_)) <;> try simp only [hp]) | simp -implicitDefEqProofs (disch := omega) only [go_sem, Nat.reduceAdd, Nat.reduceSub, reduceCtorEq, Nat.reduceLT, Nat.reduceLeDiff, Nat.reduceEqDiff, Nat.reduceMul, Int.reduceToNat, ↓reduceIte, List.take_of_length_le, evApp_n1, evApp_i0, evApp_i1, evApp_i2, evApp_i3, evApp_i4, evApp_i5, evApp_s0, evApp_s1, evApp_s2, evApp_s3, if_pos, if_neg, decide_eq_true, decide_eq_false, beq_t, beq_f, wrap_succ, wrap_in, getD_ints, getD_intss, getD_tsrs, Try.ntmps48, Try.results48])
          rfl
end Go.Proofs.Ytfjhhbpipococaa
