/- Contracts of functions that the laws of this seat call. -/
import Derived.Test.YtfjhhbpipococaaFg
set_option linter.all false
namespace Go.Proofs.Ytfjhhbpipococaa
open Go Go.Ev Go.RowKit Go.Ev.Enc

theorem drop_getD {α : Type} {l : List α} {k : Nat} {d : α} (h : k < l.length) : l.drop k = l.getD k d :: l.drop (k + 1) := by
  rw [List.drop_eq_getElem_cons h]; simp [h]
theorem list_ext {α : Type} {a b : List α} {d : α} (h : a.length = b.length) (hi : ∀ i, i < a.length → a.getD i d = b.getD i d) : a = b := by
  refine List.ext_getElem h fun i h1 h2 => ?_
  have := hi i h1
  simpa [h1, h2] using this
theorem ints_ext {a b : List Int} (h : a.length = b.length) (hi : ∀ i, i < a.length → a.getD i 0 = b.getD i 0) : a = b := list_ext h hi
/-- a new slice, filled up to k -/
def fillA {α : Type} (f : α → AV) (l : List α) (k : Nat) (z : AV) : List AV := (l.take k).map f ++ List.replicate (l.length - k) z
theorem fillA_len {α : Type} {f : α → AV} {l : List α} {k : Nat} {z : AV} (h : k ≤ l.length) : (fillA f l k z).length = l.length := by
  simp [fillA]; omega
theorem fillA_at {α : Type} {f : α → AV} {l : List α} {k : Nat} {z : AV} (h : k < l.length) : (fillA f l k z).getD k .any = z := by
  unfold fillA
  have e : k - ((l.take k).map f).length = 0 := by simp; omega
  rw [List.getD_eq_getElem?_getD, List.getElem?_append_right (by simp; omega), e, show l.length - k = (l.length - (k + 1)) + 1 by omega, List.replicate_succ]
  rfl
theorem fillA_set {α : Type} {f : α → AV} {l : List α} {k : Nat} {z : AV} {d : α} (h : k < l.length) : (fillA f l k z).set k (f (l.getD k d)) = fillA f l (k + 1) z := by
  unfold fillA
  rw [List.set_append_right _ _ (by simp; omega)]
  have e : k - ((l.take k).map f).length = 0 := by simp; omega
  rw [e, show l.length - k = (l.length - (k + 1)) + 1 by omega, List.replicate_succ, List.set_cons_zero, List.take_succ_eq_append_getElem h, List.map_append]
  simp [h]
theorem fillA_full {α : Type} {f : α → AV} {l : List α} {z : AV} : fillA f l l.length z = l.map f := by simp [fillA]
theorem fillA_zero {α : Type} {f : α → AV} {l : List α} {z : AV} : fillA f l 0 z = List.replicate l.length z := by simp [fillA]

def szI (n : Nat) (left : Int) : Int := if left < n then -1 else left - n
def gSzInts (l : List Int) (left : Int) : Option Int := gd (l.length < 9223372036854775808 ∧ 0 ≤ left ∧ left ≤ 1048576) (szI l.length left)
theorem gSzInts_eq {l : List Int} {left : Int} (h : l.length < 9223372036854775808 ∧ 0 ≤ left ∧ left ≤ 1048576) : gSzInts l left = some (szI l.length left) := gd_eq h
theorem szI_neg {n : Nat} {left : Int} (h : left < n) : szI n left = -1 := if_pos h
theorem szI_m1 {n : Nat} {left : Int} (h : szI n left < 0) : szI n left = -1 := by
  by_cases hc : left < n
  · exact if_pos hc
  · unfold szI at h ⊢
    rw [if_neg hc] at h
    omega
theorem szI_pos {n : Nat} {left : Int} (h : ¬ left < n) : szI n left = left - n := if_neg h
set_option maxHeartbeats 2000000 in
set_option maxRecDepth 100000 in
theorem spec_szIntS {Sg : FuncId → Option (List AV → Option AV)} (hS : Sound Try.prog Sg) : ∀ a r, F2 gSzInts a = some r → CSpec Try.prog 41 a r := by
  refine spec2 Try.func41 rfl Try.pf hS ?_
  intro l left r hr
  obtain ⟨⟨h1, h2, h3⟩, rfl⟩ := gd_some hr
  repeat' (first | with_reducible refine RegQ.intro (by kernel_rfl) ?_ | ((with_reducible refine condQ_dec (fun hp => ?_) (fun hp => ?_)) <;> try simp only [hp]) | with_reducible refine condQ_beq (fun hp => ?_) (fun hp => ?_) | ((with_reducible refine wantQ_dec (fun hp => ?_) (fun hp => ?_)) <;> try simp only [hp]) | with_reducible refine wantQ_beq (fun hp => ?_) (fun hp => ?_) | ((with_reducible refine condQ_split (fun hp => ?_) (fun hp => ?_)) <;> try simp only [hp]) | ((with_reducible refine wantQ_split (fun hp => ?_) (fun hp => ?_)) <;> try simp only [hp]) | simp -implicitDefEqProofs (disch := omega) only [go_sem, Nat.reduceAdd, Nat.reduceSub, reduceCtorEq, Nat.reduceLT, Nat.reduceLeDiff, Nat.reduceEqDiff, Nat.reduceMul, Int.reduceToNat, ↓reduceIte, List.take_of_length_le, evApp_n1, evApp_i0, evApp_i1, evApp_i2, evApp_i3, evApp_i4, evApp_i5, evApp_s0, evApp_s1, evApp_s2, evApp_s3, if_pos, if_neg, decide_eq_true, decide_eq_false, beq_t, beq_f, wrap_succ, wrap_in, getD_ints, getD_intss, getD_tsrs, fillA_len, fillA_at, fillA_full, Try.ntmps41, Try.results41])
  · rw [szI_neg (by omega)]
  · rw [szI_pos (by omega)]

def gToInts (l : List Int) : Option (List Int) := gd (l.length < 4294967296) l
theorem gToInts_eq {l : List Int} (h : l.length < 4294967296) : gToInts l = some l := gd_eq h
set_option maxHeartbeats 2000000 in
set_option maxRecDepth 100000 in
theorem spec_toIntS {Sg : FuncId → Option (List AV → Option AV)} (hS : Sound Try.prog Sg) : ∀ a r, F1 gToInts a = some r → CSpec Try.prog 13 a r := by
  refine spec1 Try.func13 rfl Try.pf hS ?_
  intro l r hr
  obtain ⟨h1, rfl⟩ := gd_some hr
  repeat' (first | with_reducible refine RegQ.intro (by kernel_rfl) ?_ | ((with_reducible refine condQ_dec (fun hp => ?_) (fun hp => ?_)) <;> try simp only [hp]) | with_reducible refine condQ_beq (fun hp => ?_) (fun hp => ?_) | ((with_reducible refine wantQ_dec (fun hp => ?_) (fun hp => ?_)) <;> try simp only [hp]) | with_reducible refine wantQ_beq (fun hp => ?_) (fun hp => ?_) | ((with_reducible refine condQ_split (fun hp => ?_) (fun hp => ?_)) <;> try simp only [hp]) | ((with_reducible refine wantQ_split (fun hp => ?_) (fun hp => ?_)) <;> try simp only [hp]) | simp -implicitDefEqProofs (disch := omega) only [go_sem, Nat.reduceAdd, Nat.reduceSub, reduceCtorEq, Nat.reduceLT, Nat.reduceLeDiff, Nat.reduceEqDiff, Nat.reduceMul, Int.reduceToNat, ↓reduceIte, List.take_of_length_le, evApp_n1, evApp_i0, evApp_i1, evApp_i2, evApp_i3, evApp_i4, evApp_i5, evApp_s0, evApp_s1, evApp_s2, evApp_s3, if_pos, if_neg, decide_eq_true, decide_eq_false, beq_t, beq_f, wrap_succ, wrap_in, getD_ints, getD_intss, getD_tsrs, fillA_len, fillA_at, fillA_full, Try.ntmps13, Try.results13])
  refine LoopQ.mix (fun t0 L0 nn ss => ∃ (k : Nat) (_ : Unit), (∃ x : Nat → AV, ss = ⟨mixL 0 (.k :: .k :: .k :: .k :: .v (i64 (k : Nat)) :: .k :: .k :: .k :: .s :: .s :: .s :: .s :: .s :: .s :: .s :: .s :: .s :: .s :: .s :: .s :: .s :: .k :: []) t0 x, [⟨1, fillA (fun n => .int .i64 n) l k (.int .i64 0)⟩]⟩) ∧ (k ≤ l.length) ∧ nn = l.length - k) ?_ ?_
  · exact ⟨_, ⟨0, (), mixJ rfl (by rw [fillA_zero, rep_ints]), Nat.zero_le _, rfl⟩⟩
  · rintro I0 hI0 n s ⟨k, _, ⟨x, rfl⟩, h1, rfl⟩
    by_cases hlt : k < l.length
    · repeat' (first | with_reducible refine RegQ.intro (by kernel_rfl) ?_ | ((with_reducible refine condQ_dec (fun hp => ?_) (fun hp => ?_)) <;> try simp only [hp]) | with_reducible refine condQ_beq (fun hp => ?_) (fun hp => ?_) | ((with_reducible refine wantQ_dec (fun hp => ?_) (fun hp => ?_)) <;> try simp only [hp]) | with_reducible refine wantQ_beq (fun hp => ?_) (fun hp => ?_) | ((with_reducible refine condQ_split (fun hp => ?_) (fun hp => ?_)) <;> try simp only [hp]) | ((with_reducible refine wantQ_split (fun hp => ?_) (fun hp => ?_)) <;> try simp only [hp]) | simp -implicitDefEqProofs (disch := omega) only [go_sem, Nat.reduceAdd, Nat.reduceSub, reduceCtorEq, Nat.reduceLT, Nat.reduceLeDiff, Nat.reduceEqDiff, Nat.reduceMul, Int.reduceToNat, ↓reduceIte, List.take_of_length_le, evApp_n1, evApp_i0, evApp_i1, evApp_i2, evApp_i3, evApp_i4, evApp_i5, evApp_s0, evApp_s1, evApp_s2, evApp_s3, if_pos, if_neg, decide_eq_true, decide_eq_false, beq_t, beq_f, wrap_succ, wrap_in, getD_ints, getD_intss, getD_tsrs, fillA_len, fillA_at, fillA_full, Try.ntmps13, Try.results13, fillA_set (f := fun n => AV.int .i64 n)])
      exact ⟨l.length - (k + 1), by omega, hI0 _ _ ⟨k + 1, (), mixI rfl, hlt, rfl⟩⟩
    · obtain rfl : k = l.length := by omega
      repeat' (first | with_reducible refine RegQ.intro (by kernel_rfl) ?_ | ((with_reducible refine condQ_dec (fun hp => ?_) (fun hp => ?_)) <;> try simp only [hp]) | with_reducible refine condQ_beq (fun hp => ?_) (fun hp => ?_) | ((with_reducible refine wantQ_dec (fun hp => ?_) (fun hp => ?_)) <;> try simp only [hp]) | with_reducible refine wantQ_beq (fun hp => ?_) (fun hp => ?_) | ((with_reducible refine condQ_split (fun hp => ?_) (fun hp => ?_)) <;> try simp only [hp]) | ((with_reducible refine wantQ_split (fun hp => ?_) (fun hp => ?_)) <;> try simp only [hp]) | simp -implicitDefEqProofs (disch := omega) only [go_sem, Nat.reduceAdd, Nat.reduceSub, reduceCtorEq, Nat.reduceLT, Nat.reduceLeDiff, Nat.reduceEqDiff, Nat.reduceMul, Int.reduceToNat, ↓reduceIte, List.take_of_length_le, evApp_n1, evApp_i0, evApp_i1, evApp_i2, evApp_i3, evApp_i4, evApp_i5, evApp_s0, evApp_s1, evApp_s2, evApp_s3, if_pos, if_neg, decide_eq_true, decide_eq_false, beq_t, beq_f, wrap_succ, wrap_in, getD_ints, getD_intss, getD_tsrs, fillA_len, fillA_at, fillA_full, Try.ntmps13, Try.results13])

theorem enc1_intss (l : List (List Int)) : l.map (fun r => AV.ds 1 (r.map fun n => .int .i64 n)) = l.map (fun r => AV.ds 1 (r.map fun n => .int .i64 n)) := rfl
def rowsOK (l : List (List Int)) : Prop := ∀ k, k < l.length → (l.getD k []).length < 4294967296
instance (l : List (List Int)) : Decidable (rowsOK l) := by unfold rowsOK; infer_instance
def gToIntss (l : List (List Int)) : Option (List (List Int)) := gd (l.length < 4294967296 ∧ rowsOK l) l
theorem gToIntss_eq {l : List (List Int)} (h : l.length < 4294967296 ∧ rowsOK l) : gToIntss l = some l := gd_eq h
set_option maxHeartbeats 2000000 in
set_option maxRecDepth 100000 in
theorem spec_toIntSS {Sg : FuncId → Option (List AV → Option AV)} (hS : Sound Try.prog Sg) (hc : Sg 13 = some (F1 gToInts)) : ∀ a r, F1 gToIntss a = some r → CSpec Try.prog 12 a r := by
  refine spec1 Try.func12 rfl Try.pf hS ?_
  intro l r hr
  obtain ⟨⟨h1, h2⟩, rfl⟩ := gd_some hr
  repeat' (first | with_reducible refine RegQ.intro (by kernel_rfl) ?_ | ((with_reducible refine condQ_dec (fun hp => ?_) (fun hp => ?_)) <;> try simp only [hp]) | with_reducible refine condQ_beq (fun hp => ?_) (fun hp => ?_) | ((with_reducible refine wantQ_dec (fun hp => ?_) (fun hp => ?_)) <;> try simp only [hp]) | with_reducible refine wantQ_beq (fun hp => ?_) (fun hp => ?_) | ((with_reducible refine condQ_split (fun hp => ?_) (fun hp => ?_)) <;> try simp only [hp]) | ((with_reducible refine wantQ_split (fun hp => ?_) (fun hp => ?_)) <;> try simp only [hp]) | simp -implicitDefEqProofs (disch := omega) only [go_sem, Nat.reduceAdd, Nat.reduceSub, reduceCtorEq, Nat.reduceLT, Nat.reduceLeDiff, Nat.reduceEqDiff, Nat.reduceMul, Int.reduceToNat, ↓reduceIte, List.take_of_length_le, evApp_n1, evApp_i0, evApp_i1, evApp_i2, evApp_i3, evApp_i4, evApp_i5, evApp_s0, evApp_s1, evApp_s2, evApp_s3, if_pos, if_neg, decide_eq_true, decide_eq_false, beq_t, beq_f, wrap_succ, wrap_in, getD_ints, getD_intss, getD_tsrs, fillA_len, fillA_at, fillA_full, Try.ntmps12, Try.results12])
  refine LoopQ.mix (fun t0 L0 nn ss => ∃ (k : Nat) (_ : Unit), (∃ x : Nat → AV, ss = ⟨mixL 0 (.k :: .k :: .k :: .k :: .v (i64 (k : Nat)) :: .k :: .k :: .k :: .s :: .s :: .s :: .s :: .s :: .s :: .s :: .s :: .s :: .s :: .s :: .s :: .s :: .s :: .k :: []) t0 x, [⟨1, fillA (fun (r : List Int) => .ds 1 (r.map fun n => .int .i64 n)) l k .nilS⟩]⟩) ∧ (k ≤ l.length) ∧ nn = l.length - k) ?_ ?_
  · exact ⟨_, ⟨0, (), mixJ rfl (by rw [fillA_zero]), Nat.zero_le _, rfl⟩⟩
  · rintro I0 hI0 n s ⟨k, _, ⟨x, rfl⟩, h1, rfl⟩
    by_cases hlt : k < l.length
    · have g2 := h2 k hlt
      repeat' (first | with_reducible refine RegQ.intro (by kernel_rfl) ?_ | ((with_reducible refine condQ_dec (fun hp => ?_) (fun hp => ?_)) <;> try simp only [hp]) | with_reducible refine condQ_beq (fun hp => ?_) (fun hp => ?_) | ((with_reducible refine wantQ_dec (fun hp => ?_) (fun hp => ?_)) <;> try simp only [hp]) | with_reducible refine wantQ_beq (fun hp => ?_) (fun hp => ?_) | ((with_reducible refine condQ_split (fun hp => ?_) (fun hp => ?_)) <;> try simp only [hp]) | ((with_reducible refine wantQ_split (fun hp => ?_) (fun hp => ?_)) <;> try simp only [hp]) | simp -implicitDefEqProofs (disch := omega) only [go_sem, Nat.reduceAdd, Nat.reduceSub, reduceCtorEq, Nat.reduceLT, Nat.reduceLeDiff, Nat.reduceEqDiff, Nat.reduceMul, Int.reduceToNat, ↓reduceIte, List.take_of_length_le, evApp_n1, evApp_i0, evApp_i1, evApp_i2, evApp_i3, evApp_i4, evApp_i5, evApp_s0, evApp_s1, evApp_s2, evApp_s3, if_pos, if_neg, decide_eq_true, decide_eq_false, beq_t, beq_f, wrap_succ, wrap_in, getD_ints, getD_intss, getD_tsrs, fillA_len, fillA_at, fillA_full, Try.ntmps12, Try.results12, hc, gToInts_eq, fillA_set (f := fun (r : List Int) => AV.ds 1 (r.map fun n => .int .i64 n))])
      exact ⟨l.length - (k + 1), by omega, hI0 _ _ ⟨k + 1, (), mixI rfl, hlt, rfl⟩⟩
    · obtain rfl : k = l.length := by omega
      repeat' (first | with_reducible refine RegQ.intro (by kernel_rfl) ?_ | ((with_reducible refine condQ_dec (fun hp => ?_) (fun hp => ?_)) <;> try simp only [hp]) | with_reducible refine condQ_beq (fun hp => ?_) (fun hp => ?_) | ((with_reducible refine wantQ_dec (fun hp => ?_) (fun hp => ?_)) <;> try simp only [hp]) | with_reducible refine wantQ_beq (fun hp => ?_) (fun hp => ?_) | ((with_reducible refine condQ_split (fun hp => ?_) (fun hp => ?_)) <;> try simp only [hp]) | ((with_reducible refine wantQ_split (fun hp => ?_) (fun hp => ?_)) <;> try simp only [hp]) | simp -implicitDefEqProofs (disch := omega) only [go_sem, Nat.reduceAdd, Nat.reduceSub, reduceCtorEq, Nat.reduceLT, Nat.reduceLeDiff, Nat.reduceEqDiff, Nat.reduceMul, Int.reduceToNat, ↓reduceIte, List.take_of_length_le, evApp_n1, evApp_i0, evApp_i1, evApp_i2, evApp_i3, evApp_i4, evApp_i5, evApp_s0, evApp_s1, evApp_s2, evApp_s3, if_pos, if_neg, decide_eq_true, decide_eq_false, beq_t, beq_f, wrap_succ, wrap_in, getD_ints, getD_intss, getD_tsrs, fillA_len, fillA_at, fillA_full, Try.ntmps12, Try.results12])

def tsrB (x : Tsr) : Prop := x.sh.length < 4294967296 ∧ x.vl.length < 4294967296
instance (x : Tsr) : Decidable (tsrB x) := by unfold tsrB; infer_instance
def gToTsr (x : Tsr) : Option Tsr := gd (tsrB x) x
theorem gToTsr_eq {x : Tsr} (h : tsrB x) : gToTsr x = some x := gd_eq h
set_option maxHeartbeats 2000000 in
set_option maxRecDepth 100000 in
theorem spec_toTensor {Sg : FuncId → Option (List AV → Option AV)} (hS : Sound Try.prog Sg) (hc : Sg 13 = some (F1 gToInts)) : ∀ a r, F1 gToTsr a = some r → CSpec Try.prog 47 a r := by
  refine spec1 Try.func47 rfl Try.pf hS ?_
  intro l r hr
  obtain ⟨⟨h1, h2⟩, rfl⟩ := gd_some hr
  repeat' (first | with_reducible refine RegQ.intro (by kernel_rfl) ?_ | ((with_reducible refine condQ_dec (fun hp => ?_) (fun hp => ?_)) <;> try simp only [hp]) | with_reducible refine condQ_beq (fun hp => ?_) (fun hp => ?_) | ((with_reducible refine wantQ_dec (fun hp => ?_) (fun hp => ?_)) <;> try simp only [hp]) | with_reducible refine wantQ_beq (fun hp => ?_) (fun hp => ?_) | ((with_reducible refine condQ_split (fun hp => ?_) (fun hp => ?_)) <;> try simp only [hp]) | ((with_reducible refine wantQ_split (fun hp => ?_) (fun hp => ?_)) <;> try simp only [hp]) | simp -implicitDefEqProofs (disch := omega) only [go_sem, Nat.reduceAdd, Nat.reduceSub, reduceCtorEq, Nat.reduceLT, Nat.reduceLeDiff, Nat.reduceEqDiff, Nat.reduceMul, Int.reduceToNat, ↓reduceIte, List.take_of_length_le, evApp_n1, evApp_i0, evApp_i1, evApp_i2, evApp_i3, evApp_i4, evApp_i5, evApp_s0, evApp_s1, evApp_s2, evApp_s3, if_pos, if_neg, decide_eq_true, decide_eq_false, beq_t, beq_f, wrap_succ, wrap_in, getD_ints, getD_intss, getD_tsrs, fillA_len, fillA_at, fillA_full, Try.ntmps47, Try.results47, hc, gToInts_eq])
def gEqInts (a b : List Int) : Option Bool := gd (a.length < 4294967296 ∧ b.length < 4294967296) (decide (a = b))
theorem gEqInts_eq {a b : List Int} (h : a.length < 4294967296 ∧ b.length < 4294967296) : gEqInts a b = some (decide (a = b)) := gd_eq h
set_option maxHeartbeats 2000000 in
set_option maxRecDepth 100000 in
theorem spec_eqIntS {Sg : FuncId → Option (List AV → Option AV)} (hS : Sound Try.prog Sg) : ∀ a r, F2 gEqInts a = some r → CSpec Try.prog 18 a r := by
  refine spec2 Try.func18 rfl Try.pf hS ?_
  intro a b r hr
  obtain ⟨⟨h1, h2⟩, rfl⟩ := gd_some hr
  repeat' (first | with_reducible refine RegQ.intro (by kernel_rfl) ?_ | ((with_reducible refine condQ_dec (fun hp => ?_) (fun hp => ?_)) <;> try simp only [hp]) | with_reducible refine condQ_beq (fun hp => ?_) (fun hp => ?_) | ((with_reducible refine wantQ_dec (fun hp => ?_) (fun hp => ?_)) <;> try simp only [hp]) | with_reducible refine wantQ_beq (fun hp => ?_) (fun hp => ?_) | ((with_reducible refine condQ_split (fun hp => ?_) (fun hp => ?_)) <;> try simp only [hp]) | ((with_reducible refine wantQ_split (fun hp => ?_) (fun hp => ?_)) <;> try simp only [hp]) | simp -implicitDefEqProofs (disch := omega) only [go_sem, Nat.reduceAdd, Nat.reduceSub, reduceCtorEq, Nat.reduceLT, Nat.reduceLeDiff, Nat.reduceEqDiff, Nat.reduceMul, Int.reduceToNat, ↓reduceIte, List.take_of_length_le, evApp_n1, evApp_i0, evApp_i1, evApp_i2, evApp_i3, evApp_i4, evApp_i5, evApp_s0, evApp_s1, evApp_s2, evApp_s3, if_pos, if_neg, decide_eq_true, decide_eq_false, beq_t, beq_f, wrap_succ, wrap_in, getD_ints, getD_intss, getD_tsrs, fillA_len, fillA_at, fillA_full, Try.ntmps18, Try.results18])
  rotate_left
  · rw [decide_eq_false (fun h => hp (by rw [h]))]
  refine LoopQ.mix (fun t0 L0 nn ss => ∃ (k : Nat) (_ : Unit), (∃ x : Nat → AV, ss = ⟨mixL 0 (.k :: .k :: .k :: .k :: .s :: .v (i64 (k : Nat)) :: .k :: .k :: .k :: .k :: .k :: .s :: .s :: .s :: .s :: .s :: .s :: .s :: .s :: .s :: .s :: .s :: .s :: .s :: .s :: .s :: []) t0 x, L0⟩) ∧ (k ≤ a.length) ∧ (∀ i, i < k → a.getD i 0 = b.getD i 0) ∧ nn = a.length - k) ?_ ?_
  · exact ⟨_, ⟨0, (), mixI rfl, Nat.zero_le _, fun i hi => absurd hi (Nat.not_lt_zero _), rfl⟩⟩
  · rintro I0 hI0 n s ⟨k, _, ⟨x, rfl⟩, g1, g2, rfl⟩
    by_cases hlt : k < a.length
    · repeat' (first | with_reducible refine RegQ.intro (by kernel_rfl) ?_ | ((with_reducible refine condQ_dec (fun hp => ?_) (fun hp => ?_)) <;> try simp only [hp]) | with_reducible refine condQ_beq (fun hp => ?_) (fun hp => ?_) | ((with_reducible refine wantQ_dec (fun hp => ?_) (fun hp => ?_)) <;> try simp only [hp]) | with_reducible refine wantQ_beq (fun hp => ?_) (fun hp => ?_) | ((with_reducible refine condQ_split (fun hp => ?_) (fun hp => ?_)) <;> try simp only [hp]) | ((with_reducible refine wantQ_split (fun hp => ?_) (fun hp => ?_)) <;> try simp only [hp]) | simp -implicitDefEqProofs (disch := omega) only [go_sem, Nat.reduceAdd, Nat.reduceSub, reduceCtorEq, Nat.reduceLT, Nat.reduceLeDiff, Nat.reduceEqDiff, Nat.reduceMul, Int.reduceToNat, ↓reduceIte, List.take_of_length_le, evApp_n1, evApp_i0, evApp_i1, evApp_i2, evApp_i3, evApp_i4, evApp_i5, evApp_s0, evApp_s1, evApp_s2, evApp_s3, if_pos, if_neg, decide_eq_true, decide_eq_false, beq_t, beq_f, wrap_succ, wrap_in, getD_ints, getD_intss, getD_tsrs, fillA_len, fillA_at, fillA_full, Try.ntmps18, Try.results18])
      · exact ⟨a.length - (k + 1), by omega, hI0 _ _ ⟨k + 1, (), mixI rfl, hlt, fun i hi => if h : i = k then by subst h; exact hp else g2 i (by omega), rfl⟩⟩
      · rw [decide_eq_false (fun h => hp (by rw [h]))]
    · obtain rfl : k = a.length := by omega
      repeat' (first | with_reducible refine RegQ.intro (by kernel_rfl) ?_ | ((with_reducible refine condQ_dec (fun hp => ?_) (fun hp => ?_)) <;> try simp only [hp]) | with_reducible refine condQ_beq (fun hp => ?_) (fun hp => ?_) | ((with_reducible refine wantQ_dec (fun hp => ?_) (fun hp => ?_)) <;> try simp only [hp]) | with_reducible refine wantQ_beq (fun hp => ?_) (fun hp => ?_) | ((with_reducible refine condQ_split (fun hp => ?_) (fun hp => ?_)) <;> try simp only [hp]) | ((with_reducible refine wantQ_split (fun hp => ?_) (fun hp => ?_)) <;> try simp only [hp]) | simp -implicitDefEqProofs (disch := omega) only [go_sem, Nat.reduceAdd, Nat.reduceSub, reduceCtorEq, Nat.reduceLT, Nat.reduceLeDiff, Nat.reduceEqDiff, Nat.reduceMul, Int.reduceToNat, ↓reduceIte, List.take_of_length_le, evApp_n1, evApp_i0, evApp_i1, evApp_i2, evApp_i3, evApp_i4, evApp_i5, evApp_s0, evApp_s1, evApp_s2, evApp_s3, if_pos, if_neg, decide_eq_true, decide_eq_false, beq_t, beq_f, wrap_succ, wrap_in, getD_ints, getD_intss, getD_tsrs, fillA_len, fillA_at, fillA_full, Try.ntmps18, Try.results18])
      rw [decide_eq_true (ints_ext (by omega) g2)]

def gEqIntss (a b : List (List Int)) : Option Bool := gd ((a.length < 4294967296 ∧ b.length < 4294967296) ∧ rowsOK a ∧ rowsOK b) (decide (a = b))
theorem gEqIntss_eq {a b : List (List Int)} (h : (a.length < 4294967296 ∧ b.length < 4294967296) ∧ rowsOK a ∧ rowsOK b) : gEqIntss a b = some (decide (a = b)) := gd_eq h
set_option maxHeartbeats 2000000 in
set_option maxRecDepth 100000 in
theorem spec_eqIntSS {Sg : FuncId → Option (List AV → Option AV)} (hS : Sound Try.prog Sg) (hc : Sg 18 = some (F2 gEqInts)) : ∀ a r, F2 gEqIntss a = some r → CSpec Try.prog 17 a r := by
  refine spec2 Try.func17 rfl Try.pf hS ?_
  intro a b r hr
  obtain ⟨⟨⟨h1, h2⟩, h3, h4⟩, rfl⟩ := gd_some hr
  repeat' (first | with_reducible refine RegQ.intro (by kernel_rfl) ?_ | ((with_reducible refine condQ_dec (fun hp => ?_) (fun hp => ?_)) <;> try simp only [hp]) | with_reducible refine condQ_beq (fun hp => ?_) (fun hp => ?_) | ((with_reducible refine wantQ_dec (fun hp => ?_) (fun hp => ?_)) <;> try simp only [hp]) | with_reducible refine wantQ_beq (fun hp => ?_) (fun hp => ?_) | ((with_reducible refine condQ_split (fun hp => ?_) (fun hp => ?_)) <;> try simp only [hp]) | ((with_reducible refine wantQ_split (fun hp => ?_) (fun hp => ?_)) <;> try simp only [hp]) | simp -implicitDefEqProofs (disch := omega) only [go_sem, Nat.reduceAdd, Nat.reduceSub, reduceCtorEq, Nat.reduceLT, Nat.reduceLeDiff, Nat.reduceEqDiff, Nat.reduceMul, Int.reduceToNat, ↓reduceIte, List.take_of_length_le, evApp_n1, evApp_i0, evApp_i1, evApp_i2, evApp_i3, evApp_i4, evApp_i5, evApp_s0, evApp_s1, evApp_s2, evApp_s3, if_pos, if_neg, decide_eq_true, decide_eq_false, beq_t, beq_f, wrap_succ, wrap_in, getD_ints, getD_intss, getD_tsrs, fillA_len, fillA_at, fillA_full, Try.ntmps17, Try.results17])
  rotate_left
  · rw [decide_eq_false (fun h => hp (by rw [h]))]
  refine LoopQ.mix (fun t0 L0 nn ss => ∃ (k : Nat) (_ : Unit), (∃ x : Nat → AV, ss = ⟨mixL 0 (.k :: .k :: .k :: .k :: .s :: .v (i64 (k : Nat)) :: .k :: .k :: .k :: .k :: .k :: .s :: .s :: .s :: .s :: .s :: .s :: .s :: .s :: .s :: .s :: .s :: .s :: .s :: .s :: .s :: .s :: []) t0 x, L0⟩) ∧ (k ≤ a.length) ∧ (∀ i, i < k → a.getD i [] = b.getD i []) ∧ nn = a.length - k) ?_ ?_
  · exact ⟨_, ⟨0, (), mixI rfl, Nat.zero_le _, fun i hi => absurd hi (Nat.not_lt_zero _), rfl⟩⟩
  · rintro I0 hI0 n s ⟨k, _, ⟨x, rfl⟩, g1, g2, rfl⟩
    by_cases hlt : k < a.length
    · have g3 := h3 k hlt
      have g4 := h4 k (by omega)
      repeat' (first | with_reducible refine RegQ.intro (by kernel_rfl) ?_ | ((with_reducible refine condQ_dec (fun hp => ?_) (fun hp => ?_)) <;> try simp only [hp]) | with_reducible refine condQ_beq (fun hp => ?_) (fun hp => ?_) | ((with_reducible refine wantQ_dec (fun hp => ?_) (fun hp => ?_)) <;> try simp only [hp]) | with_reducible refine wantQ_beq (fun hp => ?_) (fun hp => ?_) | ((with_reducible refine condQ_split (fun hp => ?_) (fun hp => ?_)) <;> try simp only [hp]) | ((with_reducible refine wantQ_split (fun hp => ?_) (fun hp => ?_)) <;> try simp only [hp]) | simp -implicitDefEqProofs (disch := omega) only [go_sem, Nat.reduceAdd, Nat.reduceSub, reduceCtorEq, Nat.reduceLT, Nat.reduceLeDiff, Nat.reduceEqDiff, Nat.reduceMul, Int.reduceToNat, ↓reduceIte, List.take_of_length_le, evApp_n1, evApp_i0, evApp_i1, evApp_i2, evApp_i3, evApp_i4, evApp_i5, evApp_s0, evApp_s1, evApp_s2, evApp_s3, if_pos, if_neg, decide_eq_true, decide_eq_false, beq_t, beq_f, wrap_succ, wrap_in, getD_ints, getD_intss, getD_tsrs, fillA_len, fillA_at, fillA_full, Try.ntmps17, Try.results17, hc, gEqInts_eq])
      · exact ⟨a.length - (k + 1), by omega, hI0 _ _ ⟨k + 1, (), mixI rfl, hlt, fun i hi => if h : i = k then by subst h; exact hp else g2 i (by omega), rfl⟩⟩
      · rw [decide_eq_false (fun h => hp (by rw [h]))]
    · obtain rfl : k = a.length := by omega
      repeat' (first | with_reducible refine RegQ.intro (by kernel_rfl) ?_ | ((with_reducible refine condQ_dec (fun hp => ?_) (fun hp => ?_)) <;> try simp only [hp]) | with_reducible refine condQ_beq (fun hp => ?_) (fun hp => ?_) | ((with_reducible refine wantQ_dec (fun hp => ?_) (fun hp => ?_)) <;> try simp only [hp]) | with_reducible refine wantQ_beq (fun hp => ?_) (fun hp => ?_) | ((with_reducible refine condQ_split (fun hp => ?_) (fun hp => ?_)) <;> try simp only [hp]) | ((with_reducible refine wantQ_split (fun hp => ?_) (fun hp => ?_)) <;> try simp only [hp]) | simp -implicitDefEqProofs (disch := omega) only [go_sem, Nat.reduceAdd, Nat.reduceSub, reduceCtorEq, Nat.reduceLT, Nat.reduceLeDiff, Nat.reduceEqDiff, Nat.reduceMul, Int.reduceToNat, ↓reduceIte, List.take_of_length_le, evApp_n1, evApp_i0, evApp_i1, evApp_i2, evApp_i3, evApp_i4, evApp_i5, evApp_s0, evApp_s1, evApp_s2, evApp_s3, if_pos, if_neg, decide_eq_true, decide_eq_false, beq_t, beq_f, wrap_succ, wrap_in, getD_ints, getD_intss, getD_tsrs, fillA_len, fillA_at, fillA_full, Try.ntmps17, Try.results17])
      rw [decide_eq_true (list_ext (by omega) g2)]

def gEqTsr (a b : Tsr) : Option Bool := gd (tsrB a ∧ tsrB b) (decide (a = b))
theorem gEqTsr_eq {a b : Tsr} (h : tsrB a ∧ tsrB b) : gEqTsr a b = some (decide (a = b)) := gd_eq h
theorem tsr_ext {a b : Tsr} (h : a.sh = b.sh) (h' : a.vl = b.vl) : a = b := by cases a; cases b; simp_all
set_option maxHeartbeats 2000000 in
set_option maxRecDepth 100000 in
theorem spec_eqTensor {Sg : FuncId → Option (List AV → Option AV)} (hS : Sound Try.prog Sg) (hc : Sg 18 = some (F2 gEqInts)) : ∀ a r, F2 gEqTsr a = some r → CSpec Try.prog 15 a r := by
  refine spec2 Try.func15 rfl Try.pf hS ?_
  intro a b r hr
  obtain ⟨⟨⟨h1, h2⟩, h3, h4⟩, rfl⟩ := gd_some hr
  repeat' (first | with_reducible refine RegQ.intro (by kernel_rfl) ?_ | ((with_reducible refine condQ_dec (fun hp => ?_) (fun hp => ?_)) <;> try simp only [hp]) | with_reducible refine condQ_beq (fun hp => ?_) (fun hp => ?_) | ((with_reducible refine wantQ_dec (fun hp => ?_) (fun hp => ?_)) <;> try simp only [hp]) | with_reducible refine wantQ_beq (fun hp => ?_) (fun hp => ?_) | ((with_reducible refine condQ_split (fun hp => ?_) (fun hp => ?_)) <;> try simp only [hp]) | ((with_reducible refine wantQ_split (fun hp => ?_) (fun hp => ?_)) <;> try simp only [hp]) | simp -implicitDefEqProofs (disch := omega) only [go_sem, Nat.reduceAdd, Nat.reduceSub, reduceCtorEq, Nat.reduceLT, Nat.reduceLeDiff, Nat.reduceEqDiff, Nat.reduceMul, Int.reduceToNat, ↓reduceIte, List.take_of_length_le, evApp_n1, evApp_i0, evApp_i1, evApp_i2, evApp_i3, evApp_i4, evApp_i5, evApp_s0, evApp_s1, evApp_s2, evApp_s3, if_pos, if_neg, decide_eq_true, decide_eq_false, beq_t, beq_f, wrap_succ, wrap_in, getD_ints, getD_intss, getD_tsrs, fillA_len, fillA_at, fillA_full, Try.ntmps15, Try.results15, hc, gEqInts_eq])
  · rw [decide_eq_true (tsr_ext ‹_› hp)]
  · rw [decide_eq_false (fun h => hp (by rw [h]))]
  · rw [decide_eq_false (fun h => hp (by rw [h]))]

def tsrsB (l : List Tsr) : Prop := ∀ k, k < l.length → tsrB (l.getD k ⟨[], []⟩)
instance (l : List Tsr) : Decidable (tsrsB l) := by unfold tsrsB; infer_instance
def gEqTsrs (a b : List Tsr) : Option Bool := gd ((a.length < 4294967296 ∧ b.length < 4294967296) ∧ tsrsB a ∧ tsrsB b) (decide (a = b))
theorem gEqTsrs_eq {a b : List Tsr} (h : (a.length < 4294967296 ∧ b.length < 4294967296) ∧ tsrsB a ∧ tsrsB b) : gEqTsrs a b = some (decide (a = b)) := gd_eq h
set_option maxHeartbeats 2000000 in
set_option maxRecDepth 100000 in
theorem spec_eqTensorS {Sg : FuncId → Option (List AV → Option AV)} (hS : Sound Try.prog Sg) (hc : Sg 15 = some (F2 gEqTsr)) : ∀ a r, F2 gEqTsrs a = some r → CSpec Try.prog 16 a r := by
  refine spec2 Try.func16 rfl Try.pf hS ?_
  intro a b r hr
  obtain ⟨⟨⟨h1, h2⟩, h3, h4⟩, rfl⟩ := gd_some hr
  repeat' (first | with_reducible refine RegQ.intro (by kernel_rfl) ?_ | ((with_reducible refine condQ_dec (fun hp => ?_) (fun hp => ?_)) <;> try simp only [hp]) | with_reducible refine condQ_beq (fun hp => ?_) (fun hp => ?_) | ((with_reducible refine wantQ_dec (fun hp => ?_) (fun hp => ?_)) <;> try simp only [hp]) | with_reducible refine wantQ_beq (fun hp => ?_) (fun hp => ?_) | ((with_reducible refine condQ_split (fun hp => ?_) (fun hp => ?_)) <;> try simp only [hp]) | ((with_reducible refine wantQ_split (fun hp => ?_) (fun hp => ?_)) <;> try simp only [hp]) | simp -implicitDefEqProofs (disch := omega) only [go_sem, Nat.reduceAdd, Nat.reduceSub, reduceCtorEq, Nat.reduceLT, Nat.reduceLeDiff, Nat.reduceEqDiff, Nat.reduceMul, Int.reduceToNat, ↓reduceIte, List.take_of_length_le, evApp_n1, evApp_i0, evApp_i1, evApp_i2, evApp_i3, evApp_i4, evApp_i5, evApp_s0, evApp_s1, evApp_s2, evApp_s3, if_pos, if_neg, decide_eq_true, decide_eq_false, beq_t, beq_f, wrap_succ, wrap_in, getD_ints, getD_intss, getD_tsrs, fillA_len, fillA_at, fillA_full, Try.ntmps16, Try.results16])
  rotate_left
  · rw [decide_eq_false (fun h => hp (by rw [h]))]
  refine LoopQ.mix (fun t0 L0 nn ss => ∃ (k : Nat) (_ : Unit), (∃ x : Nat → AV, ss = ⟨mixL 0 (.k :: .k :: .k :: .k :: .s :: .v (i64 (k : Nat)) :: .k :: .k :: .k :: .k :: .k :: .s :: .s :: .s :: .s :: .s :: .s :: .s :: .s :: .s :: .s :: .s :: .s :: .s :: .s :: .s :: .s :: []) t0 x, L0⟩) ∧ (k ≤ a.length) ∧ (∀ i, i < k → a.getD i ⟨[], []⟩ = b.getD i ⟨[], []⟩) ∧ nn = a.length - k) ?_ ?_
  · exact ⟨_, ⟨0, (), mixI rfl, Nat.zero_le _, fun i hi => absurd hi (Nat.not_lt_zero _), rfl⟩⟩
  · rintro I0 hI0 n s ⟨k, _, ⟨x, rfl⟩, g1, g2, rfl⟩
    by_cases hlt : k < a.length
    · have g3 := h3 k hlt
      have g4 := h4 k (by omega)
      repeat' (first | with_reducible refine RegQ.intro (by kernel_rfl) ?_ | ((with_reducible refine condQ_dec (fun hp => ?_) (fun hp => ?_)) <;> try simp only [hp]) | with_reducible refine condQ_beq (fun hp => ?_) (fun hp => ?_) | ((with_reducible refine wantQ_dec (fun hp => ?_) (fun hp => ?_)) <;> try simp only [hp]) | with_reducible refine wantQ_beq (fun hp => ?_) (fun hp => ?_) | ((with_reducible refine condQ_split (fun hp => ?_) (fun hp => ?_)) <;> try simp only [hp]) | ((with_reducible refine wantQ_split (fun hp => ?_) (fun hp => ?_)) <;> try simp only [hp]) | simp -implicitDefEqProofs (disch := omega) only [go_sem, Nat.reduceAdd, Nat.reduceSub, reduceCtorEq, Nat.reduceLT, Nat.reduceLeDiff, Nat.reduceEqDiff, Nat.reduceMul, Int.reduceToNat, ↓reduceIte, List.take_of_length_le, evApp_n1, evApp_i0, evApp_i1, evApp_i2, evApp_i3, evApp_i4, evApp_i5, evApp_s0, evApp_s1, evApp_s2, evApp_s3, if_pos, if_neg, decide_eq_true, decide_eq_false, beq_t, beq_f, wrap_succ, wrap_in, getD_ints, getD_intss, getD_tsrs, fillA_len, fillA_at, fillA_full, Try.ntmps16, Try.results16, hc, gEqTsr_eq ⟨g3, g4⟩])
      · exact ⟨a.length - (k + 1), by omega, hI0 _ _ ⟨k + 1, (), mixI rfl, hlt, fun i hi => if h : i = k then by subst h; exact hp else g2 i (by omega), rfl⟩⟩
      · rw [decide_eq_false (fun h => hp (by rw [h]))]
    · obtain rfl : k = a.length := by omega
      repeat' (first | with_reducible refine RegQ.intro (by kernel_rfl) ?_ | ((with_reducible refine condQ_dec (fun hp => ?_) (fun hp => ?_)) <;> try simp only [hp]) | with_reducible refine condQ_beq (fun hp => ?_) (fun hp => ?_) | ((with_reducible refine wantQ_dec (fun hp => ?_) (fun hp => ?_)) <;> try simp only [hp]) | with_reducible refine wantQ_beq (fun hp => ?_) (fun hp => ?_) | ((with_reducible refine condQ_split (fun hp => ?_) (fun hp => ?_)) <;> try simp only [hp]) | ((with_reducible refine wantQ_split (fun hp => ?_) (fun hp => ?_)) <;> try simp only [hp]) | simp -implicitDefEqProofs (disch := omega) only [go_sem, Nat.reduceAdd, Nat.reduceSub, reduceCtorEq, Nat.reduceLT, Nat.reduceLeDiff, Nat.reduceEqDiff, Nat.reduceMul, Int.reduceToNat, ↓reduceIte, List.take_of_length_le, evApp_n1, evApp_i0, evApp_i1, evApp_i2, evApp_i3, evApp_i4, evApp_i5, evApp_s0, evApp_s1, evApp_s2, evApp_s3, if_pos, if_neg, decide_eq_true, decide_eq_false, beq_t, beq_f, wrap_succ, wrap_in, getD_ints, getD_intss, getD_tsrs, fillA_len, fillA_at, fillA_full, Try.ntmps16, Try.results16])
      rw [decide_eq_true (list_ext (by omega) g2)]

def gToTsrs (l : List Tsr) : Option (List Tsr) := gd (l.length < 4294967296 ∧ tsrsB l) l
theorem gToTsrs_eq {l : List Tsr} (h : l.length < 4294967296 ∧ tsrsB l) : gToTsrs l = some l := gd_eq h
set_option maxHeartbeats 2000000 in
set_option maxRecDepth 100000 in
theorem spec_toTensorS {Sg : FuncId → Option (List AV → Option AV)} (hS : Sound Try.prog Sg) (hc : Sg 47 = some (F1 gToTsr)) : ∀ a r, F1 gToTsrs a = some r → CSpec Try.prog 11 a r := by
  refine spec1 Try.func11 rfl Try.pf hS ?_
  intro l r hr
  obtain ⟨⟨h1, h2⟩, rfl⟩ := gd_some hr
  repeat' (first | with_reducible refine RegQ.intro (by kernel_rfl) ?_ | ((with_reducible refine condQ_dec (fun hp => ?_) (fun hp => ?_)) <;> try simp only [hp]) | with_reducible refine condQ_beq (fun hp => ?_) (fun hp => ?_) | ((with_reducible refine wantQ_dec (fun hp => ?_) (fun hp => ?_)) <;> try simp only [hp]) | with_reducible refine wantQ_beq (fun hp => ?_) (fun hp => ?_) | ((with_reducible refine condQ_split (fun hp => ?_) (fun hp => ?_)) <;> try simp only [hp]) | ((with_reducible refine wantQ_split (fun hp => ?_) (fun hp => ?_)) <;> try simp only [hp]) | simp -implicitDefEqProofs (disch := omega) only [go_sem, Nat.reduceAdd, Nat.reduceSub, reduceCtorEq, Nat.reduceLT, Nat.reduceLeDiff, Nat.reduceEqDiff, Nat.reduceMul, Int.reduceToNat, ↓reduceIte, List.take_of_length_le, evApp_n1, evApp_i0, evApp_i1, evApp_i2, evApp_i3, evApp_i4, evApp_i5, evApp_s0, evApp_s1, evApp_s2, evApp_s3, if_pos, if_neg, decide_eq_true, decide_eq_false, beq_t, beq_f, wrap_succ, wrap_in, getD_ints, getD_intss, getD_tsrs, fillA_len, fillA_at, fillA_full, Try.ntmps11, Try.results11])
  refine LoopQ.mix (fun t0 L0 nn ss => ∃ (k : Nat) (_ : Unit), (∃ x : Nat → AV, ss = ⟨mixL 0 (.k :: .k :: .k :: .k :: .v (i64 (k : Nat)) :: .k :: .k :: .k :: .s :: .s :: .s :: .s :: .s :: .s :: .s :: .s :: .s :: .s :: .s :: .s :: .s :: .s :: .k :: []) t0 x, [⟨2, fillA (fun (x : Tsr) => .agg [ints 1 x.sh, ints 1 x.vl]) l k (.agg [.nilS, .nilS])⟩]⟩) ∧ (k ≤ l.length) ∧ nn = l.length - k) ?_ ?_
  · exact ⟨_, ⟨0, (), mixJ rfl (by rw [fillA_zero]), Nat.zero_le _, rfl⟩⟩
  · rintro I0 hI0 n s ⟨k, _, ⟨x, rfl⟩, h1, rfl⟩
    by_cases hlt : k < l.length
    · have g2 := h2 k hlt
      repeat' (first | with_reducible refine RegQ.intro (by kernel_rfl) ?_ | ((with_reducible refine condQ_dec (fun hp => ?_) (fun hp => ?_)) <;> try simp only [hp]) | with_reducible refine condQ_beq (fun hp => ?_) (fun hp => ?_) | ((with_reducible refine wantQ_dec (fun hp => ?_) (fun hp => ?_)) <;> try simp only [hp]) | with_reducible refine wantQ_beq (fun hp => ?_) (fun hp => ?_) | ((with_reducible refine condQ_split (fun hp => ?_) (fun hp => ?_)) <;> try simp only [hp]) | ((with_reducible refine wantQ_split (fun hp => ?_) (fun hp => ?_)) <;> try simp only [hp]) | simp -implicitDefEqProofs (disch := omega) only [go_sem, Nat.reduceAdd, Nat.reduceSub, reduceCtorEq, Nat.reduceLT, Nat.reduceLeDiff, Nat.reduceEqDiff, Nat.reduceMul, Int.reduceToNat, ↓reduceIte, List.take_of_length_le, evApp_n1, evApp_i0, evApp_i1, evApp_i2, evApp_i3, evApp_i4, evApp_i5, evApp_s0, evApp_s1, evApp_s2, evApp_s3, if_pos, if_neg, decide_eq_true, decide_eq_false, beq_t, beq_f, wrap_succ, wrap_in, getD_ints, getD_intss, getD_tsrs, fillA_len, fillA_at, fillA_full, Try.ntmps11, Try.results11, hc, gToTsr_eq g2, fillA_set (f := fun (x : Tsr) => AV.agg [ints 1 x.sh, ints 1 x.vl])])
      exact ⟨l.length - (k + 1), by omega, hI0 _ _ ⟨k + 1, (), mixI rfl, hlt, rfl⟩⟩
    · obtain rfl : k = l.length := by omega
      repeat' (first | with_reducible refine RegQ.intro (by kernel_rfl) ?_ | ((with_reducible refine condQ_dec (fun hp => ?_) (fun hp => ?_)) <;> try simp only [hp]) | with_reducible refine condQ_beq (fun hp => ?_) (fun hp => ?_) | ((with_reducible refine wantQ_dec (fun hp => ?_) (fun hp => ?_)) <;> try simp only [hp]) | with_reducible refine wantQ_beq (fun hp => ?_) (fun hp => ?_) | ((with_reducible refine condQ_split (fun hp => ?_) (fun hp => ?_)) <;> try simp only [hp]) | ((with_reducible refine wantQ_split (fun hp => ?_) (fun hp => ?_)) <;> try simp only [hp]) | simp -implicitDefEqProofs (disch := omega) only [go_sem, Nat.reduceAdd, Nat.reduceSub, reduceCtorEq, Nat.reduceLT, Nat.reduceLeDiff, Nat.reduceEqDiff, Nat.reduceMul, Int.reduceToNat, ↓reduceIte, List.take_of_length_le, evApp_n1, evApp_i0, evApp_i1, evApp_i2, evApp_i3, evApp_i4, evApp_i5, evApp_s0, evApp_s1, evApp_s2, evApp_s3, if_pos, if_neg, decide_eq_true, decide_eq_false, beq_t, beq_f, wrap_succ, wrap_in, getD_ints, getD_intss, getD_tsrs, fillA_len, fillA_at, fillA_full, Try.ntmps11, Try.results11])

/-- what is left of a budget -/
def szRows : List (List Int) → Int → Int
  | [], n => n
  | x :: r, n => if szI x.length n < 0 then -1 else szRows r (szI x.length n)
theorem szI_le {n : Nat} {left : Int} (h : ¬ szI n left < 0) : szI n left = left - n ∧ (n : Int) ≤ left := by
  unfold szI at *
  split at h <;> omega
theorem szRows_step {l : List (List Int)} {k : Nat} {n : Int} (h : k < l.length) : szRows (l.drop k) n = if szI (l.getD k []).length n < 0 then -1 else szRows (l.drop (k + 1)) (szI (l.getD k []).length n) := by
  rw [drop_getD (d := []) h]; rfl
def bigRows (l : List (List Int)) : Prop := ∀ k, k < l.length → (l.getD k []).length < 9223372036854775808
instance (l : List (List Int)) : Decidable (bigRows l) := by unfold bigRows; infer_instance
def szSS (l : List (List Int)) (left : Int) : Int := if szI l.length left < 0 then -1 else szRows l (szI l.length left)
def gSzIntss (l : List (List Int)) (left : Int) : Option Int := gd ((l.length < 9223372036854775808 ∧ 0 ≤ left ∧ left ≤ 1048576) ∧ bigRows l) (szSS l left)
theorem gSzIntss_eq {l : List (List Int)} {left : Int} (h : (l.length < 9223372036854775808 ∧ 0 ≤ left ∧ left ≤ 1048576) ∧ bigRows l) : gSzIntss l left = some (szSS l left) := gd_eq h
set_option maxHeartbeats 2000000 in
set_option maxRecDepth 100000 in
theorem spec_szIntSS {Sg : FuncId → Option (List AV → Option AV)} (hS : Sound Try.prog Sg) (hc : Sg 41 = some (F2 gSzInts)) : ∀ a r, F2 gSzIntss a = some r → CSpec Try.prog 9 a r := by
  refine spec2 Try.func9 rfl Try.pf hS ?_
  intro l left r hr
  obtain ⟨⟨⟨h1, h2, h3⟩, h4⟩, rfl⟩ := gd_some hr
  repeat' (first | with_reducible refine RegQ.intro (by kernel_rfl) ?_ | ((with_reducible refine condQ_dec (fun hp => ?_) (fun hp => ?_)) <;> try simp only [hp]) | with_reducible refine condQ_beq (fun hp => ?_) (fun hp => ?_) | ((with_reducible refine wantQ_dec (fun hp => ?_) (fun hp => ?_)) <;> try simp only [hp]) | with_reducible refine wantQ_beq (fun hp => ?_) (fun hp => ?_) | ((with_reducible refine condQ_split (fun hp => ?_) (fun hp => ?_)) <;> try simp only [hp]) | ((with_reducible refine wantQ_split (fun hp => ?_) (fun hp => ?_)) <;> try simp only [hp]) | simp -implicitDefEqProofs (disch := omega) only [go_sem, Nat.reduceAdd, Nat.reduceSub, reduceCtorEq, Nat.reduceLT, Nat.reduceLeDiff, Nat.reduceEqDiff, Nat.reduceMul, Int.reduceToNat, ↓reduceIte, List.take_of_length_le, evApp_n1, evApp_i0, evApp_i1, evApp_i2, evApp_i3, evApp_i4, evApp_i5, evApp_s0, evApp_s1, evApp_s2, evApp_s3, if_pos, if_neg, decide_eq_true, decide_eq_false, beq_t, beq_f, wrap_succ, wrap_in, getD_ints, getD_intss, getD_tsrs, fillA_len, fillA_at, fillA_full, Try.ntmps9, Try.results9])
  · rw [szSS, if_pos (by rw [szI_neg (by omega)]; omega)]
  have e : szI l.length left = left - l.length := szI_pos (by omega)
  rw [szSS, if_neg (by omega), e]
  refine LoopQ.mix (fun t0 L0 nn ss => ∃ (k : Nat) (n : Int) (_ : Unit), (∃ x : Nat → AV, ss = ⟨mixL 0 (.k :: .v (i64 n) :: .k :: .k :: .s :: .v (i64 (k : Nat)) :: .k :: .k :: .k :: .k :: .k :: .k :: .s :: .s :: .s :: .s :: .s :: .s :: .s :: .s :: .s :: .s :: .s :: .s :: .s :: .s :: .k :: []) t0 x, L0⟩) ∧ (k ≤ l.length) ∧ (0 ≤ n ∧ n ≤ 1048576) ∧ (szRows (l.drop k) n = szRows l (left - l.length)) ∧ nn = l.length - k) ?_ ?_
  · exact ⟨_, ⟨0, left - l.length, (), mixI rfl, Nat.zero_le _, ⟨by omega, by omega⟩, rfl, rfl⟩⟩
  · rintro I0 hI0 m s ⟨k, n, _, ⟨x, rfl⟩, g1, ⟨g2, g2'⟩, g3, rfl⟩
    by_cases hlt : k < l.length
    · have g4 := h4 k hlt
      rw [szRows_step hlt] at g3
      repeat' (first | with_reducible refine RegQ.intro (by kernel_rfl) ?_ | ((with_reducible refine condQ_dec (fun hp => ?_) (fun hp => ?_)) <;> try simp only [hp]) | with_reducible refine condQ_beq (fun hp => ?_) (fun hp => ?_) | ((with_reducible refine wantQ_dec (fun hp => ?_) (fun hp => ?_)) <;> try simp only [hp]) | with_reducible refine wantQ_beq (fun hp => ?_) (fun hp => ?_) | ((with_reducible refine condQ_split (fun hp => ?_) (fun hp => ?_)) <;> try simp only [hp]) | ((with_reducible refine wantQ_split (fun hp => ?_) (fun hp => ?_)) <;> try simp only [hp]) | simp -implicitDefEqProofs (disch := omega) only [go_sem, Nat.reduceAdd, Nat.reduceSub, reduceCtorEq, Nat.reduceLT, Nat.reduceLeDiff, Nat.reduceEqDiff, Nat.reduceMul, Int.reduceToNat, ↓reduceIte, List.take_of_length_le, evApp_n1, evApp_i0, evApp_i1, evApp_i2, evApp_i3, evApp_i4, evApp_i5, evApp_s0, evApp_s1, evApp_s2, evApp_s3, if_pos, if_neg, decide_eq_true, decide_eq_false, beq_t, beq_f, wrap_succ, wrap_in, getD_ints, getD_intss, getD_tsrs, fillA_len, fillA_at, fillA_full, Try.ntmps9, Try.results9, hc, gSzInts_eq])
      · rw [if_pos hp] at g3
        rw [g3]
      · rw [if_neg hp] at g3
        have := szI_le hp
        exact ⟨l.length - (k + 1), by omega, hI0 _ _ ⟨k + 1, _, (), mixI rfl, hlt, ⟨by omega, by omega⟩, g3, rfl⟩⟩
    · obtain rfl : k = l.length := by omega
      rw [List.drop_length] at g3
      repeat' (first | with_reducible refine RegQ.intro (by kernel_rfl) ?_ | ((with_reducible refine condQ_dec (fun hp => ?_) (fun hp => ?_)) <;> try simp only [hp]) | with_reducible refine condQ_beq (fun hp => ?_) (fun hp => ?_) | ((with_reducible refine wantQ_dec (fun hp => ?_) (fun hp => ?_)) <;> try simp only [hp]) | with_reducible refine wantQ_beq (fun hp => ?_) (fun hp => ?_) | ((with_reducible refine condQ_split (fun hp => ?_) (fun hp => ?_)) <;> try simp only [hp]) | ((with_reducible refine wantQ_split (fun hp => ?_) (fun hp => ?_)) <;> try simp only [hp]) | simp -implicitDefEqProofs (disch := omega) only [go_sem, Nat.reduceAdd, Nat.reduceSub, reduceCtorEq, Nat.reduceLT, Nat.reduceLeDiff, Nat.reduceEqDiff, Nat.reduceMul, Int.reduceToNat, ↓reduceIte, List.take_of_length_le, evApp_n1, evApp_i0, evApp_i1, evApp_i2, evApp_i3, evApp_i4, evApp_i5, evApp_s0, evApp_s1, evApp_s2, evApp_s3, if_pos, if_neg, decide_eq_true, decide_eq_false, beq_t, beq_f, wrap_succ, wrap_in, getD_ints, getD_intss, getD_tsrs, fillA_len, fillA_at, fillA_full, Try.ntmps9, Try.results9])
      exact g3

def szT (x : Tsr) (left : Int) : Int := if szI x.sh.length left < 0 then -1 else szI x.vl.length (szI x.sh.length left)
def tsrBig (x : Tsr) : Prop := x.sh.length < 9223372036854775808 ∧ x.vl.length < 9223372036854775808
instance (x : Tsr) : Decidable (tsrBig x) := by unfold tsrBig; infer_instance
def gSzTsr (x : Tsr) (left : Int) : Option Int := gd ((0 ≤ left ∧ left ≤ 1048576) ∧ tsrBig x) (szT x left)
theorem gSzTsr_eq {x : Tsr} {left : Int} (h : (0 ≤ left ∧ left ≤ 1048576) ∧ tsrBig x) : gSzTsr x left = some (szT x left) := gd_eq h
set_option maxHeartbeats 2000000 in
set_option maxRecDepth 100000 in
theorem spec_szTensor {Sg : FuncId → Option (List AV → Option AV)} (hS : Sound Try.prog Sg) (hc : Sg 41 = some (F2 gSzInts)) : ∀ a r, F2 gSzTsr a = some r → CSpec Try.prog 40 a r := by
  refine spec2 Try.func40 rfl Try.pf hS ?_
  intro x left r hr
  obtain ⟨⟨⟨h2, h3⟩, h4, h5⟩, rfl⟩ := gd_some hr
  have e := @szI_le x.sh.length left
  repeat' (first | with_reducible refine RegQ.intro (by kernel_rfl) ?_ | ((with_reducible refine condQ_dec (fun hp => ?_) (fun hp => ?_)) <;> try simp only [hp]) | with_reducible refine condQ_beq (fun hp => ?_) (fun hp => ?_) | ((with_reducible refine wantQ_dec (fun hp => ?_) (fun hp => ?_)) <;> try simp only [hp]) | with_reducible refine wantQ_beq (fun hp => ?_) (fun hp => ?_) | ((with_reducible refine condQ_split (fun hp => ?_) (fun hp => ?_)) <;> try simp only [hp]) | ((with_reducible refine wantQ_split (fun hp => ?_) (fun hp => ?_)) <;> try simp only [hp]) | simp -implicitDefEqProofs (disch := omega) only [go_sem, Nat.reduceAdd, Nat.reduceSub, reduceCtorEq, Nat.reduceLT, Nat.reduceLeDiff, Nat.reduceEqDiff, Nat.reduceMul, Int.reduceToNat, ↓reduceIte, List.take_of_length_le, evApp_n1, evApp_i0, evApp_i1, evApp_i2, evApp_i3, evApp_i4, evApp_i5, evApp_s0, evApp_s1, evApp_s2, evApp_s3, if_pos, if_neg, decide_eq_true, decide_eq_false, beq_t, beq_f, wrap_succ, wrap_in, getD_ints, getD_intss, getD_tsrs, fillA_len, fillA_at, fillA_full, Try.ntmps40, Try.results40, hc, gSzInts_eq])
  · rw [szT, if_pos hp]
  · rw [szT, if_neg ‹_›]
    rw [szI_m1 hp]
  · rw [szT, if_neg ‹_›]

def szTs : List Tsr → Int → Int
  | [], n => n
  | x :: r, n => if szT x n < 0 then -1 else szTs r (szT x n)
theorem szT_le {x : Tsr} {left : Int} (h : ¬ szT x left < 0) : szT x left = left - x.sh.length - x.vl.length ∧ (x.sh.length : Int) + x.vl.length ≤ left := by
  by_cases h3 : szI x.sh.length left < 0
  · exact absurd (by rw [szT, if_pos h3]; omega) h
  · rw [szT, if_neg h3] at h ⊢
    have h1 := szI_le h3
    have h2 := szI_le h
    omega
theorem szTs_step {l : List Tsr} {k : Nat} {n : Int} (h : k < l.length) : szTs (l.drop k) n = if szT (l.getD k ⟨[], []⟩) n < 0 then -1 else szTs (l.drop (k + 1)) (szT (l.getD k ⟨[], []⟩) n) := by
  rw [drop_getD (d := ⟨[], []⟩) h]; rfl
def tsrsBig (l : List Tsr) : Prop := ∀ k, k < l.length → tsrBig (l.getD k ⟨[], []⟩)
instance (l : List Tsr) : Decidable (tsrsBig l) := by unfold tsrsBig; infer_instance
def szTS (l : List Tsr) (left : Int) : Int := if szI l.length left < 0 then -1 else szTs l (szI l.length left)
def gSzTsrs (l : List Tsr) (left : Int) : Option Int := gd ((l.length < 9223372036854775808 ∧ 0 ≤ left ∧ left ≤ 1048576) ∧ tsrsBig l) (szTS l left)
theorem gSzTsrs_eq {l : List Tsr} {left : Int} (h : (l.length < 9223372036854775808 ∧ 0 ≤ left ∧ left ≤ 1048576) ∧ tsrsBig l) : gSzTsrs l left = some (szTS l left) := gd_eq h
set_option maxHeartbeats 2000000 in
set_option maxRecDepth 100000 in
theorem spec_szTensorS {Sg : FuncId → Option (List AV → Option AV)} (hS : Sound Try.prog Sg) (hc : Sg 40 = some (F2 gSzTsr)) : ∀ a r, F2 gSzTsrs a = some r → CSpec Try.prog 8 a r := by
  refine spec2 Try.func8 rfl Try.pf hS ?_
  intro l left r hr
  obtain ⟨⟨⟨h1, h2, h3⟩, h4⟩, rfl⟩ := gd_some hr
  repeat' (first | with_reducible refine RegQ.intro (by kernel_rfl) ?_ | ((with_reducible refine condQ_dec (fun hp => ?_) (fun hp => ?_)) <;> try simp only [hp]) | with_reducible refine condQ_beq (fun hp => ?_) (fun hp => ?_) | ((with_reducible refine wantQ_dec (fun hp => ?_) (fun hp => ?_)) <;> try simp only [hp]) | with_reducible refine wantQ_beq (fun hp => ?_) (fun hp => ?_) | ((with_reducible refine condQ_split (fun hp => ?_) (fun hp => ?_)) <;> try simp only [hp]) | ((with_reducible refine wantQ_split (fun hp => ?_) (fun hp => ?_)) <;> try simp only [hp]) | simp -implicitDefEqProofs (disch := omega) only [go_sem, Nat.reduceAdd, Nat.reduceSub, reduceCtorEq, Nat.reduceLT, Nat.reduceLeDiff, Nat.reduceEqDiff, Nat.reduceMul, Int.reduceToNat, ↓reduceIte, List.take_of_length_le, evApp_n1, evApp_i0, evApp_i1, evApp_i2, evApp_i3, evApp_i4, evApp_i5, evApp_s0, evApp_s1, evApp_s2, evApp_s3, if_pos, if_neg, decide_eq_true, decide_eq_false, beq_t, beq_f, wrap_succ, wrap_in, getD_ints, getD_intss, getD_tsrs, fillA_len, fillA_at, fillA_full, Try.ntmps8, Try.results8])
  · rw [szTS, if_pos (by rw [szI_neg (by omega)]; omega)]
  have e : szI l.length left = left - l.length := szI_pos (by omega)
  rw [szTS, if_neg (by omega), e]
  refine LoopQ.mix (fun t0 L0 nn ss => ∃ (k : Nat) (n : Int) (_ : Unit), (∃ x : Nat → AV, ss = ⟨mixL 0 (.k :: .v (i64 n) :: .k :: .k :: .s :: .v (i64 (k : Nat)) :: .k :: .k :: .k :: .k :: .k :: .k :: .s :: .s :: .s :: .s :: .s :: .s :: .s :: .s :: .s :: .s :: .s :: .s :: .s :: .s :: .k :: []) t0 x, L0⟩) ∧ (k ≤ l.length) ∧ (0 ≤ n ∧ n ≤ 1048576) ∧ (szTs (l.drop k) n = szTs l (left - l.length)) ∧ nn = l.length - k) ?_ ?_
  · exact ⟨_, ⟨0, left - l.length, (), mixI rfl, Nat.zero_le _, ⟨by omega, by omega⟩, rfl, rfl⟩⟩
  · rintro I0 hI0 m s ⟨k, n, _, ⟨x, rfl⟩, g1, ⟨g2, g2'⟩, g3, rfl⟩
    by_cases hlt : k < l.length
    · have g4 := h4 k hlt
      rw [szTs_step hlt] at g3
      repeat' (first | with_reducible refine RegQ.intro (by kernel_rfl) ?_ | ((with_reducible refine condQ_dec (fun hp => ?_) (fun hp => ?_)) <;> try simp only [hp]) | with_reducible refine condQ_beq (fun hp => ?_) (fun hp => ?_) | ((with_reducible refine wantQ_dec (fun hp => ?_) (fun hp => ?_)) <;> try simp only [hp]) | with_reducible refine wantQ_beq (fun hp => ?_) (fun hp => ?_) | ((with_reducible refine condQ_split (fun hp => ?_) (fun hp => ?_)) <;> try simp only [hp]) | ((with_reducible refine wantQ_split (fun hp => ?_) (fun hp => ?_)) <;> try simp only [hp]) | simp -implicitDefEqProofs (disch := omega) only [go_sem, Nat.reduceAdd, Nat.reduceSub, reduceCtorEq, Nat.reduceLT, Nat.reduceLeDiff, Nat.reduceEqDiff, Nat.reduceMul, Int.reduceToNat, ↓reduceIte, List.take_of_length_le, evApp_n1, evApp_i0, evApp_i1, evApp_i2, evApp_i3, evApp_i4, evApp_i5, evApp_s0, evApp_s1, evApp_s2, evApp_s3, if_pos, if_neg, decide_eq_true, decide_eq_false, beq_t, beq_f, wrap_succ, wrap_in, getD_ints, getD_intss, getD_tsrs, fillA_len, fillA_at, fillA_full, Try.ntmps8, Try.results8, hc, gSzTsr_eq ⟨⟨g2, g2'⟩, g4⟩])
      · rw [if_pos hp] at g3
        rw [g3]
      · rw [if_neg hp] at g3
        have := szT_le hp
        exact ⟨l.length - (k + 1), by omega, hI0 _ _ ⟨k + 1, _, (), mixI rfl, hlt, ⟨by omega, by omega⟩, g3, rfl⟩⟩
    · obtain rfl : k = l.length := by omega
      rw [List.drop_length] at g3
      repeat' (first | with_reducible refine RegQ.intro (by kernel_rfl) ?_ | ((with_reducible refine condQ_dec (fun hp => ?_) (fun hp => ?_)) <;> try simp only [hp]) | with_reducible refine condQ_beq (fun hp => ?_) (fun hp => ?_) | ((with_reducible refine wantQ_dec (fun hp => ?_) (fun hp => ?_)) <;> try simp only [hp]) | with_reducible refine wantQ_beq (fun hp => ?_) (fun hp => ?_) | ((with_reducible refine condQ_split (fun hp => ?_) (fun hp => ?_)) <;> try simp only [hp]) | ((with_reducible refine wantQ_split (fun hp => ?_) (fun hp => ?_)) <;> try simp only [hp]) | simp -implicitDefEqProofs (disch := omega) only [go_sem, Nat.reduceAdd, Nat.reduceSub, reduceCtorEq, Nat.reduceLT, Nat.reduceLeDiff, Nat.reduceEqDiff, Nat.reduceMul, Int.reduceToNat, ↓reduceIte, List.take_of_length_le, evApp_n1, evApp_i0, evApp_i1, evApp_i2, evApp_i3, evApp_i4, evApp_i5, evApp_s0, evApp_s1, evApp_s2, evApp_s3, if_pos, if_neg, decide_eq_true, decide_eq_false, beq_t, beq_f, wrap_succ, wrap_in, getD_ints, getD_intss, getD_tsrs, fillA_len, fillA_at, fillA_full, Try.ntmps8, Try.results8])
      exact g3
/-- what a budget that is not used up says -/
theorem szSS_ok {l : List (List Int)} {left : Int} (hl : left ≤ 1048576) (h : ¬ szSS l left < 0) : l.length ≤ 1048576 ∧ (∀ k, k < l.length → (l.getD k []).length ≤ 1048576) ∧ szSS l left ≤ 1048576 := by
  unfold szSS at h ⊢
  split at h
  · omega
  · rename_i h0
    rw [if_neg h0]
    have h1 := szI_le h0
    have key : ∀ (r : List (List Int)) (n : Int), n ≤ 1048576 → ¬ szRows r n < 0 → (∀ x ∈ r, x.length ≤ 1048576) ∧ szRows r n ≤ 1048576 := by
      intro r
      induction r with
      | nil => intro n hn _; exact ⟨by simp, hn⟩
      | cons y r ih =>
        intro n hn hs
        unfold szRows at hs ⊢
        split at hs
        · omega
        · rename_i h2
          rw [if_neg h2]
          have h3 := szI_le h2
          have := ih _ (by omega) hs
          refine ⟨fun x hx => ?_, this.2⟩
          rcases List.mem_cons.1 hx with rfl | hx
          · omega
          · exact this.1 x hx
    have := key l _ (by omega) h
    exact ⟨by omega, fun k hk => this.1 _ (by simp [hk]), this.2⟩
theorem szTS_ok {l : List Tsr} {left : Int} (hl : left ≤ 1048576) (h : ¬ szTS l left < 0) : l.length ≤ 1048576 ∧ (∀ k, k < l.length → (l.getD k ⟨[], []⟩).sh.length ≤ 1048576 ∧ (l.getD k ⟨[], []⟩).vl.length ≤ 1048576) ∧ szTS l left ≤ 1048576 := by
  unfold szTS at h ⊢
  split at h
  · omega
  · rename_i h0
    rw [if_neg h0]
    have h1 := szI_le h0
    have key : ∀ (r : List Tsr) (n : Int), n ≤ 1048576 → ¬ szTs r n < 0 → (∀ x ∈ r, x.sh.length ≤ 1048576 ∧ x.vl.length ≤ 1048576) ∧ szTs r n ≤ 1048576 := by
      intro r
      induction r with
      | nil => intro n hn _; exact ⟨by simp, hn⟩
      | cons y r ih =>
        intro n hn hs
        unfold szTs at hs ⊢
        split at hs
        · omega
        · rename_i h2
          rw [if_neg h2]
          have h3 := szT_le h2
          have := ih _ (by omega) hs
          refine ⟨fun x hx => ?_, this.2⟩
          rcases List.mem_cons.1 hx with rfl | hx
          · omega
          · exact this.1 x hx
    have := key l _ (by omega) h
    exact ⟨by omega, fun k hk => this.1 _ (by simp [hk]), this.2⟩
end Go.Proofs.Ytfjhhbpipococaa
