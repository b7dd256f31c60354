/- Contracts of functions that the laws of this seat call. -/
import Derived.Test.YtbibnkgcegbmiaaFu
set_option linter.all false
namespace Go.Proofs.Ytbibnkgcegbmiaa
open Go Go.Ev Go.RowKit Go.Ev.Enc Go.Pl

def traceR (r : Tsr × Bool) : Int × Bool := if r.2 = true then (r.1.vl.getD 0 0, true) else (0, false)
def trC (x : Tsr) : Option Tsr := (extF [x] [[0, 0]]).bind (contrF [x] [[0, 0]] [])
def gTrace (x : Tsr) : Option (Int × Bool) := gd (x.sh.length < 4294967296 ∧ x.vl.length < 4294967296) (traceR (tsrT (trC x)))
theorem gTrace_eq {x : Tsr} (h : x.sh.length < 4294967296 ∧ x.vl.length < 4294967296) : gTrace x = some (traceR (tsrT (trC x))) := gd_eq h
theorem sz1 {x : Tsr} (h : x.sh.length < 4294967296 ∧ x.vl.length < 4294967296) : szOK [x] [[0, 0]] :=
  ⟨(by decide : 1 < 4294967296), (by decide : 1 < 4294967296), fun k hk => by match k, hk with | 0, _ => exact h, fun k hk => by match k, hk with | 0, _ => decide⟩
theorem trC_len {x t : Tsr} (h : trC x = some t) : t.sh = [] ∧ t.vl.length = 1 := by
  unfold trC at h
  simp only [Option.bind_eq_some_iff] at h
  obtain ⟨e, _, h2⟩ := h
  unfold contrF at h2
  split at h2
  · have := Option.some.inj h2
    subst this
    exact ⟨rfl, by rw [contrV_len]; rfl⟩
  · simp at h2
theorem dec_t1 (x : Tsr) : (dec (.ds 0 [.agg [.ds 0 (x.sh.map fun n => .int .i64 n), .ds 0 (x.vl.map fun n => .int .i64 n)]]) : Option (List Tsr)) = some [x] := (ok _ _).2 rfl
theorem dec_00 : (dec (.ds 0 [.ds 0 [.int .i64 0, .int .i64 0]]) : Option (List (List Int))) = some [[0, 0]] := (ok _ _).2 rfl
theorem ee_t1 (L : List Blk) (x : Tsr) : expE (expC 0 L) (.ds 2 [.agg [ints 0 x.sh, ints 0 x.vl]]) = .ds 0 [.agg [.ds 0 (x.sh.map fun n => .int .i64 n), .ds 0 (x.vl.map fun n => .int .i64 n)]] := by
  simp [ints, expE, expC, stepC, Function.comp_def]
theorem ee_00 (L : List Blk) : expE (expC 0 L) (.ds 2 [.ds 2 [.int .i64 0, .int .i64 0]]) = .ds 0 [.ds 0 [.int .i64 0, .int .i64 0]] := rfl
theorem es_nil0 (L : List Blk) : expS 0 L 0 0 0 (some ⟨1, []⟩) = .ds 0 [] := by simp [expS]
set_option maxHeartbeats 2000000 in
set_option maxRecDepth 100000 in
theorem spec_TraceOfS {Sg : FuncId → Option (List AV → Option AV)} (hS : Sound Try.prog Sg) (hc : Sg 42 = some (F3 gContr)) : ∀ a r, F1 gTrace a = some r → CSpec Try.prog 26 a r := by
  refine spec1 Try.func26 rfl Try.pf hS ?_
  intro x r hr
  obtain ⟨h1, rfl⟩ := gd_some hr
  have q : gContr [x] [[0, 0]] [] = some (tsrT (trC x)) := gContr_eq ⟨sz1 h1, by decide⟩
  cases hT : trC x with
  | none =>
    rw [hT] at q
    repeat' (first | with_reducible refine RegQ.intro (by kernel_rfl) ?_ | ((with_reducible refine condQ_dec (fun hp => ?_) (fun hp => ?_)) <;> try simp only [hp]) | with_reducible refine condQ_beq (fun hp => ?_) (fun hp => ?_) | ((with_reducible refine wantQ_dec (fun hp => ?_) (fun hp => ?_)) <;> try simp only [hp]) | with_reducible refine wantQ_beq (fun hp => ?_) (fun hp => ?_) | ((with_reducible refine condQ_split (fun hp => ?_) (fun hp => ?_)) <;> try simp only [hp]) | ((with_reducible refine wantQ_split (fun hp => ?_) (fun hp => ?_)) <;> try simp only [hp]) | simp -implicitDefEqProofs (disch := omega) only [go_sem, Nat.reduceAdd, Nat.reduceSub, reduceCtorEq, Nat.reduceLT, Nat.reduceLeDiff, Nat.reduceEqDiff, Nat.reduceMul, Int.reduceToNat, ↓reduceIte, List.take_of_length_le, evApp_n1, evApp_i0, evApp_i1, evApp_i2, evApp_i3, evApp_i4, evApp_i5, evApp_s0, evApp_s1, evApp_s2, evApp_s3, if_pos, if_neg, decide_eq_true, decide_eq_false, beq_t, beq_f, wrap_succ, wrap_in, getD_ints, getD_intss, getD_tsrs, fillA_len, fillA_at, fillA_full, evApp_z0, evApp_z1, evApp_z2, evApp_z3, evApp_i6, Try.ntmps26, Try.results26, hc, q, ee_t1, ee_00, es_nil0, dec_t1, dec_00, dec_nilI, tsrT])
    rfl
  | some t =>
    obtain ⟨t1, t2⟩ := trC_len hT
    rw [hT] at q
    cases ht : tsrOK t with
    | true =>
      repeat' (first | with_reducible refine RegQ.intro (by kernel_rfl) ?_ | ((with_reducible refine condQ_dec (fun hp => ?_) (fun hp => ?_)) <;> try simp only [hp]) | with_reducible refine condQ_beq (fun hp => ?_) (fun hp => ?_) | ((with_reducible refine wantQ_dec (fun hp => ?_) (fun hp => ?_)) <;> try simp only [hp]) | with_reducible refine wantQ_beq (fun hp => ?_) (fun hp => ?_) | ((with_reducible refine condQ_split (fun hp => ?_) (fun hp => ?_)) <;> try simp only [hp]) | ((with_reducible refine wantQ_split (fun hp => ?_) (fun hp => ?_)) <;> try simp only [hp]) | simp -implicitDefEqProofs (disch := omega) only [go_sem, Nat.reduceAdd, Nat.reduceSub, reduceCtorEq, Nat.reduceLT, Nat.reduceLeDiff, Nat.reduceEqDiff, Nat.reduceMul, Int.reduceToNat, ↓reduceIte, List.take_of_length_le, evApp_n1, evApp_i0, evApp_i1, evApp_i2, evApp_i3, evApp_i4, evApp_i5, evApp_s0, evApp_s1, evApp_s2, evApp_s3, if_pos, if_neg, decide_eq_true, decide_eq_false, beq_t, beq_f, wrap_succ, wrap_in, getD_ints, getD_intss, getD_tsrs, fillA_len, fillA_at, fillA_full, evApp_z0, evApp_z1, evApp_z2, evApp_z3, evApp_i6, Try.ntmps26, Try.results26, hc, q, ee_t1, ee_00, es_nil0, dec_t1, dec_00, dec_nilI, tsrT, ht])
      rfl
    | false =>
      repeat' (first | with_reducible refine RegQ.intro (by kernel_rfl) ?_ | ((with_reducible refine condQ_dec (fun hp => ?_) (fun hp => ?_)) <;> try simp only [hp]) | with_reducible refine condQ_beq (fun hp => ?_) (fun hp => ?_) | ((with_reducible refine wantQ_dec (fun hp => ?_) (fun hp => ?_)) <;> try simp only [hp]) | with_reducible refine wantQ_beq (fun hp => ?_) (fun hp => ?_) | ((with_reducible refine condQ_split (fun hp => ?_) (fun hp => ?_)) <;> try simp only [hp]) | ((with_reducible refine wantQ_split (fun hp => ?_) (fun hp => ?_)) <;> try simp only [hp]) | simp -implicitDefEqProofs (disch := omega) only [go_sem, Nat.reduceAdd, Nat.reduceSub, reduceCtorEq, Nat.reduceLT, Nat.reduceLeDiff, Nat.reduceEqDiff, Nat.reduceMul, Int.reduceToNat, ↓reduceIte, List.take_of_length_le, evApp_n1, evApp_i0, evApp_i1, evApp_i2, evApp_i3, evApp_i4, evApp_i5, evApp_s0, evApp_s1, evApp_s2, evApp_s3, if_pos, if_neg, decide_eq_true, decide_eq_false, beq_t, beq_f, wrap_succ, wrap_in, getD_ints, getD_intss, getD_tsrs, fillA_len, fillA_at, fillA_full, evApp_z0, evApp_z1, evApp_z2, evApp_z3, evApp_i6, Try.ntmps26, Try.results26, hc, q, ee_t1, ee_00, es_nil0, dec_t1, dec_00, dec_nilI, tsrT, ht])
      rfl
set_option maxHeartbeats 2000000 in
set_option maxRecDepth 100000 in
theorem spec_TraceOfI {Sg : FuncId → Option (List AV → Option AV)} (hS : Sound Try.prog Sg) (hc : Sg 56 = some (F3 gContr3)) : ∀ a r, F1 gTrace a = some r → CSpec Try.prog 28 a r := by
  refine spec1 Try.func28 rfl Try.pf hS ?_
  intro x r hr
  obtain ⟨h1, rfl⟩ := gd_some hr
  have q : gContr3 [x] [[0, 0]] [] = some (tsrT (trC x)) := gContr3_eq ⟨sz1 h1, by decide⟩
  cases hT : trC x with
  | none =>
    rw [hT] at q
    repeat' (first | with_reducible refine RegQ.intro (by kernel_rfl) ?_ | ((with_reducible refine condQ_dec (fun hp => ?_) (fun hp => ?_)) <;> try simp only [hp]) | with_reducible refine condQ_beq (fun hp => ?_) (fun hp => ?_) | ((with_reducible refine wantQ_dec (fun hp => ?_) (fun hp => ?_)) <;> try simp only [hp]) | with_reducible refine wantQ_beq (fun hp => ?_) (fun hp => ?_) | ((with_reducible refine condQ_split (fun hp => ?_) (fun hp => ?_)) <;> try simp only [hp]) | ((with_reducible refine wantQ_split (fun hp => ?_) (fun hp => ?_)) <;> try simp only [hp]) | simp -implicitDefEqProofs (disch := omega) only [go_sem, Nat.reduceAdd, Nat.reduceSub, reduceCtorEq, Nat.reduceLT, Nat.reduceLeDiff, Nat.reduceEqDiff, Nat.reduceMul, Int.reduceToNat, ↓reduceIte, List.take_of_length_le, evApp_n1, evApp_i0, evApp_i1, evApp_i2, evApp_i3, evApp_i4, evApp_i5, evApp_s0, evApp_s1, evApp_s2, evApp_s3, if_pos, if_neg, decide_eq_true, decide_eq_false, beq_t, beq_f, wrap_succ, wrap_in, getD_ints, getD_intss, getD_tsrs, fillA_len, fillA_at, fillA_full, evApp_z0, evApp_z1, evApp_z2, evApp_z3, evApp_i6, Try.ntmps28, Try.results28, hc, q, ee_t1, ee_00, es_nil0, dec_t1, dec_00, dec_nilI, tsrT])
    rfl
  | some t =>
    obtain ⟨t1, t2⟩ := trC_len hT
    rw [hT] at q
    cases ht : tsrOK t with
    | true =>
      repeat' (first | with_reducible refine RegQ.intro (by kernel_rfl) ?_ | ((with_reducible refine condQ_dec (fun hp => ?_) (fun hp => ?_)) <;> try simp only [hp]) | with_reducible refine condQ_beq (fun hp => ?_) (fun hp => ?_) | ((with_reducible refine wantQ_dec (fun hp => ?_) (fun hp => ?_)) <;> try simp only [hp]) | with_reducible refine wantQ_beq (fun hp => ?_) (fun hp => ?_) | ((with_reducible refine condQ_split (fun hp => ?_) (fun hp => ?_)) <;> try simp only [hp]) | ((with_reducible refine wantQ_split (fun hp => ?_) (fun hp => ?_)) <;> try simp only [hp]) | simp -implicitDefEqProofs (disch := omega) only [go_sem, Nat.reduceAdd, Nat.reduceSub, reduceCtorEq, Nat.reduceLT, Nat.reduceLeDiff, Nat.reduceEqDiff, Nat.reduceMul, Int.reduceToNat, ↓reduceIte, List.take_of_length_le, evApp_n1, evApp_i0, evApp_i1, evApp_i2, evApp_i3, evApp_i4, evApp_i5, evApp_s0, evApp_s1, evApp_s2, evApp_s3, if_pos, if_neg, decide_eq_true, decide_eq_false, beq_t, beq_f, wrap_succ, wrap_in, getD_ints, getD_intss, getD_tsrs, fillA_len, fillA_at, fillA_full, evApp_z0, evApp_z1, evApp_z2, evApp_z3, evApp_i6, Try.ntmps28, Try.results28, hc, q, ee_t1, ee_00, es_nil0, dec_t1, dec_00, dec_nilI, tsrT, ht])
      rfl
    | false =>
      repeat' (first | with_reducible refine RegQ.intro (by kernel_rfl) ?_ | ((with_reducible refine condQ_dec (fun hp => ?_) (fun hp => ?_)) <;> try simp only [hp]) | with_reducible refine condQ_beq (fun hp => ?_) (fun hp => ?_) | ((with_reducible refine wantQ_dec (fun hp => ?_) (fun hp => ?_)) <;> try simp only [hp]) | with_reducible refine wantQ_beq (fun hp => ?_) (fun hp => ?_) | ((with_reducible refine condQ_split (fun hp => ?_) (fun hp => ?_)) <;> try simp only [hp]) | ((with_reducible refine wantQ_split (fun hp => ?_) (fun hp => ?_)) <;> try simp only [hp]) | simp -implicitDefEqProofs (disch := omega) only [go_sem, Nat.reduceAdd, Nat.reduceSub, reduceCtorEq, Nat.reduceLT, Nat.reduceLeDiff, Nat.reduceEqDiff, Nat.reduceMul, Int.reduceToNat, ↓reduceIte, List.take_of_length_le, evApp_n1, evApp_i0, evApp_i1, evApp_i2, evApp_i3, evApp_i4, evApp_i5, evApp_s0, evApp_s1, evApp_s2, evApp_s3, if_pos, if_neg, decide_eq_true, decide_eq_false, beq_t, beq_f, wrap_succ, wrap_in, getD_ints, getD_intss, getD_tsrs, fillA_len, fillA_at, fillA_full, evApp_z0, evApp_z1, evApp_z2, evApp_z3, evApp_i6, Try.ntmps28, Try.results28, hc, q, ee_t1, ee_00, es_nil0, dec_t1, dec_00, dec_nilI, tsrT, ht])
      rfl
def gTrueT (x : Tsr) : Option Bool := gd (tsrBig x) true
set_option maxHeartbeats 2000000 in
set_option maxRecDepth 100000 in
theorem law_TraceOf {Sg : FuncId → Option (List AV → Option AV)} (hS : Sound Try.prog Sg) (h1 : Sg 25 = some (F2 gSzTsr)) (h2 : Sg 27 = some (F1 gToTsr)) (h3 : Sg 26 = some (F1 gTrace)) (h4 : Sg 28 = some (F1 gTrace)) (h5 : Sg 29 = some (F2 gEqTsr)) : ∀ a r, F1 gTrueT a = some r → CSpec Try.prog 4 a r := by
  refine spec1 Try.func4 rfl Try.pf hS ?_
  intro x r hr
  obtain ⟨tb, rfl⟩ := gd_some hr
  have u1 := gSzTsr_eq (x := x) (left := 1048576) ⟨⟨by decide, by decide⟩, tb⟩
  by_cases c1 : szT x 1048576 < 0
  · repeat' (first | with_reducible refine RegQ.intro (by kernel_rfl) ?_ | ((with_reducible refine condQ_dec (fun hp => ?_) (fun hp => ?_)) <;> try simp only [hp]) | with_reducible refine condQ_beq (fun hp => ?_) (fun hp => ?_) | ((with_reducible refine wantQ_dec (fun hp => ?_) (fun hp => ?_)) <;> try simp only [hp]) | with_reducible refine wantQ_beq (fun hp => ?_) (fun hp => ?_) | ((with_reducible refine condQ_split (fun hp => ?_) (fun hp => ?_)) <;> try simp only [hp]) | ((with_reducible refine wantQ_split (fun hp => ?_) (fun hp => ?_)) <;> try simp only [hp]) | simp -implicitDefEqProofs (disch := omega) only [go_sem, Nat.reduceAdd, Nat.reduceSub, reduceCtorEq, Nat.reduceLT, Nat.reduceLeDiff, Nat.reduceEqDiff, Nat.reduceMul, Int.reduceToNat, ↓reduceIte, List.take_of_length_le, evApp_n1, evApp_i0, evApp_i1, evApp_i2, evApp_i3, evApp_i4, evApp_i5, evApp_s0, evApp_s1, evApp_s2, evApp_s3, if_pos, if_neg, decide_eq_true, decide_eq_false, beq_t, beq_f, wrap_succ, wrap_in, getD_ints, getD_intss, getD_tsrs, fillA_len, fillA_at, fillA_full, evApp_z0, evApp_z1, evApp_z2, evApp_z3, evApp_i6, Try.ntmps4, Try.results4, h1, u1])
  · obtain ⟨k1, k2⟩ := szT_le c1
    have hb : tsrB x := ⟨by omega, by omega⟩
    have u2 := gToTsr_eq hb
    have u3 := gTrace_eq (x := x) ⟨by omega, by omega⟩
    have u5 := gEqTsr_eq (a := x) (b := x) ⟨hb, hb⟩
    repeat' (first | with_reducible refine RegQ.intro (by kernel_rfl) ?_ | ((with_reducible refine condQ_dec (fun hp => ?_) (fun hp => ?_)) <;> try simp only [hp]) | with_reducible refine condQ_beq (fun hp => ?_) (fun hp => ?_) | ((with_reducible refine wantQ_dec (fun hp => ?_) (fun hp => ?_)) <;> try simp only [hp]) | with_reducible refine wantQ_beq (fun hp => ?_) (fun hp => ?_) | ((with_reducible refine condQ_split (fun hp => ?_) (fun hp => ?_)) <;> try simp only [hp]) | ((with_reducible refine wantQ_split (fun hp => ?_) (fun hp => ?_)) <;> try simp only [hp]) | simp -implicitDefEqProofs (disch := omega) only [go_sem, Nat.reduceAdd, Nat.reduceSub, reduceCtorEq, Nat.reduceLT, Nat.reduceLeDiff, Nat.reduceEqDiff, Nat.reduceMul, Int.reduceToNat, ↓reduceIte, List.take_of_length_le, evApp_n1, evApp_i0, evApp_i1, evApp_i2, evApp_i3, evApp_i4, evApp_i5, evApp_s0, evApp_s1, evApp_s2, evApp_s3, if_pos, if_neg, decide_eq_true, decide_eq_false, beq_t, beq_f, wrap_succ, wrap_in, getD_ints, getD_intss, getD_tsrs, fillA_len, fillA_at, fillA_full, evApp_z0, evApp_z1, evApp_z2, evApp_z3, evApp_i6, Try.ntmps4, Try.results4, h1, u1, h2, u2, h3, u3, h4, h5, u5])
end Go.Proofs.Ytbibnkgcegbmiaa
