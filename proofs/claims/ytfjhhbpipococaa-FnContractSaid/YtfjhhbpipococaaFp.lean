/- Contracts of functions that the laws of this seat call. -/
import Derived.Test.YtfjhhbpipococaaFo
set_option linter.all false
namespace Go.Proofs.Ytfjhhbpipococaa
open Go Go.Ev Go.RowKit Go.Ev.Enc Go.Pl

def diffF (l : List Int) : Bool := decide (∀ k, k < l.length → ¬ l.getD k 0 ∈ l.take k)
theorem gDifferent_eq {l : List Int} (h : l.length < 4294967296) : gDifferent l = some (diffF l) := gd_eq h
/-- labels of a result -/
def goodF (out e : List Int) : Bool := labOK out && diffF out && (tkn e out).all (fun n => inR n 0 60) && shapeOK (tkn e out)
def gGoodOut (out e : List Int) : Option Bool := gd (out.length < 4294967296 ∧ e.length = 5) (goodF out e)
theorem gGoodOut_eq {out e : List Int} (h : out.length < 4294967296 ∧ e.length = 5) : gGoodOut out e = some (goodF out e) := gd_eq h
set_option maxHeartbeats 2000000 in
set_option maxRecDepth 100000 in
theorem spec_goodOut {Sg : FuncId → Option (List AV → Option AV)} (hS : Sound Try.prog Sg) (ha : Sg 44 = some (F3 gAllIn)) (hd : Sg 96 = some (F1 gDifferent)) (hp : Sg 79 = some (F2 gTakenOf)) (hv : Sg 95 = some (F1 gIsShape)) : ∀ a r, F2 gGoodOut a = some r → CSpec Try.prog 85 a r := by
  refine spec2 Try.func85 rfl Try.pf hS ?_
  intro out e r hr
  obtain ⟨⟨h1, h2⟩, rfl⟩ := gd_some hr
  unfold goodF
  cases hl : labOK out with
  | false =>
    repeat' (first | with_reducible refine RegQ.intro (by kernel_rfl) ?_ | ((with_reducible refine condQ_dec (fun hp => ?_) (fun hp => ?_)) <;> try simp only [hp]) | with_reducible refine condQ_beq (fun hp => ?_) (fun hp => ?_) | ((with_reducible refine wantQ_dec (fun hp => ?_) (fun hp => ?_)) <;> try simp only [hp]) | with_reducible refine wantQ_beq (fun hp => ?_) (fun hp => ?_) | ((with_reducible refine condQ_split (fun hp => ?_) (fun hp => ?_)) <;> try simp only [hp]) | ((with_reducible refine wantQ_split (fun hp => ?_) (fun hp => ?_)) <;> try simp only [hp]) | simp -implicitDefEqProofs (disch := omega) only [go_sem, Nat.reduceAdd, Nat.reduceSub, reduceCtorEq, Nat.reduceLT, Nat.reduceLeDiff, Nat.reduceEqDiff, Nat.reduceMul, Int.reduceToNat, ↓reduceIte, List.take_of_length_le, evApp_n1, evApp_i0, evApp_i1, evApp_i2, evApp_i3, evApp_i4, evApp_i5, evApp_s0, evApp_s1, evApp_s2, evApp_s3, if_pos, if_neg, decide_eq_true, decide_eq_false, beq_t, beq_f, wrap_succ, wrap_in, getD_ints, getD_intss, getD_tsrs, fillA_len, fillA_at, fillA_full, evApp_z0, evApp_z1, evApp_z2, evApp_z3, Try.ntmps85, Try.results85, ha, gAllIn_eq, labOK_in, hl])
    all_goals simp
  | true =>
    have q1 : gTakenOf e out = some (tkn e out) := gTakenOf_eq ⟨h1, by rw [h2]; exact labOK_idx hl rfl⟩
    have q2 : (tkn e out).length < 4294967296 := by rw [tkn_len]; exact h1
    cases hd2 : diffF out with
    | false =>
      repeat' (first | with_reducible refine RegQ.intro (by kernel_rfl) ?_ | ((with_reducible refine condQ_dec (fun hp => ?_) (fun hp => ?_)) <;> try simp only [hp]) | with_reducible refine condQ_beq (fun hp => ?_) (fun hp => ?_) | ((with_reducible refine wantQ_dec (fun hp => ?_) (fun hp => ?_)) <;> try simp only [hp]) | with_reducible refine wantQ_beq (fun hp => ?_) (fun hp => ?_) | ((with_reducible refine condQ_split (fun hp => ?_) (fun hp => ?_)) <;> try simp only [hp]) | ((with_reducible refine wantQ_split (fun hp => ?_) (fun hp => ?_)) <;> try simp only [hp]) | simp -implicitDefEqProofs (disch := omega) only [go_sem, Nat.reduceAdd, Nat.reduceSub, reduceCtorEq, Nat.reduceLT, Nat.reduceLeDiff, Nat.reduceEqDiff, Nat.reduceMul, Int.reduceToNat, ↓reduceIte, List.take_of_length_le, evApp_n1, evApp_i0, evApp_i1, evApp_i2, evApp_i3, evApp_i4, evApp_i5, evApp_s0, evApp_s1, evApp_s2, evApp_s3, if_pos, if_neg, decide_eq_true, decide_eq_false, beq_t, beq_f, wrap_succ, wrap_in, getD_ints, getD_intss, getD_tsrs, fillA_len, fillA_at, fillA_full, evApp_z0, evApp_z1, evApp_z2, evApp_z3, Try.ntmps85, Try.results85, ha, gAllIn_eq, labOK_in, hl, hd, gDifferent_eq, hd2])
      all_goals simp
    | true =>
      cases ha2 : (tkn e out).all (fun n => inR n 0 60) with
      | false =>
        repeat' (first | with_reducible refine RegQ.intro (by kernel_rfl) ?_ | ((with_reducible refine condQ_dec (fun hp => ?_) (fun hp => ?_)) <;> try simp only [hp]) | with_reducible refine condQ_beq (fun hp => ?_) (fun hp => ?_) | ((with_reducible refine wantQ_dec (fun hp => ?_) (fun hp => ?_)) <;> try simp only [hp]) | with_reducible refine wantQ_beq (fun hp => ?_) (fun hp => ?_) | ((with_reducible refine condQ_split (fun hp => ?_) (fun hp => ?_)) <;> try simp only [hp]) | ((with_reducible refine wantQ_split (fun hp => ?_) (fun hp => ?_)) <;> try simp only [hp]) | simp -implicitDefEqProofs (disch := omega) only [go_sem, Nat.reduceAdd, Nat.reduceSub, reduceCtorEq, Nat.reduceLT, Nat.reduceLeDiff, Nat.reduceEqDiff, Nat.reduceMul, Int.reduceToNat, ↓reduceIte, List.take_of_length_le, evApp_n1, evApp_i0, evApp_i1, evApp_i2, evApp_i3, evApp_i4, evApp_i5, evApp_s0, evApp_s1, evApp_s2, evApp_s3, if_pos, if_neg, decide_eq_true, decide_eq_false, beq_t, beq_f, wrap_succ, wrap_in, getD_ints, getD_intss, getD_tsrs, fillA_len, fillA_at, fillA_full, evApp_z0, evApp_z1, evApp_z2, evApp_z3, Try.ntmps85, Try.results85, ha, gAllIn_eq, labOK_in, hl, hd, gDifferent_eq, hd2, hp, q1, ha2])
        all_goals simp
      | true =>
        repeat' (first | with_reducible refine RegQ.intro (by kernel_rfl) ?_ | ((with_reducible refine condQ_dec (fun hp => ?_) (fun hp => ?_)) <;> try simp only [hp]) | with_reducible refine condQ_beq (fun hp => ?_) (fun hp => ?_) | ((with_reducible refine wantQ_dec (fun hp => ?_) (fun hp => ?_)) <;> try simp only [hp]) | with_reducible refine wantQ_beq (fun hp => ?_) (fun hp => ?_) | ((with_reducible refine condQ_split (fun hp => ?_) (fun hp => ?_)) <;> try simp only [hp]) | ((with_reducible refine wantQ_split (fun hp => ?_) (fun hp => ?_)) <;> try simp only [hp]) | simp -implicitDefEqProofs (disch := omega) only [go_sem, Nat.reduceAdd, Nat.reduceSub, reduceCtorEq, Nat.reduceLT, Nat.reduceLeDiff, Nat.reduceEqDiff, Nat.reduceMul, Int.reduceToNat, ↓reduceIte, List.take_of_length_le, evApp_n1, evApp_i0, evApp_i1, evApp_i2, evApp_i3, evApp_i4, evApp_i5, evApp_s0, evApp_s1, evApp_s2, evApp_s3, if_pos, if_neg, decide_eq_true, decide_eq_false, beq_t, beq_f, wrap_succ, wrap_in, getD_ints, getD_intss, getD_tsrs, fillA_len, fillA_at, fillA_full, evApp_z0, evApp_z1, evApp_z2, evApp_z3, Try.ntmps85, Try.results85, ha, gAllIn_eq, labOK_in, hl, hd, gDifferent_eq, hd2, hp, q1, ha2, hv, gIsShape_eq])
        all_goals simp
/-- the result of a contraction; none where it is not possible -/
def contrF (l : List Tsr) (b : List (List Int)) (out e : List Int) : Option Tsr :=
  if goodF out e = true ∧ prodW (e.map pos1) ≤ 4000 then some ⟨tkn e out, contrV l b out (tkn e out) (e.map pos1) (prodW (e.map pos1)).toNat⟩ else none
end Go.Proofs.Ytfjhhbpipococaa
