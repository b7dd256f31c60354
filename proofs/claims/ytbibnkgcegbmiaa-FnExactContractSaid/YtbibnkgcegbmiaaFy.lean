/- Contracts of functions that the laws of this seat call. -/
import Derived.Test.YtbibnkgcegbmiaaFx
set_option linter.all false
namespace Go.Proofs.Ytbibnkgcegbmiaa
open Go Go.Ev Go.RowKit Go.Ev.Enc Go.Pl

def mmC (x y : Tsr) : Option Tsr := (extF [x, y] [[0, 1], [1, 2]]).bind (contrF [x, y] [[0, 1], [1, 2]] [0, 2])
def mmR (x y : Tsr) : Tsr × Bool := tsrT (mmC x y)
def mmB (x y : Tsr) : Prop := (x.sh.length < 4294967296 ∧ x.vl.length < 4294967296) ∧ (y.sh.length < 4294967296 ∧ y.vl.length < 4294967296)
instance (x y : Tsr) : Decidable (mmB x y) := by unfold mmB; infer_instance
def gMatMul (x y : Tsr) : Option (Tsr × Bool) := gd (mmB x y) (mmR x y)
theorem gMatMul_eq {x y : Tsr} (h : mmB x y) : gMatMul x y = some (mmR x y) := gd_eq h
theorem sz2 {x y : Tsr} (h : mmB x y) : szOK [x, y] [[0, 1], [1, 2]] :=
  ⟨(by decide : 2 < 4294967296), (by decide : 2 < 4294967296), fun k hk => by match k, hk with | 0, _ => exact h.1 | 1, _ => exact h.2, fun k hk => by match k, hk with | 0, _ => decide | 1, _ => decide⟩
theorem tsr_vl60 {t : Tsr} (h : tsrOK t = true) : t.vl.length ≤ 60 := by
  unfold tsrOK shapeOK at h
  simp only [Bool.and_eq_true, decide_eq_true_eq] at h
  omega
theorem mmC_len {x y t : Tsr} (h : mmC x y = some t) : t.sh.length = 2 := by
  unfold mmC at h
  simp only [Option.bind_eq_some_iff] at h
  obtain ⟨e, _, h2⟩ := h
  unfold contrF at h2
  split at h2
  · have := Option.some.inj h2
    subst this
    show (tkn e [0, 2]).length = 2
    rw [tkn_len]; rfl
  · simp at h2
/-- what a product may be -/
theorem mmR_cases (x y : Tsr) : mmR x y = (⟨[], []⟩, false) ∨ ∃ t, mmR x y = (t, true) ∧ t.sh.length = 2 ∧ t.vl.length ≤ 60 ∧ tsrOK t = true := by
  unfold mmR
  cases h : mmC x y with
  | none => exact .inl rfl
  | some t =>
    cases ht : tsrOK t with
    | false => exact .inl (by simp [tsrT, ht])
    | true => exact .inr ⟨t, by simp [tsrT, ht], mmC_len h, tsr_vl60 ht, ht⟩
theorem dec_t2 (x y : Tsr) : (dec (.ds 0 [.agg [.ds 0 (x.sh.map fun n => .int .i64 n), .ds 0 (x.vl.map fun n => .int .i64 n)], .agg [.ds 0 (y.sh.map fun n => .int .i64 n), .ds 0 (y.vl.map fun n => .int .i64 n)]]) : Option (List Tsr)) = some [x, y] := (ok _ _).2 rfl
theorem dec_0112 : (dec (.ds 0 [.ds 0 [.int .i64 0, .int .i64 1], .ds 0 [.int .i64 1, .int .i64 2]]) : Option (List (List Int))) = some [[0, 1], [1, 2]] := (ok _ _).2 rfl
theorem dec_02 : (dec (.ds 0 [.int .i64 0, .int .i64 2]) : Option (List Int)) = some [0, 2] := (ok _ _).2 rfl
theorem ee_t2 (L : List Blk) (x y : Tsr) : expE (expC 0 L) (.ds 2 [.agg [ints 0 x.sh, ints 0 x.vl], .agg [ints 0 y.sh, ints 0 y.vl]]) = .ds 0 [.agg [.ds 0 (x.sh.map fun n => .int .i64 n), .ds 0 (x.vl.map fun n => .int .i64 n)], .agg [.ds 0 (y.sh.map fun n => .int .i64 n), .ds 0 (y.vl.map fun n => .int .i64 n)]] := by
  simp [ints, expE, expC, stepC, Function.comp_def]
theorem ee_0112 (L : List Blk) : expE (expC 0 L) (.ds 2 [.ds 2 [.int .i64 0, .int .i64 1], .ds 2 [.int .i64 1, .int .i64 2]]) = .ds 0 [.ds 0 [.int .i64 0, .int .i64 1], .ds 0 [.int .i64 1, .int .i64 2]] := rfl
theorem ee_02 (L : List Blk) : expE (expC 0 L) (.ds 2 [.int .i64 0, .int .i64 2]) = .ds 0 [.int .i64 0, .int .i64 2] := rfl
set_option maxHeartbeats 2000000 in
set_option maxRecDepth 100000 in
theorem spec_MatMulS {Sg : FuncId → Option (List AV → Option AV)} (hS : Sound Try.prog Sg) (hc : Sg 42 = some (F3 gContr)) : ∀ a r, F2 gMatMul a = some r → CSpec Try.prog 32 a r := by
  refine spec2 Try.func32 rfl Try.pf hS ?_
  intro x y r hr
  obtain ⟨h1, rfl⟩ := gd_some hr
  have q : gContr [x, y] [[0, 1], [1, 2]] [0, 2] = some (mmR x y) := gContr_eq ⟨sz2 h1, by decide⟩
  repeat' (first | with_reducible refine RegQ.intro (by kernel_rfl) ?_ | ((with_reducible refine condQ_dec (fun hp => ?_) (fun hp => ?_)) <;> try simp only [hp]) | with_reducible refine condQ_beq (fun hp => ?_) (fun hp => ?_) | ((with_reducible refine wantQ_dec (fun hp => ?_) (fun hp => ?_)) <;> try simp only [hp]) | with_reducible refine wantQ_beq (fun hp => ?_) (fun hp => ?_) | ((with_reducible refine condQ_split (fun hp => ?_) (fun hp => ?_)) <;> try simp only [hp]) | ((with_reducible refine wantQ_split (fun hp => ?_) (fun hp => ?_)) <;> try simp only [hp]) | simp -implicitDefEqProofs (disch := omega) only [go_sem, Nat.reduceAdd, Nat.reduceSub, reduceCtorEq, Nat.reduceLT, Nat.reduceLeDiff, Nat.reduceEqDiff, Nat.reduceMul, Int.reduceToNat, ↓reduceIte, List.take_of_length_le, evApp_n1, evApp_i0, evApp_i1, evApp_i2, evApp_i3, evApp_i4, evApp_i5, evApp_s0, evApp_s1, evApp_s2, evApp_s3, if_pos, if_neg, decide_eq_true, decide_eq_false, beq_t, beq_f, wrap_succ, wrap_in, getD_ints, getD_intss, getD_tsrs, fillA_len, fillA_at, fillA_full, evApp_z0, evApp_z1, evApp_z2, evApp_z3, evApp_i6, List.getElem?_set_self, List.set_set, Try.ntmps32, Try.results32, hc, q, ee_t2, ee_0112, ee_02, dec_t2, dec_0112, dec_02])
set_option maxHeartbeats 2000000 in
set_option maxRecDepth 100000 in
theorem spec_MatMulI {Sg : FuncId → Option (List AV → Option AV)} (hS : Sound Try.prog Sg) (hc : Sg 56 = some (F3 gContr3)) : ∀ a r, F2 gMatMul a = some r → CSpec Try.prog 33 a r := by
  refine spec2 Try.func33 rfl Try.pf hS ?_
  intro x y r hr
  obtain ⟨h1, rfl⟩ := gd_some hr
  have q : gContr3 [x, y] [[0, 1], [1, 2]] [0, 2] = some (mmR x y) := gContr3_eq ⟨sz2 h1, by decide⟩
  repeat' (first | with_reducible refine RegQ.intro (by kernel_rfl) ?_ | ((with_reducible refine condQ_dec (fun hp => ?_) (fun hp => ?_)) <;> try simp only [hp]) | with_reducible refine condQ_beq (fun hp => ?_) (fun hp => ?_) | ((with_reducible refine wantQ_dec (fun hp => ?_) (fun hp => ?_)) <;> try simp only [hp]) | with_reducible refine wantQ_beq (fun hp => ?_) (fun hp => ?_) | ((with_reducible refine condQ_split (fun hp => ?_) (fun hp => ?_)) <;> try simp only [hp]) | ((with_reducible refine wantQ_split (fun hp => ?_) (fun hp => ?_)) <;> try simp only [hp]) | simp -implicitDefEqProofs (disch := omega) only [go_sem, Nat.reduceAdd, Nat.reduceSub, reduceCtorEq, Nat.reduceLT, Nat.reduceLeDiff, Nat.reduceEqDiff, Nat.reduceMul, Int.reduceToNat, ↓reduceIte, List.take_of_length_le, evApp_n1, evApp_i0, evApp_i1, evApp_i2, evApp_i3, evApp_i4, evApp_i5, evApp_s0, evApp_s1, evApp_s2, evApp_s3, if_pos, if_neg, decide_eq_true, decide_eq_false, beq_t, beq_f, wrap_succ, wrap_in, getD_ints, getD_intss, getD_tsrs, fillA_len, fillA_at, fillA_full, evApp_z0, evApp_z1, evApp_z2, evApp_z3, evApp_i6, List.getElem?_set_self, List.set_set, Try.ntmps33, Try.results33, hc, q, ee_t2, ee_0112, ee_02, dec_t2, dec_0112, dec_02])
theorem can_contrI : CanCall Try.prog 56 := ⟨_, Try.func56, rfl, rfl⟩
set_option maxHeartbeats 4000000 in
set_option maxRecDepth 100000 in
theorem o_MatMul {Sg : FuncId → Option (List AV → Option AV)} (hS : Sound Try.prog Sg) (hc : Sg 56 = none) (x y : Tsr) (h : mmB x y) (hs : ∀ {l b out}, szOK l b → out.length ≤ 1048576 → OSpec Try.prog 56 [.ds 0 (l.map fun x => .agg [ints 0 x.sh, ints 0 x.vl]), .ds 0 (b.map fun r => .ds 0 (r.map fun n => .int .i64 n)), ints 0 out] (oR (tsrT ((extF l b).bind (contrF l b out)))) (oN (tsrT ((extF l b).bind (contrF l b out))))) : OSpec Try.prog 33 [.agg [ints 0 x.sh, ints 0 x.vl], .agg [ints 0 y.sh, ints 0 y.vl]] (oR (mmR x y)) (oN (mmR x y)) := by
  refine OSpec.intro Try.func33 rfl (vc_sound Try.pf hS _ _ _ ?_)
  repeat' (first | with_reducible refine RegQ.intro (by kernel_rfl) ?_ | ((with_reducible refine condQ_dec (fun hp => ?_) (fun hp => ?_)) <;> try simp only [hp]) | with_reducible refine condQ_beq (fun hp => ?_) (fun hp => ?_) | ((with_reducible refine wantQ_dec (fun hp => ?_) (fun hp => ?_)) <;> try simp only [hp]) | with_reducible refine wantQ_beq (fun hp => ?_) (fun hp => ?_) | ((with_reducible refine condQ_split (fun hp => ?_) (fun hp => ?_)) <;> try simp only [hp]) | ((with_reducible refine wantQ_split (fun hp => ?_) (fun hp => ?_)) <;> try simp only [hp]) | simp -implicitDefEqProofs (disch := omega) only [go_sem, Nat.reduceAdd, Nat.reduceSub, reduceCtorEq, Nat.reduceLT, Nat.reduceLeDiff, Nat.reduceEqDiff, Nat.reduceMul, Int.reduceToNat, ↓reduceIte, List.take_of_length_le, evApp_n1, evApp_i0, evApp_i1, evApp_i2, evApp_i3, evApp_i4, evApp_i5, evApp_s0, evApp_s1, evApp_s2, evApp_s3, if_pos, if_neg, decide_eq_true, decide_eq_false, beq_t, beq_f, wrap_succ, wrap_in, getD_ints, getD_intss, getD_tsrs, fillA_len, fillA_at, fillA_full, evApp_z0, evApp_z1, evApp_z2, evApp_z3, evApp_i6, List.getElem?_set_self, List.set_set, Try.ntmps33, Try.results33, hc, opQ_none])
  refine InlK_intro rfl rfl can_contrI ((hs (sz2 h) (by decide : [(0 : Int), 2].length ≤ 1048576)).call (by simp only [go_sem, ints, ee_t2, ee_0112, ee_02]) ?_)
  rcases mmR_cases x y with hM | ⟨t, hM, h1, h2, h3⟩
  · rw [show tsrT ((extF [x, y] [[0, 1], [1, 2]]).bind (contrF [x, y] [[0, 1], [1, 2]] [0, 2])) = _ from hM, hM]
    repeat' (first | with_reducible refine RegQ.intro (by kernel_rfl) ?_ | ((with_reducible refine condQ_dec (fun hp => ?_) (fun hp => ?_)) <;> try simp only [hp]) | with_reducible refine condQ_beq (fun hp => ?_) (fun hp => ?_) | ((with_reducible refine wantQ_dec (fun hp => ?_) (fun hp => ?_)) <;> try simp only [hp]) | with_reducible refine wantQ_beq (fun hp => ?_) (fun hp => ?_) | ((with_reducible refine condQ_split (fun hp => ?_) (fun hp => ?_)) <;> try simp only [hp]) | ((with_reducible refine wantQ_split (fun hp => ?_) (fun hp => ?_)) <;> try simp only [hp]) | simp -implicitDefEqProofs (disch := omega) only [go_sem, Nat.reduceAdd, Nat.reduceSub, reduceCtorEq, Nat.reduceLT, Nat.reduceLeDiff, Nat.reduceEqDiff, Nat.reduceMul, Int.reduceToNat, ↓reduceIte, List.take_of_length_le, evApp_n1, evApp_i0, evApp_i1, evApp_i2, evApp_i3, evApp_i4, evApp_i5, evApp_s0, evApp_s1, evApp_s2, evApp_s3, if_pos, if_neg, decide_eq_true, decide_eq_false, beq_t, beq_f, wrap_succ, wrap_in, getD_ints, getD_intss, getD_tsrs, fillA_len, fillA_at, fillA_full, evApp_z0, evApp_z1, evApp_z2, evApp_z3, evApp_i6, List.getElem?_set_self, List.set_set, Try.ntmps33, Try.results33, oR, oN])
    exact own_bad
  · rw [show tsrT ((extF [x, y] [[0, 1], [1, 2]]).bind (contrF [x, y] [[0, 1], [1, 2]] [0, 2])) = _ from hM, hM]
    obtain ⟨sh, vl⟩ := t
    match sh, h1 with
    | [a, b], _ =>
      repeat' (first | with_reducible refine RegQ.intro (by kernel_rfl) ?_ | ((with_reducible refine condQ_dec (fun hp => ?_) (fun hp => ?_)) <;> try simp only [hp]) | with_reducible refine condQ_beq (fun hp => ?_) (fun hp => ?_) | ((with_reducible refine wantQ_dec (fun hp => ?_) (fun hp => ?_)) <;> try simp only [hp]) | with_reducible refine wantQ_beq (fun hp => ?_) (fun hp => ?_) | ((with_reducible refine condQ_split (fun hp => ?_) (fun hp => ?_)) <;> try simp only [hp]) | ((with_reducible refine wantQ_split (fun hp => ?_) (fun hp => ?_)) <;> try simp only [hp]) | simp -implicitDefEqProofs (disch := omega) only [go_sem, Nat.reduceAdd, Nat.reduceSub, reduceCtorEq, Nat.reduceLT, Nat.reduceLeDiff, Nat.reduceEqDiff, Nat.reduceMul, Int.reduceToNat, ↓reduceIte, List.take_of_length_le, evApp_n1, evApp_i0, evApp_i1, evApp_i2, evApp_i3, evApp_i4, evApp_i5, evApp_s0, evApp_s1, evApp_s2, evApp_s3, if_pos, if_neg, decide_eq_true, decide_eq_false, beq_t, beq_f, wrap_succ, wrap_in, getD_ints, getD_intss, getD_tsrs, fillA_len, fillA_at, fillA_full, evApp_z0, evApp_z1, evApp_z2, evApp_z3, evApp_i6, List.getElem?_set_self, List.set_set, Try.ntmps33, Try.results33, oR, oN])
      exact own_two (x := ⟨[a, b], vl⟩) (b := 3) (c := 4) rfl rfl (by decide) (by simp)
end Go.Proofs.Ytbibnkgcegbmiaa
