/- Contracts of functions that the laws of this seat call. -/
import Derived.Test.YtfjhhbpipococaaJc
import Derived.Test.YtfjhhbpipococaaLd
set_option linter.all false
namespace Go.Proofs.Ytfjhhbpipococaa
open Go Go.Ev Go.RowKit Go.Ev.Enc Go.Pl

theorem tsrT_facts2 {x : Option Tsr} {t : Tsr} {o : Bool} (h : tsrT x = (t, o)) : (o = false → t = ⟨[], []⟩) ∧ t.sh.length ≤ 1048576 ∧ t.vl.length ≤ 60 := by
  cases x with
  | none =>
    simp only [tsrT, Prod.mk.injEq] at h
    obtain ⟨rfl, rfl⟩ := h
    exact ⟨fun _ => rfl, by decide, by decide⟩
  | some u =>
    cases hk : tsrOK u with
    | false =>
      simp only [tsrT, hk, Bool.false_eq_true, if_false, Prod.mk.injEq] at h
      obtain ⟨rfl, rfl⟩ := h
      exact ⟨fun _ => rfl, by decide, by decide⟩
    | true =>
      simp only [tsrT, hk, if_true, Prod.mk.injEq] at h
      obtain ⟨rfl, rfl⟩ := h
      have h1 := tsr_vl60 hk
      refine ⟨fun h => (by cases h), ?_, h1⟩
      unfold tsrOK shapeOK at hk
      simp only [Bool.and_eq_true, decide_eq_true_eq] at hk
      omega
theorem exp_oR {R : Tsr × Bool} (h : R.2 = false → R.1 = ⟨[], []⟩) : exp 1 (oN R 0) (oR R 0) = .tup [.agg [ints 1 R.1.sh, ints 1 R.1.vl], .bool R.2] := by
  obtain ⟨⟨sh, vl⟩, o⟩ := R
  match o, sh with
  | false, s =>
    have := h rfl
    simp only [Tsr.mk.injEq] at this
    obtain ⟨rfl, rfl⟩ := this
    rfl
  | true, [] => simp [oR, oN, exp, expE, expC, stepC, ints, Function.comp_def, List.take_of_length_le]
  | true, a :: s => simp [oR, oN, exp, expE, expC, stepC, ints, Function.comp_def, List.take_of_length_le]
theorem map_tsr0 (l : List Tsr) : exp 0 [] (.ds 0 (l.map fun x => .agg [ints 0 x.sh, ints 0 x.vl])) = .ds 0 (l.map fun x => .agg [ints 0 x.sh, ints 0 x.vl]) := by
  simp [exp, expE, expC, stepC, ints, Function.comp_def]
theorem map_row0 (l : List (List Int)) : exp 0 [] (.ds 0 (l.map fun r => .ds 0 (r.map fun n => .int .i64 n))) = .ds 0 (l.map fun r => .ds 0 (r.map fun n => .int .i64 n)) := by
  simp [exp, expE, expC, stepC, Function.comp_def]
theorem map_int0 (l : List Int) : exp 0 [] (ints 0 l) = ints 0 l := by simp [exp, expE, expC, stepC, ints, Function.comp_def]
theorem tsrT_bad {x : Option Tsr} (h : (tsrT x).2 = false) : (tsrT x).1 = ⟨[], []⟩ := tsrT_false (x := x) (t := (tsrT x).1) (by rw [← h])
set_option maxHeartbeats 4000000 in
set_option maxRecDepth 100000 in
theorem spec_ContractByI {Sg : FuncId → Option (List AV → Option AV)} (hS : Sound Try.prog Sg) (he : Sg 48 = some (F2 gExtentsOf)) (hp : Sg 49 = some (F3 gArePair)) (ha : Sg 50 = some (F1 gAreLabels)) (hk : Sg 51 = some (F4 gKept)) (hq : Sg 52 = some (F3 gContr3)) (c1 : Sg 63 = some (F2 gContains)) (c2 : Sg 73 = some (F1 gAllLabels)) (c3 : Sg 74 = some (F2 gCostOver)) (c4 : Sg 68 = some (F1 gIsShape)) (c5 : Sg 64 = some (F1 gCountOf)) (c6 : Sg 76 = some (F2 gTakenOf)) (c7 : Sg 66 = some (F2 gRankOf)) (c8 : Sg 62 = some (F1 gIsTensor)) (c9 : Sg 75 = none) : ∀ a r, F5 gConBy a = some r → CSpec Try.prog 14 a r := by
  refine F5_spec ?_
  intro l b out i j r hr
  obtain ⟨⟨h1, h2⟩, rfl⟩ := gd_some hr
  have hO := o_ContractByI (hS.hide 52) hS ((if_neg (by decide)).trans he) ((if_neg (by decide)).trans hp) ((if_neg (by decide)).trans ha) ((if_neg (by decide)).trans hk) hq (if_pos rfl) l b out i j h1 h2 (fun h1 h2 => o_contractI hS he ha c1 c2 c3 c4 c5 c6 c7 c8 c9 _ _ _ h1 h2)
  refine hO.cspec ?_ (own (tsrT (conBy l b out i j))) (exp_oR fun h => tsrT_bad h)
  show [_, _, _, _, _] = [_, _, _, _, _]
  rw [map_tsr0, map_row0, map_int0]
  rfl
set_option maxHeartbeats 4000000 in
set_option maxRecDepth 100000 in
theorem isp_pairOf {Sg : FuncId → Option (List AV → Option AV)} (hS : Sound Try.prog Sg) (h0 : Sg 77 = none) (h1 : Sg 93 = none) (h2 : Sg 57 = none) (h3 : Sg 94 = none) (h4 : Sg 80 = none) (hc : Sg 78 = some (F1 gCount)) (h5 : Sg 82 = none) (h6 : Sg 81 = none) (hk : Sg 79 = some (F2 gTakenOf)) (hl : Sg 70 = some (F2 gPlaceIn)) (h8 : Sg 56 = none) {bs : List UInt8} {b n : Nat} {rL : Int → List Blk} (hC : RC bs b n rL) (hb : bs.length ≤ 2000) (p : Int) (hp : 0 ≤ p ∧ p ≤ 600000000) (hcp : CopyO) (hin : InsO) : ISpec Try.prog 54 [.ptr b 1 0 0] (rL p) (fun r L' => ∃ (xs : List Tsr) (ls : List (List Int)) (out : List Int) (i j : Int) (p' : Int), DrC xs ls out ∧ r = .tup [listD xs, labsD ls, ints 1 out, i64 i, i64 j] ∧ p ≤ p' ∧ p' ≤ p + 2000 ∧ L' = rL p') := by
  refine ISpec.ret Try.func54 rfl (vc3_sound Try.pf hS hS _ _ _ ?_)
  repeat' (first | with_reducible refine RegQ.intro (by kernel_rfl) ?_ | with_reducible refine DrawQ.nat (by kernel_rfl) ?_ | ((with_reducible refine condQ_dec (fun hp => ?_) (fun hp => ?_)) <;> try simp only [hp]) | with_reducible refine condQ_beq (fun hp => ?_) (fun hp => ?_) | ((with_reducible refine wantQ_dec (fun hp => ?_) (fun hp => ?_)) <;> try simp only [hp]) | with_reducible refine wantQ_beq (fun hp => ?_) (fun hp => ?_) | ((with_reducible refine condQ_split (fun hp => ?_) (fun hp => ?_)) <;> try simp only [hp]) | ((with_reducible refine wantQ_split (fun hp => ?_) (fun hp => ?_)) <;> try simp only [hp]) | simp -implicitDefEqProofs (disch := omega) only [go_sem, Nat.reduceAdd, Nat.reduceSub, reduceCtorEq, Nat.reduceLT, Nat.reduceLeDiff, Nat.reduceEqDiff, Nat.reduceMul, Int.reduceToNat, ↓reduceIte, List.take_of_length_le, evApp_n1, evApp_i0, evApp_i1, evApp_i2, evApp_i3, evApp_i4, evApp_i5, evApp_s0, evApp_s1, evApp_s2, evApp_s3, if_pos, if_neg, decide_eq_true, decide_eq_false, beq_t, beq_f, wrap_succ, wrap_in, getD_ints, getD_intss, getD_tsrs, fillA_len, fillA_at, fillA_full, evApp_z0, evApp_z1, evApp_z2, evApp_z3, evApp_i6, List.getElem?_set_self, List.set_set, Try.ntmps54, Try.results54, hC.len, hC.get, hC.set, hC.get', hC.set', hC.at0, hC.at', hC.sat0, hC.sat', hC.len', hC.tk0, hC.tk1, hC.tk2, hC.tk3, hC.tk4, hC.tk5, hC.tk6, h2, opQ_none])
  refine InlK_intro rfl rfl can_one ((isp_one hS h0 hC hb p (by omega) 2 [3, 3, 2] (by decide)).mono ?_)
  rintro r L1 ⟨v, rfl, k1, rfl⟩
  obtain ⟨m, rfl⟩ : ∃ m : Nat, v = m := ⟨v.toNat, by simp at k1; omega⟩
  have hm : 1 ≤ m ∧ m ≤ 3 := by simp at k1; omega
  repeat' (first | with_reducible refine RegQ.intro (by kernel_rfl) ?_ | with_reducible refine DrawQ.nat (by kernel_rfl) ?_ | ((with_reducible refine condQ_dec (fun hp => ?_) (fun hp => ?_)) <;> try simp only [hp]) | with_reducible refine condQ_beq (fun hp => ?_) (fun hp => ?_) | ((with_reducible refine wantQ_dec (fun hp => ?_) (fun hp => ?_)) <;> try simp only [hp]) | with_reducible refine wantQ_beq (fun hp => ?_) (fun hp => ?_) | ((with_reducible refine condQ_split (fun hp => ?_) (fun hp => ?_)) <;> try simp only [hp]) | ((with_reducible refine wantQ_split (fun hp => ?_) (fun hp => ?_)) <;> try simp only [hp]) | simp -implicitDefEqProofs (disch := omega) only [go_sem, Nat.reduceAdd, Nat.reduceSub, reduceCtorEq, Nat.reduceLT, Nat.reduceLeDiff, Nat.reduceEqDiff, Nat.reduceMul, Int.reduceToNat, ↓reduceIte, List.take_of_length_le, evApp_n1, evApp_i0, evApp_i1, evApp_i2, evApp_i3, evApp_i4, evApp_i5, evApp_s0, evApp_s1, evApp_s2, evApp_s3, if_pos, if_neg, decide_eq_true, decide_eq_false, beq_t, beq_f, wrap_succ, wrap_in, getD_ints, getD_intss, getD_tsrs, fillA_len, fillA_at, fillA_full, evApp_z0, evApp_z1, evApp_z2, evApp_z3, evApp_i6, List.getElem?_set_self, List.set_set, Try.ntmps54, Try.results54, hC.len, hC.get, hC.set, hC.get', hC.set', hC.at0, hC.at', hC.sat0, hC.sat', hC.len', hC.tk0, hC.tk1, hC.tk2, hC.tk3, hC.tk4, hC.tk5, hC.tk6, h8, opQ_none])
  refine InlK_intro rfl rfl can_productOf ((isp_productOf hS h0 h1 h2 h3 h4 hc h5 h6 hk hl hC hb (p + 1) (by omega) hcp hin m hm).mono ?_)
  rintro r L1 ⟨xs, ls, out, p', m1, m2, m3, m4, m5, rfl, m6, m7, rfl⟩
  repeat' (first | with_reducible refine RegQ.intro (by kernel_rfl) ?_ | with_reducible refine DrawQ.nat (by kernel_rfl) ?_ | ((with_reducible refine condQ_dec (fun hp => ?_) (fun hp => ?_)) <;> try simp only [hp]) | with_reducible refine condQ_beq (fun hp => ?_) (fun hp => ?_) | ((with_reducible refine wantQ_dec (fun hp => ?_) (fun hp => ?_)) <;> try simp only [hp]) | with_reducible refine wantQ_beq (fun hp => ?_) (fun hp => ?_) | ((with_reducible refine condQ_split (fun hp => ?_) (fun hp => ?_)) <;> try simp only [hp]) | ((with_reducible refine wantQ_split (fun hp => ?_) (fun hp => ?_)) <;> try simp only [hp]) | simp -implicitDefEqProofs (disch := omega) only [go_sem, Nat.reduceAdd, Nat.reduceSub, reduceCtorEq, Nat.reduceLT, Nat.reduceLeDiff, Nat.reduceEqDiff, Nat.reduceMul, Int.reduceToNat, ↓reduceIte, List.take_of_length_le, evApp_n1, evApp_i0, evApp_i1, evApp_i2, evApp_i3, evApp_i4, evApp_i5, evApp_s0, evApp_s1, evApp_s2, evApp_s3, if_pos, if_neg, decide_eq_true, decide_eq_false, beq_t, beq_f, wrap_succ, wrap_in, getD_ints, getD_intss, getD_tsrs, fillA_len, fillA_at, fillA_full, evApp_z0, evApp_z1, evApp_z2, evApp_z3, evApp_i6, List.getElem?_set_self, List.set_set, Try.ntmps54, Try.results54, hC.len, hC.get, hC.set, hC.get', hC.set', hC.at0, hC.at', hC.sat0, hC.sat', hC.len', hC.tk0, hC.tk1, hC.tk2, hC.tk3, hC.tk4, hC.tk5, hC.tk6, h2, opQ_none])
  refine InlK_intro rfl rfl can_one ((isp_one hS h0 hC hb p' (by omega) 2 [0, 1, 2, 0, -1] (by decide)).mono ?_)
  rintro r L1 ⟨i, rfl, k2, rfl⟩
  repeat' (first | with_reducible refine RegQ.intro (by kernel_rfl) ?_ | with_reducible refine DrawQ.nat (by kernel_rfl) ?_ | ((with_reducible refine condQ_dec (fun hp => ?_) (fun hp => ?_)) <;> try simp only [hp]) | with_reducible refine condQ_beq (fun hp => ?_) (fun hp => ?_) | ((with_reducible refine wantQ_dec (fun hp => ?_) (fun hp => ?_)) <;> try simp only [hp]) | with_reducible refine wantQ_beq (fun hp => ?_) (fun hp => ?_) | ((with_reducible refine condQ_split (fun hp => ?_) (fun hp => ?_)) <;> try simp only [hp]) | ((with_reducible refine wantQ_split (fun hp => ?_) (fun hp => ?_)) <;> try simp only [hp]) | simp -implicitDefEqProofs (disch := omega) only [go_sem, Nat.reduceAdd, Nat.reduceSub, reduceCtorEq, Nat.reduceLT, Nat.reduceLeDiff, Nat.reduceEqDiff, Nat.reduceMul, Int.reduceToNat, ↓reduceIte, List.take_of_length_le, evApp_n1, evApp_i0, evApp_i1, evApp_i2, evApp_i3, evApp_i4, evApp_i5, evApp_s0, evApp_s1, evApp_s2, evApp_s3, if_pos, if_neg, decide_eq_true, decide_eq_false, beq_t, beq_f, wrap_succ, wrap_in, getD_ints, getD_intss, getD_tsrs, fillA_len, fillA_at, fillA_full, evApp_z0, evApp_z1, evApp_z2, evApp_z3, evApp_i6, List.getElem?_set_self, List.set_set, Try.ntmps54, Try.results54, hC.len, hC.get, hC.set, hC.get', hC.set', hC.at0, hC.at', hC.sat0, hC.sat', hC.len', hC.tk0, hC.tk1, hC.tk2, hC.tk3, hC.tk4, hC.tk5, hC.tk6, h2, opQ_none])
  refine InlK_intro rfl rfl can_one ((isp_one hS h0 hC hb (p' + 1) (by omega) 2 [1, 2, 0, 1, 3] (by decide)).mono ?_)
  rintro r L1 ⟨j, rfl, k3, rfl⟩
  repeat' (first | with_reducible refine RegQ.intro (by kernel_rfl) ?_ | with_reducible refine DrawQ.nat (by kernel_rfl) ?_ | ((with_reducible refine condQ_dec (fun hp => ?_) (fun hp => ?_)) <;> try simp only [hp]) | with_reducible refine condQ_beq (fun hp => ?_) (fun hp => ?_) | ((with_reducible refine wantQ_dec (fun hp => ?_) (fun hp => ?_)) <;> try simp only [hp]) | with_reducible refine wantQ_beq (fun hp => ?_) (fun hp => ?_) | ((with_reducible refine condQ_split (fun hp => ?_) (fun hp => ?_)) <;> try simp only [hp]) | ((with_reducible refine wantQ_split (fun hp => ?_) (fun hp => ?_)) <;> try simp only [hp]) | simp -implicitDefEqProofs (disch := omega) only [go_sem, Nat.reduceAdd, Nat.reduceSub, reduceCtorEq, Nat.reduceLT, Nat.reduceLeDiff, Nat.reduceEqDiff, Nat.reduceMul, Int.reduceToNat, ↓reduceIte, List.take_of_length_le, evApp_n1, evApp_i0, evApp_i1, evApp_i2, evApp_i3, evApp_i4, evApp_i5, evApp_s0, evApp_s1, evApp_s2, evApp_s3, if_pos, if_neg, decide_eq_true, decide_eq_false, beq_t, beq_f, wrap_succ, wrap_in, getD_ints, getD_intss, getD_tsrs, fillA_len, fillA_at, fillA_full, evApp_z0, evApp_z1, evApp_z2, evApp_z3, evApp_i6, List.getElem?_set_self, List.set_set, Try.ntmps54, Try.results54, hC.len, hC.get, hC.set, hC.get', hC.set', hC.at0, hC.at', hC.sat0, hC.sat', hC.len', hC.tk0, hC.tk1, hC.tk2, hC.tk3, hC.tk4, hC.tk5, hC.tk6])
  refine hC.retN ⟨xs, ls, out, i, j, p' + 1 + 1, ⟨by omega, by omega, by omega, m3, m4, m5⟩, ?_, by omega, by omega, rfl⟩
  rw [selV_tup]
  simp only [List.map_cons, List.map_nil]
  rw [sel_listD, sel_labsD, selE_ints]
  rfl
theorem can_pairOf : CanCall Try.prog 54 := ⟨_, Try.func54, rfl, rfl⟩
set_option maxHeartbeats 4000000 in
set_option maxRecDepth 100000 in
theorem isp_DrawContractBy {Sg : FuncId → Option (List AV → Option AV)} (hS : Sound Try.prog Sg) (h0 : Sg 77 = none) (h1 : Sg 93 = none) (h2 : Sg 57 = none) (h3 : Sg 94 = none) (h4 : Sg 80 = none) (hc : Sg 78 = some (F1 gCount)) (h5 : Sg 82 = none) (h6 : Sg 81 = none) (hk : Sg 79 = some (F2 gTakenOf)) (hl : Sg 70 = some (F2 gPlaceIn)) (h7 : Sg 55 = none) (h8 : Sg 56 = none) (h9 : Sg 54 = none) (bs : List UInt8) (hb : bs.length ≤ 1048576) (L : List Blk) (hcp : CopyO) (hin : InsO) : ISpec Try.prog 24 [bytesA 0 bs] (L) (fun r L' => ∃ (xs : List Tsr) (ls : List (List Int)) (out : List Int) (i j : Int), DrC xs ls out ∧ r = .tup [listD xs, labsD ls, ints 1 out, i64 i, i64 j] ∧ L' = L) := by
  refine ISpec.ret Try.func24 rfl (vc3_sound Try.pf hS hS _ _ _ ?_)
  repeat' (first | with_reducible refine RegQ.intro (by kernel_rfl) ?_ | with_reducible refine DrawQ.nat (by kernel_rfl) ?_ | ((with_reducible refine condQ_dec (fun hp => ?_) (fun hp => ?_)) <;> try simp only [hp]) | with_reducible refine condQ_beq (fun hp => ?_) (fun hp => ?_) | ((with_reducible refine wantQ_dec (fun hp => ?_) (fun hp => ?_)) <;> try simp only [hp]) | with_reducible refine wantQ_beq (fun hp => ?_) (fun hp => ?_) | ((with_reducible refine condQ_split (fun hp => ?_) (fun hp => ?_)) <;> try simp only [hp]) | ((with_reducible refine wantQ_split (fun hp => ?_) (fun hp => ?_)) <;> try simp only [hp]) | simp -implicitDefEqProofs (disch := omega) only [go_sem, Nat.reduceAdd, Nat.reduceSub, reduceCtorEq, Nat.reduceLT, Nat.reduceLeDiff, Nat.reduceEqDiff, Nat.reduceMul, Int.reduceToNat, ↓reduceIte, List.take_of_length_le, evApp_n1, evApp_i0, evApp_i1, evApp_i2, evApp_i3, evApp_i4, evApp_i5, evApp_s0, evApp_s1, evApp_s2, evApp_s3, if_pos, if_neg, decide_eq_true, decide_eq_false, beq_t, beq_f, wrap_succ, wrap_in, getD_ints, getD_intss, getD_tsrs, fillA_len, fillA_at, fillA_full, evApp_z0, evApp_z1, evApp_z2, evApp_z3, evApp_i6, List.getElem?_set_self, List.set_set, Try.ntmps24, Try.results24, h7, opQ_none])
  refine InlK_intro rfl rfl can_newReader ((isp_newReader hS bs hb _).mono ?_)
  rintro r L1 ⟨rfl, rfl⟩
  have hC := RC.new (bs.take 2000) L
  have hb2 : (bs.take 2000).length ≤ 2000 := by simp; omega
  repeat' (first | with_reducible refine RegQ.intro (by kernel_rfl) ?_ | with_reducible refine DrawQ.nat (by kernel_rfl) ?_ | ((with_reducible refine condQ_dec (fun hp => ?_) (fun hp => ?_)) <;> try simp only [hp]) | with_reducible refine condQ_beq (fun hp => ?_) (fun hp => ?_) | ((with_reducible refine wantQ_dec (fun hp => ?_) (fun hp => ?_)) <;> try simp only [hp]) | with_reducible refine wantQ_beq (fun hp => ?_) (fun hp => ?_) | ((with_reducible refine condQ_split (fun hp => ?_) (fun hp => ?_)) <;> try simp only [hp]) | ((with_reducible refine wantQ_split (fun hp => ?_) (fun hp => ?_)) <;> try simp only [hp]) | simp -implicitDefEqProofs (disch := omega) only [go_sem, Nat.reduceAdd, Nat.reduceSub, reduceCtorEq, Nat.reduceLT, Nat.reduceLeDiff, Nat.reduceEqDiff, Nat.reduceMul, Int.reduceToNat, ↓reduceIte, List.take_of_length_le, evApp_n1, evApp_i0, evApp_i1, evApp_i2, evApp_i3, evApp_i4, evApp_i5, evApp_s0, evApp_s1, evApp_s2, evApp_s3, if_pos, if_neg, decide_eq_true, decide_eq_false, beq_t, beq_f, wrap_succ, wrap_in, getD_ints, getD_intss, getD_tsrs, fillA_len, fillA_at, fillA_full, evApp_z0, evApp_z1, evApp_z2, evApp_z3, evApp_i6, List.getElem?_set_self, List.set_set, Try.ntmps24, Try.results24, h9, opQ_none])
  refine InlK_intro rfl rfl can_pairOf ((isp_pairOf hS h0 h1 h2 h3 h4 hc h5 h6 hk hl h8 hC hb2 0 (by omega) hcp hin).mono ?_)
  rintro r L1 ⟨xs, ls, out, i, j, p', m1, rfl, m6, m7, rfl⟩
  repeat' (first | with_reducible refine RegQ.intro (by kernel_rfl) ?_ | with_reducible refine DrawQ.nat (by kernel_rfl) ?_ | ((with_reducible refine condQ_dec (fun hp => ?_) (fun hp => ?_)) <;> try simp only [hp]) | with_reducible refine condQ_beq (fun hp => ?_) (fun hp => ?_) | ((with_reducible refine wantQ_dec (fun hp => ?_) (fun hp => ?_)) <;> try simp only [hp]) | with_reducible refine wantQ_beq (fun hp => ?_) (fun hp => ?_) | ((with_reducible refine condQ_split (fun hp => ?_) (fun hp => ?_)) <;> try simp only [hp]) | ((with_reducible refine wantQ_split (fun hp => ?_) (fun hp => ?_)) <;> try simp only [hp]) | simp -implicitDefEqProofs (disch := omega) only [go_sem, Nat.reduceAdd, Nat.reduceSub, reduceCtorEq, Nat.reduceLT, Nat.reduceLeDiff, Nat.reduceEqDiff, Nat.reduceMul, Int.reduceToNat, ↓reduceIte, List.take_of_length_le, evApp_n1, evApp_i0, evApp_i1, evApp_i2, evApp_i3, evApp_i4, evApp_i5, evApp_s0, evApp_s1, evApp_s2, evApp_s3, if_pos, if_neg, decide_eq_true, decide_eq_false, beq_t, beq_f, wrap_succ, wrap_in, getD_ints, getD_intss, getD_tsrs, fillA_len, fillA_at, fillA_full, evApp_z0, evApp_z1, evApp_z2, evApp_z3, evApp_i6, List.getElem?_set_self, List.set_set, Try.ntmps24, Try.results24])
  refine RetQ.top ⟨xs, ls, out, i, j, m1, ?_, rfl⟩
  rw [selV_tup]
  simp only [List.map_cons, List.map_nil]
  rw [sel_listD, sel_labsD, selE_ints]
  rfl
theorem can_DrawContractBy : CanCall Try.prog 24 := ⟨_, Try.func24, rfl, rfl⟩
def DrCoBy : Prop := ∀ (bs : List UInt8), bs.length ≤ 1048576 → ∀ L : List Blk, ISpec Try.prog 24 [bytesA 0 bs] L (fun r L' => ∃ (xs : List Tsr) (ls : List (List Int)) (out : List Int) (i j : Int), DrC xs ls out ∧ r = .tup [listD xs, labsD ls, ints 1 out, i64 i, i64 j] ∧ L' = L)
set_option maxHeartbeats 4000000 in
set_option maxRecDepth 100000 in
theorem isp_DrawBestPair {Sg : FuncId → Option (List AV → Option AV)} (hS : Sound Try.prog Sg) (h0 : Sg 77 = none) (h1 : Sg 93 = none) (h2 : Sg 57 = none) (h3 : Sg 94 = none) (h4 : Sg 80 = none) (hc : Sg 78 = some (F1 gCount)) (h5 : Sg 82 = none) (h6 : Sg 81 = none) (hk : Sg 79 = some (F2 gTakenOf)) (hl : Sg 70 = some (F2 gPlaceIn)) (h7 : Sg 55 = none) (h8 : Sg 56 = none) (bs : List UInt8) (hb : bs.length ≤ 1048576) (L : List Blk) (hcp : CopyO) (hin : InsO) : ISpec Try.prog 27 [bytesA 0 bs] (L) (fun r L' => ∃ xs ls out, DrC xs ls out ∧ r = .tup [listD xs, labsD ls, ints 1 out] ∧ L' = L) := by
  refine ISpec.ret Try.func27 rfl (vc3_sound Try.pf hS hS _ _ _ ?_)
  repeat' (first | with_reducible refine RegQ.intro (by kernel_rfl) ?_ | with_reducible refine DrawQ.nat (by kernel_rfl) ?_ | ((with_reducible refine condQ_dec (fun hp => ?_) (fun hp => ?_)) <;> try simp only [hp]) | with_reducible refine condQ_beq (fun hp => ?_) (fun hp => ?_) | ((with_reducible refine wantQ_dec (fun hp => ?_) (fun hp => ?_)) <;> try simp only [hp]) | with_reducible refine wantQ_beq (fun hp => ?_) (fun hp => ?_) | ((with_reducible refine condQ_split (fun hp => ?_) (fun hp => ?_)) <;> try simp only [hp]) | ((with_reducible refine wantQ_split (fun hp => ?_) (fun hp => ?_)) <;> try simp only [hp]) | simp -implicitDefEqProofs (disch := omega) only [go_sem, Nat.reduceAdd, Nat.reduceSub, reduceCtorEq, Nat.reduceLT, Nat.reduceLeDiff, Nat.reduceEqDiff, Nat.reduceMul, Int.reduceToNat, ↓reduceIte, List.take_of_length_le, evApp_n1, evApp_i0, evApp_i1, evApp_i2, evApp_i3, evApp_i4, evApp_i5, evApp_s0, evApp_s1, evApp_s2, evApp_s3, if_pos, if_neg, decide_eq_true, decide_eq_false, beq_t, beq_f, wrap_succ, wrap_in, getD_ints, getD_intss, getD_tsrs, fillA_len, fillA_at, fillA_full, evApp_z0, evApp_z1, evApp_z2, evApp_z3, evApp_i6, List.getElem?_set_self, List.set_set, Try.ntmps27, Try.results27, h7, opQ_none])
  refine InlK_intro rfl rfl can_newReader ((isp_newReader hS bs hb _).mono ?_)
  rintro r L1 ⟨rfl, rfl⟩
  have hC := RC.new (bs.take 2000) L
  have hb2 : (bs.take 2000).length ≤ 2000 := by simp; omega
  repeat' (first | with_reducible refine RegQ.intro (by kernel_rfl) ?_ | with_reducible refine DrawQ.nat (by kernel_rfl) ?_ | ((with_reducible refine condQ_dec (fun hp => ?_) (fun hp => ?_)) <;> try simp only [hp]) | with_reducible refine condQ_beq (fun hp => ?_) (fun hp => ?_) | ((with_reducible refine wantQ_dec (fun hp => ?_) (fun hp => ?_)) <;> try simp only [hp]) | with_reducible refine wantQ_beq (fun hp => ?_) (fun hp => ?_) | ((with_reducible refine condQ_split (fun hp => ?_) (fun hp => ?_)) <;> try simp only [hp]) | ((with_reducible refine wantQ_split (fun hp => ?_) (fun hp => ?_)) <;> try simp only [hp]) | simp -implicitDefEqProofs (disch := omega) only [go_sem, Nat.reduceAdd, Nat.reduceSub, reduceCtorEq, Nat.reduceLT, Nat.reduceLeDiff, Nat.reduceEqDiff, Nat.reduceMul, Int.reduceToNat, ↓reduceIte, List.take_of_length_le, evApp_n1, evApp_i0, evApp_i1, evApp_i2, evApp_i3, evApp_i4, evApp_i5, evApp_s0, evApp_s1, evApp_s2, evApp_s3, if_pos, if_neg, decide_eq_true, decide_eq_false, beq_t, beq_f, wrap_succ, wrap_in, getD_ints, getD_intss, getD_tsrs, fillA_len, fillA_at, fillA_full, evApp_z0, evApp_z1, evApp_z2, evApp_z3, evApp_i6, List.getElem?_set_self, List.set_set, Try.ntmps27, Try.results27, h2, opQ_none])
  refine InlK_intro rfl rfl can_one ((isp_one hS h0 hC hb2 0 (by omega) 2 [3, 3, 2, 1] (by decide)).mono ?_)
  rintro r L1 ⟨v, rfl, k1, rfl⟩
  obtain ⟨m, rfl⟩ : ∃ m : Nat, v = m := ⟨v.toNat, by simp at k1; omega⟩
  have hm : 1 ≤ m ∧ m ≤ 3 := by simp at k1; omega
  repeat' (first | with_reducible refine RegQ.intro (by kernel_rfl) ?_ | with_reducible refine DrawQ.nat (by kernel_rfl) ?_ | ((with_reducible refine condQ_dec (fun hp => ?_) (fun hp => ?_)) <;> try simp only [hp]) | with_reducible refine condQ_beq (fun hp => ?_) (fun hp => ?_) | ((with_reducible refine wantQ_dec (fun hp => ?_) (fun hp => ?_)) <;> try simp only [hp]) | with_reducible refine wantQ_beq (fun hp => ?_) (fun hp => ?_) | ((with_reducible refine condQ_split (fun hp => ?_) (fun hp => ?_)) <;> try simp only [hp]) | ((with_reducible refine wantQ_split (fun hp => ?_) (fun hp => ?_)) <;> try simp only [hp]) | simp -implicitDefEqProofs (disch := omega) only [go_sem, Nat.reduceAdd, Nat.reduceSub, reduceCtorEq, Nat.reduceLT, Nat.reduceLeDiff, Nat.reduceEqDiff, Nat.reduceMul, Int.reduceToNat, ↓reduceIte, List.take_of_length_le, evApp_n1, evApp_i0, evApp_i1, evApp_i2, evApp_i3, evApp_i4, evApp_i5, evApp_s0, evApp_s1, evApp_s2, evApp_s3, if_pos, if_neg, decide_eq_true, decide_eq_false, beq_t, beq_f, wrap_succ, wrap_in, getD_ints, getD_intss, getD_tsrs, fillA_len, fillA_at, fillA_full, evApp_z0, evApp_z1, evApp_z2, evApp_z3, evApp_i6, List.getElem?_set_self, List.set_set, Try.ntmps27, Try.results27, h8, opQ_none])
  refine InlK_intro rfl rfl can_productOf ((isp_productOf hS h0 h1 h2 h3 h4 hc h5 h6 hk hl hC hb2 (0 + 1) (by omega) hcp hin m hm).mono ?_)
  rintro r L1 ⟨xs, ls, out, p', m1, m2, m3, m4, m5, rfl, m6, m7, rfl⟩
  repeat' (first | with_reducible refine RegQ.intro (by kernel_rfl) ?_ | with_reducible refine DrawQ.nat (by kernel_rfl) ?_ | ((with_reducible refine condQ_dec (fun hp => ?_) (fun hp => ?_)) <;> try simp only [hp]) | with_reducible refine condQ_beq (fun hp => ?_) (fun hp => ?_) | ((with_reducible refine wantQ_dec (fun hp => ?_) (fun hp => ?_)) <;> try simp only [hp]) | with_reducible refine wantQ_beq (fun hp => ?_) (fun hp => ?_) | ((with_reducible refine condQ_split (fun hp => ?_) (fun hp => ?_)) <;> try simp only [hp]) | ((with_reducible refine wantQ_split (fun hp => ?_) (fun hp => ?_)) <;> try simp only [hp]) | simp -implicitDefEqProofs (disch := omega) only [go_sem, Nat.reduceAdd, Nat.reduceSub, reduceCtorEq, Nat.reduceLT, Nat.reduceLeDiff, Nat.reduceEqDiff, Nat.reduceMul, Int.reduceToNat, ↓reduceIte, List.take_of_length_le, evApp_n1, evApp_i0, evApp_i1, evApp_i2, evApp_i3, evApp_i4, evApp_i5, evApp_s0, evApp_s1, evApp_s2, evApp_s3, if_pos, if_neg, decide_eq_true, decide_eq_false, beq_t, beq_f, wrap_succ, wrap_in, getD_ints, getD_intss, getD_tsrs, fillA_len, fillA_at, fillA_full, evApp_z0, evApp_z1, evApp_z2, evApp_z3, evApp_i6, List.getElem?_set_self, List.set_set, Try.ntmps27, Try.results27])
  refine RetQ.top ⟨xs, ls, out, ⟨by omega, by omega, by omega, m3, m4, m5⟩, ?_, rfl⟩
  exact sel_three
theorem can_DrawBestPair : CanCall Try.prog 27 := ⟨_, Try.func27, rfl, rfl⟩
def DrBest : Prop := ∀ (bs : List UInt8), bs.length ≤ 1048576 → ∀ L : List Blk, ISpec Try.prog 27 [bytesA 0 bs] L (fun r L' => ∃ xs ls out, DrC xs ls out ∧ r = .tup [listD xs, labsD ls, ints 1 out] ∧ L' = L)

/-! ### two ways, one result -/
theorem conBy_get {l : List Tsr} {b : List (List Int)} {out : List Int} {i j : Int} {t : Tsr} (h : conBy l b out i j = some t) : ∃ e, extF l b = some e ∧ t.sh = tkn e out ∧ t.vl.length = (prodW (tkn e out)).toNat ∧ ∀ r, r < t.vl.length → t.vl.getD r 0 = IntKind.i64.wrap (sumG l b out (tkn e out) e r (srt b.flatten) (List.replicate 5 0)) := by
  cases hE : extF l b with
  | none => rw [conBy_none hE] at h; simp at h
  | some e =>
    by_cases hpp : pairOK l.length i j ∧ labOK out = true
    · obtain ⟨f, o, hf⟩ : ∃ f o, tsrT (con2 l b out i j) = (f, o) := ⟨_, _, rfl⟩
      cases o with
      | false => rw [conBy_two hE hpp hf] at h; simp at h
      | true =>
        rw [conBy_all hE hpp hf] at h
        exact ⟨e, rfl, by_get hE hpp.1 hpp.2 (tsrT_true hf).1 h⟩
    · rw [conBy_bad hE hpp] at h; simp at h
theorem tsr_ext3 {t t' : Tsr} (h1 : t.sh = t'.sh) (h2 : t.vl.length = t'.vl.length) (h3 : ∀ r, r < t.vl.length → t.vl.getD r 0 = t'.vl.getD r 0) : t = t' := by
  obtain ⟨s, v⟩ := t
  obtain ⟨s', v'⟩ := t'
  have : v = v' := ints_ext h2 h3
  simp only at h1
  rw [h1, this]
theorem by_con {l : List Tsr} {b : List (List Int)} {out : List Int} {i j : Int} {t t' : Tsr} (h : conBy l b out i j = some t) (h' : (extF l b).bind (contrF l b out) = some t') : t' = t := by
  obtain ⟨e, hE, c1, c2, c3⟩ := conBy_get h
  rw [hE, Option.bind_some] at h'
  obtain ⟨d1, d2, d3⟩ := contr_get hE h'
  exact tsr_ext3 (by rw [c1, d1]) (by rw [c2, d2]) fun r hr => by rw [d3 r hr, c3 r (by rw [c2, ← d2]; exact hr)]
theorem by_by {l : List Tsr} {b : List (List Int)} {out : List Int} {i j i' j' : Int} {t t' : Tsr} (h : conBy l b out i j = some t) (h' : conBy l b out i' j' = some t') : t' = t := by
  obtain ⟨e, hE, c1, c2, c3⟩ := conBy_get h
  obtain ⟨e', hE', d1, d2, d3⟩ := conBy_get h'
  rw [hE] at hE'
  cases hE'
  exact tsr_ext3 (by rw [c1, d1]) (by rw [c2, d2]) fun r hr => by rw [d3 r hr, c3 r (by rw [c2, ← d2]; exact hr)]
end Go.Proofs.Ytfjhhbpipococaa
