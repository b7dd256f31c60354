/- Contracts of functions that the laws of this seat call. -/
import Derived.Test.YtfjhhbpipococaaJb
import Derived.Test.YtfjhhbpipococaaIa
import Derived.Test.YtfjhhbpipococaaHd
set_option linter.all false
namespace Go.Proofs.Ytfjhhbpipococaa
open Go Go.Ev Go.RowKit Go.Ev.Enc Go.Pl

theorem can_productOf : CanCall Try.prog 56 := ⟨_, Try.func56, rfl, rfl⟩
abbrev listD (xs : List Tsr) : AV := .ds 1 (xs.map fun x => .agg [ints 1 x.sh, ints 1 x.vl])
abbrev labsD (ls : List (List Int)) : AV := .ds 1 (ls.map fun l => .ds 1 (l.map fun n => .int .i64 n))
theorem sel_listD {g : Nat → Option Nat} {L : List Blk} {xs : List Tsr} : expE (selC g L) (listD xs) = listD xs := by
  show selStep g L (selStep g L (selStep g L (selStep g L fun _ => .any))) (.ds 1 _) = _
  simp [selStep, expE, ints, Function.comp_def]
theorem sel_labsD {g : Nat → Option Nat} {L : List Blk} {ls : List (List Int)} : expE (selC g L) (labsD ls) = labsD ls := by
  show selStep g L (selStep g L (selStep g L (selStep g L fun _ => .any))) (.ds 1 _) = _
  simp [selStep, expE, ints, Function.comp_def]
theorem selE_ints {g : Nat → Option Nat} {L : List Blk} {q : List Int} : expE (selC g L) (ints 1 q) = ints 1 q := selC_d
theorem sel_three {g : Nat → Option Nat} {L : List Blk} {xs : List Tsr} {ls : List (List Int)} {q : List Int} : selV g L (.tup [listD xs, labsD ls, ints 1 q]) = .tup [listD xs, labsD ls, ints 1 q] := by
  rw [selV_tup]
  simp only [List.map_cons, List.map_nil]
  rw [sel_listD, sel_labsD, selE_ints]
/-- the bounds of drawn factors -/
structure DrC (xs : List Tsr) (ls : List (List Int)) (out : List Int) : Prop where
  l1 : 1 ≤ xs.length
  l3 : xs.length ≤ 3
  ll : ls.length = xs.length
  xb : ∀ x ∈ xs, drB x
  lb : ∀ l ∈ ls, l.length ≤ 4
  ob : out.length ≤ 6
set_option maxHeartbeats 4000000 in
set_option maxRecDepth 100000 in
theorem isp_DrawContract {Sg : FuncId → Option (List AV → Option AV)} (hS : Sound Try.prog Sg) (h0 : Sg 77 = none) (h1 : Sg 93 = none) (h2 : Sg 57 = none) (h3 : Sg 94 = none) (h4 : Sg 80 = none) (hc : Sg 78 = some (F1 gCount)) (h5 : Sg 82 = none) (h6 : Sg 81 = none) (hk : Sg 79 = some (F2 gTakenOf)) (hl : Sg 70 = some (F2 gPlaceIn)) (h7 : Sg 55 = none) (h8 : Sg 56 = none) (bs : List UInt8) (hb : bs.length ≤ 1048576) (L : List Blk) (hcp : CopyO) (hin : InsO) : ISpec Try.prog 31 [bytesA 0 bs] (L) (fun r L' => ∃ xs ls out, DrC xs ls out ∧ r = .tup [listD xs, labsD ls, ints 1 out] ∧ L' = L) := by
  refine ISpec.ret Try.func31 rfl (vc3_sound Try.pf hS hS _ _ _ ?_)
  repeat' (first | with_reducible refine RegQ.intro (by kernel_rfl) ?_ | with_reducible refine DrawQ.nat (by kernel_rfl) ?_ | ((with_reducible refine condQ_dec (fun hp => ?_) (fun hp => ?_)) <;> try simp only [hp]) | with_reducible refine condQ_beq (fun hp => ?_) (fun hp => ?_) | ((with_reducible refine wantQ_dec (fun hp => ?_) (fun hp => ?_)) <;> try simp only [hp]) | with_reducible refine wantQ_beq (fun hp => ?_) (fun hp => ?_) | ((with_reducible refine condQ_split (fun hp => ?_) (fun hp => ?_)) <;> try simp only [hp]) | ((with_reducible refine wantQ_split (fun hp => ?_) (fun hp => ?_)) <;> try simp only [hp]) | simp -implicitDefEqProofs (disch := omega) only [go_sem, Nat.reduceAdd, Nat.reduceSub, reduceCtorEq, Nat.reduceLT, Nat.reduceLeDiff, Nat.reduceEqDiff, Nat.reduceMul, Int.reduceToNat, ↓reduceIte, List.take_of_length_le, evApp_n1, evApp_i0, evApp_i1, evApp_i2, evApp_i3, evApp_i4, evApp_i5, evApp_s0, evApp_s1, evApp_s2, evApp_s3, if_pos, if_neg, decide_eq_true, decide_eq_false, beq_t, beq_f, wrap_succ, wrap_in, getD_ints, getD_intss, getD_tsrs, fillA_len, fillA_at, fillA_full, evApp_z0, evApp_z1, evApp_z2, evApp_z3, evApp_i6, List.getElem?_set_self, List.set_set, Try.ntmps31, Try.results31, h7, opQ_none])
  refine InlK_intro rfl rfl can_newReader ((isp_newReader hS bs hb _).mono ?_)
  rintro r L1 ⟨rfl, rfl⟩
  have hC := RC.new (bs.take 2000) L
  have hb2 : (bs.take 2000).length ≤ 2000 := by simp; omega
  repeat' (first | with_reducible refine RegQ.intro (by kernel_rfl) ?_ | with_reducible refine DrawQ.nat (by kernel_rfl) ?_ | ((with_reducible refine condQ_dec (fun hp => ?_) (fun hp => ?_)) <;> try simp only [hp]) | with_reducible refine condQ_beq (fun hp => ?_) (fun hp => ?_) | ((with_reducible refine wantQ_dec (fun hp => ?_) (fun hp => ?_)) <;> try simp only [hp]) | with_reducible refine wantQ_beq (fun hp => ?_) (fun hp => ?_) | ((with_reducible refine condQ_split (fun hp => ?_) (fun hp => ?_)) <;> try simp only [hp]) | ((with_reducible refine wantQ_split (fun hp => ?_) (fun hp => ?_)) <;> try simp only [hp]) | simp -implicitDefEqProofs (disch := omega) only [go_sem, Nat.reduceAdd, Nat.reduceSub, reduceCtorEq, Nat.reduceLT, Nat.reduceLeDiff, Nat.reduceEqDiff, Nat.reduceMul, Int.reduceToNat, ↓reduceIte, List.take_of_length_le, evApp_n1, evApp_i0, evApp_i1, evApp_i2, evApp_i3, evApp_i4, evApp_i5, evApp_s0, evApp_s1, evApp_s2, evApp_s3, if_pos, if_neg, decide_eq_true, decide_eq_false, beq_t, beq_f, wrap_succ, wrap_in, getD_ints, getD_intss, getD_tsrs, fillA_len, fillA_at, fillA_full, evApp_z0, evApp_z1, evApp_z2, evApp_z3, evApp_i6, List.getElem?_set_self, List.set_set, Try.ntmps31, Try.results31, h2, opQ_none])
  refine InlK_intro rfl rfl can_one ((isp_one hS h0 hC hb2 0 (by omega) 2 [2, 1, 3] (by decide)).mono ?_)
  rintro r L1 ⟨v, rfl, k1, rfl⟩
  obtain ⟨m, rfl⟩ : ∃ m : Nat, v = m := ⟨v.toNat, by simp at k1; omega⟩
  have hm : 1 ≤ m ∧ m ≤ 3 := by simp at k1; omega
  repeat' (first | with_reducible refine RegQ.intro (by kernel_rfl) ?_ | with_reducible refine DrawQ.nat (by kernel_rfl) ?_ | ((with_reducible refine condQ_dec (fun hp => ?_) (fun hp => ?_)) <;> try simp only [hp]) | with_reducible refine condQ_beq (fun hp => ?_) (fun hp => ?_) | ((with_reducible refine wantQ_dec (fun hp => ?_) (fun hp => ?_)) <;> try simp only [hp]) | with_reducible refine wantQ_beq (fun hp => ?_) (fun hp => ?_) | ((with_reducible refine condQ_split (fun hp => ?_) (fun hp => ?_)) <;> try simp only [hp]) | ((with_reducible refine wantQ_split (fun hp => ?_) (fun hp => ?_)) <;> try simp only [hp]) | simp -implicitDefEqProofs (disch := omega) only [go_sem, Nat.reduceAdd, Nat.reduceSub, reduceCtorEq, Nat.reduceLT, Nat.reduceLeDiff, Nat.reduceEqDiff, Nat.reduceMul, Int.reduceToNat, ↓reduceIte, List.take_of_length_le, evApp_n1, evApp_i0, evApp_i1, evApp_i2, evApp_i3, evApp_i4, evApp_i5, evApp_s0, evApp_s1, evApp_s2, evApp_s3, if_pos, if_neg, decide_eq_true, decide_eq_false, beq_t, beq_f, wrap_succ, wrap_in, getD_ints, getD_intss, getD_tsrs, fillA_len, fillA_at, fillA_full, evApp_z0, evApp_z1, evApp_z2, evApp_z3, evApp_i6, List.getElem?_set_self, List.set_set, Try.ntmps31, Try.results31, h8, opQ_none])
  refine InlK_intro rfl rfl can_productOf ((isp_productOf hS h0 h1 h2 h3 h4 hc h5 h6 hk hl hC hb2 (0 + 1) (by omega) hcp hin m hm).mono ?_)
  rintro r L1 ⟨xs, ls, out, p', m1, m2, m3, m4, m5, rfl, m6, m7, rfl⟩
  repeat' (first | with_reducible refine RegQ.intro (by kernel_rfl) ?_ | with_reducible refine DrawQ.nat (by kernel_rfl) ?_ | ((with_reducible refine condQ_dec (fun hp => ?_) (fun hp => ?_)) <;> try simp only [hp]) | with_reducible refine condQ_beq (fun hp => ?_) (fun hp => ?_) | ((with_reducible refine wantQ_dec (fun hp => ?_) (fun hp => ?_)) <;> try simp only [hp]) | with_reducible refine wantQ_beq (fun hp => ?_) (fun hp => ?_) | ((with_reducible refine condQ_split (fun hp => ?_) (fun hp => ?_)) <;> try simp only [hp]) | ((with_reducible refine wantQ_split (fun hp => ?_) (fun hp => ?_)) <;> try simp only [hp]) | simp -implicitDefEqProofs (disch := omega) only [go_sem, Nat.reduceAdd, Nat.reduceSub, reduceCtorEq, Nat.reduceLT, Nat.reduceLeDiff, Nat.reduceEqDiff, Nat.reduceMul, Int.reduceToNat, ↓reduceIte, List.take_of_length_le, evApp_n1, evApp_i0, evApp_i1, evApp_i2, evApp_i3, evApp_i4, evApp_i5, evApp_s0, evApp_s1, evApp_s2, evApp_s3, if_pos, if_neg, decide_eq_true, decide_eq_false, beq_t, beq_f, wrap_succ, wrap_in, getD_ints, getD_intss, getD_tsrs, fillA_len, fillA_at, fillA_full, evApp_z0, evApp_z1, evApp_z2, evApp_z3, evApp_i6, List.getElem?_set_self, List.set_set, Try.ntmps31, Try.results31])
  refine RetQ.top ⟨xs, ls, out, ⟨by omega, by omega, by omega, m3, m4, m5⟩, ?_, rfl⟩
  exact sel_three
theorem can_DrawContract : CanCall Try.prog 31 := ⟨_, Try.func31, rfl, rfl⟩
def DrCo : Prop := ∀ (bs : List UInt8), bs.length ≤ 1048576 → ∀ L : List Blk, ISpec Try.prog 31 [bytesA 0 bs] L (fun r L' => ∃ xs ls out, DrC xs ls out ∧ r = .tup [listD xs, labsD ls, ints 1 out] ∧ L' = L)
theorem DrC.sz {xs : List Tsr} {ls : List (List Int)} {out : List Int} (h : DrC xs ls out) : szOK xs ls ∧ out.length ≤ 1048576 := by
  have h1 := h.l3
  have h2 := h.ll
  have h3 := h.ob
  refine ⟨⟨by omega, by omega, fun k hk => ?_, fun k hk => ?_⟩, by omega⟩
  · have hm : xs.getD k ⟨[], []⟩ ∈ xs := by rw [List.getD_eq_getElem?_getD, List.getElem?_eq_getElem hk]; exact List.getElem_mem hk
    have := h.xb _ hm
    exact ⟨by have := this.1; omega, by have := this.2; omega⟩
  · have hm : ls.getD k [] ∈ ls := by rw [List.getD_eq_getElem?_getD, List.getElem?_eq_getElem hk]; exact List.getElem_mem hk
    have := h.lb _ hm
    omega
end Go.Proofs.Ytfjhhbpipococaa
