/- Contracts of functions that the laws of this seat call. -/
import Derived.Test.YtkmnepmnjpdpkaaGreatDoorXf
import Derived.Test.YtkmnepmnjpdpkaaGreatDoorZC
set_option linter.all false
namespace Go.Proofs.YtkmnepmnjpdpkaaGreatDoor
open Go Go.Ev Go.RowKit Go.Ev.Enc Go.Pl

def GoodD : Prop := ∀ {bs : List UInt8} {b n : Nat} {rL : Int → List Blk} (hC : RC bs b n rL) (hb : bs.length ≤ 2000) (p : Int) (hp : 0 ≤ p ∧ p ≤ 700000000), ISpec Tryz.prog 75 [.ptr b 1 0 0] (rL p) fun r L' => ∃ (B : Bf) (p' : Int), bufOK B = true ∧ r = bfA 1 B ∧ p ≤ p' ∧ p' ≤ p + 200 ∧ L' = rL p'
theorem goodD_of (h : GoodB) : GoodD := fun hC hb p hp => by
  refine ISpec.nz2 (ISpec.fin ((h hC hb p hp).mono ?_))
  rintro r L' ⟨B, X, p', hB, rfl, hbr, f1, f2⟩
  obtain ⟨i, be, rfl, g1, g2, l1, l2⟩ := hbr
  obtain ⟨i, rfl⟩ : ∃ i', i = _ + i' := ⟨i - _, (Nat.add_sub_cancel' l1).symm⟩
  refine hC.ret0 ⟨B, p', hB, ?_, f1, f2, rfl⟩
  rw [hC.at'] at g1
  rcases g2 with ⟨he, rfl⟩ | ⟨he, j, rfl, g3⟩
  · rw [show B = ⟨B.c, []⟩ by rw [← he]]
    simp -implicitDefEqProofs only [selV_agg, List.map_cons, List.map_nil, selC_sl, Go.Ev.gR_ge, selSl_none, selC_nil, hC.at', g1, nzW_agg, nz_ints, nz_exs, nz_nil, selF_ints]
    try rfl
  · have l3 := l2 _ _ _ _ _ rfl
    obtain ⟨j, rfl⟩ : ∃ j', j = _ + j' := ⟨j - _, (Nat.add_sub_cancel' l3).symm⟩
    rw [hC.at'] at g3
    simp -implicitDefEqProofs only [selV_agg, List.map_cons, List.map_nil, selC_sl, Go.Ev.gR_ge, selSl_none, selC_nil, hC.at', g1, g3, nzW_agg, nz_ints, nz_exs, nz_nil, selF_ints, selF_exs]
    try rfl
abbrev litOn : Go.Ev.Lit := ⟨true⟩
theorem isTmp_c (v : Value) : isTmp (.const v) = false := rfl
theorem isTmp_t (i : Nat) : isTmp (.tmp i) = true := rfl
theorem lit_on {lt : Go.Ev.Lit} (h : lt = litOn) (parts : Array (Nat × Operand)) : litB parts = parts.toList.any fun p => isTmp p.2 := by
  subst h
  show (true && parts.any fun p => isTmp p.2) = _
  rw [Bool.true_and, Array.any_toList]
theorem RC_retL {bs : List UInt8} {b n : Nat} {rL : Int → List Blk} (hC : RC bs b n rL) {p p' k : Int} (l : List Int) {m : Nat} {A A' : Blk} {K : AV → List Blk → Prop} (hK : K (.agg [i64 k, .sl n m 0 m m]) (rL p' ++ [stB l])) :
    RetQ (rL p) K (.agg [i64 k, .sl (n + 2) m 0 m m]) (rL p' ++ [A, A', stB l]) := by
  have e : gR n [n + 2] (n + 2) = some n := by simp [gR]
  refine hC.ret [n + 2] (by simp) (by simp) ?_
  have e2 : (rL p' ++ [A, A', stB l]).getD (n + 2) ⟨0, []⟩ = stB l := getD_of (hC.at' _ _ 2) _
  simp only [selV_agg, List.map_cons, List.map_nil, selC_sl, e, selSl_some, selC_int, e2, selB_st]
  exact hK
set_option maxHeartbeats 4000000 in
set_option maxRecDepth 100000 in
theorem isp_someActL {Sg : FuncId → Option (List AV → Option AV)} (hS : Sound Tryz.prog Sg) (h0 : Sg 76 = none) (h1 : Sg 89 = none) (ho : Sg 122 = some (F1 gOpF)) [lt : Go.Ev.Lit] (hlt : lt = litOn) {bs : List UInt8} {b n : Nat} {rL : Int → List Blk} (hC : RC bs b n rL) (hb : bs.length ≤ 2000) (p : Int) (hp : 0 ≤ p ∧ p ≤ 800000000) (B : Bf) (hB : bfS B) : ISpec Tryz.prog 74 [.ptr b 1 0 0, bfA 1 B] (rL p) (fun r L' => ∃ (a : Ac) (p' : Int), actV a ∧ r = .agg [i64 a.k, .sl n a.n.length 0 a.n.length a.n.length] ∧ p ≤ p' ∧ p' ≤ p + 10 ∧ L' = rL p' ++ [stB a.n]) := by
  refine ISpec.ret Tryz.func74 rfl (vc3_sound Tryz.pf hS hS _ _ _ ?_)
  have hlo := lit_on hlt
  have h8 := hB.2.2.1
  have hl := len_exs 1 B.e
  have q1 := gOpF_eq hB.1
  obtain ⟨O, hO⟩ : ∃ O, (if bufOK B = true then opF B else []) = O := ⟨_, rfl⟩
  have hlt2 : ∀ x ∈ O, 0 ≤ x ∧ x < B.e.length := fun x hx => by
    rw [← hO] at hx
    split at hx
    · exact opF_lt hx
    · simp at hx
  have hol : O.length ≤ B.e.length := by
    rw [← hO]
    split
    · exact filt_len _ _
    · simp
  rw [hO] at q1
  have hw : IntKind.i64.wrap ((B.e.length : Int) + 1) = (B.e.length : Int) + 1 := wrap_in (by omega)
  repeat' (first | with_reducible first | refine kI (by kernel_rfl) ?_ | refine kN (by kernel_rfl) ?_ | (first | refine kB1 ?_ ?_ | refine kB2 ?_ ?_) <;> intro hp | (first | refine kD1 ?_ ?_ | refine kD2 ?_ ?_ | refine kS1 ?_ ?_ | refine kS2 ?_ ?_) <;> intro hp <;> try simp only [hp] | simp -implicitDefEqProofs (disch := omega) only [go_sem, Nat.reduceAdd, Nat.reduceSub, reduceCtorEq, Nat.reduceLT, Nat.reduceLeDiff, Nat.reduceEqDiff, Nat.reduceMul, Int.reduceToNat, ↓reduceIte, List.take_of_length_le, if_pos, if_neg, List.getElem?_set_self, List.set_set, getD_exs, cnE, cnV, Tryz.ntmps74, Tryz.results74,  hC.cn, hlo, List.any_cons, List.any_nil, isTmp_c, isTmp_t, Bool.false_or, Bool.true_or, Bool.or_self, hl, hw, h0, opQ_none])
  refine InlK_intro rfl rfl can_pick ((isp_pick hS (hC.app _) hb p (by omega) ((B.e.length : Int) + 1) (by omega)).mono ?_)
  rintro r L1 ⟨id0, rfl, l0, u0, rfl⟩
  have bid0 : -100 ≤ id0 ∧ id0 ≤ 100 := by omega
  by_cases ho0 : O = []
  · rw [ho0] at q1
    repeat' (first | with_reducible first | refine kI (by kernel_rfl) ?_ | refine kN (by kernel_rfl) ?_ | (first | refine kB1 ?_ ?_ | refine kB2 ?_ ?_) <;> intro hp | (first | refine kD1 ?_ ?_ | refine kD2 ?_ ?_ | refine kS1 ?_ ?_ | refine kS2 ?_ ?_) <;> intro hp <;> try simp only [hp] | simp -implicitDefEqProofs (disch := omega) only [go_sem, Nat.reduceAdd, Nat.reduceSub, reduceCtorEq, Nat.reduceLT, Nat.reduceLeDiff, Nat.reduceEqDiff, Nat.reduceMul, Int.reduceToNat, ↓reduceIte, List.take_of_length_le, if_pos, if_neg, List.getElem?_set_self, List.set_set, getD_exs, cnE, cnV, Tryz.ntmps74, Tryz.results74,  hC.cn, hlo, List.any_cons, List.any_nil, isTmp_c, isTmp_t, Bool.false_or, Bool.true_or, Bool.or_self, hl, ho, q1, hw, h1, opQ_none])
    refine InlK_intro rfl rfl can_one ((isp_one hS h0 (hC.app _) hb _ (by omega) 2 [1, 2, 3, 4, 5, 6, 7, 0, 6, 4] (by decide)).mono ?_)
    rintro r L1 ⟨k, rfl, hk, rfl⟩
    have bk : -100 ≤ k ∧ k ≤ 100 := by simp at hk; omega
    have kb : 0 ≤ k ∧ k ≤ 7 := by simp at hk; omega
    by_cases k0 : k = 0
    · subst k0
      repeat' (first | with_reducible first | refine kI (by kernel_rfl) ?_ | refine kN (by kernel_rfl) ?_ | (first | refine kB1 ?_ ?_ | refine kB2 ?_ ?_) <;> intro hp | (first | refine kD1 ?_ ?_ | refine kD2 ?_ ?_ | refine kS1 ?_ ?_ | refine kS2 ?_ ?_) <;> intro hp <;> try simp only [hp] | simp -implicitDefEqProofs (disch := omega) only [go_sem, Nat.reduceAdd, Nat.reduceSub, reduceCtorEq, Nat.reduceLT, Nat.reduceLeDiff, Nat.reduceEqDiff, Nat.reduceMul, Int.reduceToNat, ↓reduceIte, List.take_of_length_le, if_pos, if_neg, List.getElem?_set_self, List.set_set, getD_exs, cnE, cnV, Tryz.ntmps74, Tryz.results74,  hC.cn, hlo, List.any_cons, List.any_nil, isTmp_c, isTmp_t, Bool.false_or, Bool.true_or, Bool.or_self, hl, ho, q1, hw, h1, opQ_none])
      refine InlK_intro rfl rfl can_one ((isp_one hS h0 (hC.app _) hb _ (by omega) 2 [12, 20, 8, 30, 0] (by decide)).mono ?_)
      rintro r L1 ⟨z, rfl, hz, rfl⟩
      have bz : -100 ≤ z ∧ z ≤ 100 := by simp at hz; omega
      repeat' (first | with_reducible first | refine kI (by kernel_rfl) ?_ | refine kN (by kernel_rfl) ?_ | (first | refine kB1 ?_ ?_ | refine kB2 ?_ ?_) <;> intro hp | (first | refine kD1 ?_ ?_ | refine kD2 ?_ ?_ | refine kS1 ?_ ?_ | refine kS2 ?_ ?_) <;> intro hp <;> try simp only [hp] | simp -implicitDefEqProofs (disch := omega) only [go_sem, Nat.reduceAdd, Nat.reduceSub, reduceCtorEq, Nat.reduceLT, Nat.reduceLeDiff, Nat.reduceEqDiff, Nat.reduceMul, Int.reduceToNat, ↓reduceIte, List.take_of_length_le, if_pos, if_neg, List.getElem?_set_self, List.set_set, getD_exs, cnE, cnV, Tryz.ntmps74, Tryz.results74,  hC.cn, hlo, List.any_cons, List.any_nil, isTmp_c, isTmp_t, Bool.false_or, Bool.true_or, Bool.or_self])
      exact RC_retL hC [z] ⟨⟨0, [z]⟩, _, ⟨⟨⟨show (0 : Int) ≤ 0 by decide, show (0 : Int) ≤ 7 by decide⟩, rfl⟩, by simp; omega⟩, rfl, by omega, by omega, rfl⟩
    by_cases k1 : k = 1
    · subst k1
      repeat' (first | with_reducible first | refine kI (by kernel_rfl) ?_ | refine kN (by kernel_rfl) ?_ | (first | refine kB1 ?_ ?_ | refine kB2 ?_ ?_) <;> intro hp | (first | refine kD1 ?_ ?_ | refine kD2 ?_ ?_ | refine kS1 ?_ ?_ | refine kS2 ?_ ?_) <;> intro hp <;> try simp only [hp] | simp -implicitDefEqProofs (disch := omega) only [go_sem, Nat.reduceAdd, Nat.reduceSub, reduceCtorEq, Nat.reduceLT, Nat.reduceLeDiff, Nat.reduceEqDiff, Nat.reduceMul, Int.reduceToNat, ↓reduceIte, List.take_of_length_le, if_pos, if_neg, List.getElem?_set_self, List.set_set, getD_exs, cnE, cnV, Tryz.ntmps74, Tryz.results74,  hC.cn, hlo, List.any_cons, List.any_nil, isTmp_c, isTmp_t, Bool.false_or, Bool.true_or, Bool.or_self, hl, ho, q1, hw, h0, opQ_none])
      refine InlK_intro rfl rfl can_pick ((isp_pick hS (hC.app _) hb _ (by omega) 6 (by omega)).mono ?_)
      rintro r L1 ⟨x, rfl, lx, ux, rfl⟩
      have bx : -100 ≤ x ∧ x ≤ 100 := by omega
      repeat' (first | with_reducible first | refine kI (by kernel_rfl) ?_ | refine kN (by kernel_rfl) ?_ | (first | refine kB1 ?_ ?_ | refine kB2 ?_ ?_) <;> intro hp | (first | refine kD1 ?_ ?_ | refine kD2 ?_ ?_ | refine kS1 ?_ ?_ | refine kS2 ?_ ?_) <;> intro hp <;> try simp only [hp] | simp -implicitDefEqProofs (disch := omega) only [go_sem, Nat.reduceAdd, Nat.reduceSub, reduceCtorEq, Nat.reduceLT, Nat.reduceLeDiff, Nat.reduceEqDiff, Nat.reduceMul, Int.reduceToNat, ↓reduceIte, List.take_of_length_le, if_pos, if_neg, List.getElem?_set_self, List.set_set, getD_exs, cnE, cnV, Tryz.ntmps74, Tryz.results74,  hC.cn, hlo, List.any_cons, List.any_nil, isTmp_c, isTmp_t, Bool.false_or, Bool.true_or, Bool.or_self, hl, ho, q1, hw, h1, opQ_none])
      refine InlK_intro rfl rfl can_one ((isp_one hS h0 (hC.app _) hb _ (by omega) 2 [4, 3, 5, 2, 0] (by decide)).mono ?_)
      rintro r L1 ⟨z, rfl, hz, rfl⟩
      have bz : -100 ≤ z ∧ z ≤ 100 := by simp at hz; omega
      repeat' (first | with_reducible first | refine kI (by kernel_rfl) ?_ | refine kN (by kernel_rfl) ?_ | (first | refine kB1 ?_ ?_ | refine kB2 ?_ ?_) <;> intro hp | (first | refine kD1 ?_ ?_ | refine kD2 ?_ ?_ | refine kS1 ?_ ?_ | refine kS2 ?_ ?_) <;> intro hp <;> try simp only [hp] | simp -implicitDefEqProofs (disch := omega) only [go_sem, Nat.reduceAdd, Nat.reduceSub, reduceCtorEq, Nat.reduceLT, Nat.reduceLeDiff, Nat.reduceEqDiff, Nat.reduceMul, Int.reduceToNat, ↓reduceIte, List.take_of_length_le, if_pos, if_neg, List.getElem?_set_self, List.set_set, getD_exs, cnE, cnV, Tryz.ntmps74, Tryz.results74,  hC.cn, hlo, List.any_cons, List.any_nil, isTmp_c, isTmp_t, Bool.false_or, Bool.true_or, Bool.or_self, hl, ho, q1, hw, h1, opQ_none])
      refine InlK_intro rfl rfl can_one ((isp_one hS h0 (hC.app _) hb _ (by omega) 2 [1, 2, 3, 0, -1] (by decide)).mono ?_)
      rintro r L1 ⟨w, rfl, hw, rfl⟩
      have bw : -100 ≤ w ∧ w ≤ 100 := by simp at hw; omega
      repeat' (first | with_reducible first | refine kI (by kernel_rfl) ?_ | refine kN (by kernel_rfl) ?_ | (first | refine kB1 ?_ ?_ | refine kB2 ?_ ?_) <;> intro hp | (first | refine kD1 ?_ ?_ | refine kD2 ?_ ?_ | refine kS1 ?_ ?_ | refine kS2 ?_ ?_) <;> intro hp <;> try simp only [hp] | simp -implicitDefEqProofs (disch := omega) only [go_sem, Nat.reduceAdd, Nat.reduceSub, reduceCtorEq, Nat.reduceLT, Nat.reduceLeDiff, Nat.reduceEqDiff, Nat.reduceMul, Int.reduceToNat, ↓reduceIte, List.take_of_length_le, if_pos, if_neg, List.getElem?_set_self, List.set_set, getD_exs, cnE, cnV, Tryz.ntmps74, Tryz.results74,  hC.cn, hlo, List.any_cons, List.any_nil, isTmp_c, isTmp_t, Bool.false_or, Bool.true_or, Bool.or_self])
      exact RC_retL hC [x, z, w] ⟨⟨1, [x, z, w]⟩, _, ⟨⟨⟨show (0 : Int) ≤ 1 by decide, show (1 : Int) ≤ 7 by decide⟩, rfl⟩, by simp; omega⟩, rfl, by omega, by omega, rfl⟩
    by_cases k2 : k = 2
    · subst k2
      repeat' (first | with_reducible first | refine kI (by kernel_rfl) ?_ | refine kN (by kernel_rfl) ?_ | (first | refine kB1 ?_ ?_ | refine kB2 ?_ ?_) <;> intro hp | (first | refine kD1 ?_ ?_ | refine kD2 ?_ ?_ | refine kS1 ?_ ?_ | refine kS2 ?_ ?_) <;> intro hp <;> try simp only [hp] | simp -implicitDefEqProofs (disch := omega) only [go_sem, Nat.reduceAdd, Nat.reduceSub, reduceCtorEq, Nat.reduceLT, Nat.reduceLeDiff, Nat.reduceEqDiff, Nat.reduceMul, Int.reduceToNat, ↓reduceIte, List.take_of_length_le, if_pos, if_neg, List.getElem?_set_self, List.set_set, getD_exs, cnE, cnV, Tryz.ntmps74, Tryz.results74,  hC.cn, hlo, List.any_cons, List.any_nil, isTmp_c, isTmp_t, Bool.false_or, Bool.true_or, Bool.or_self, hl, ho, q1, hw, h0, opQ_none])
      refine InlK_intro rfl rfl can_pick ((isp_pick hS (hC.app _) hb _ (by omega) 4 (by omega)).mono ?_)
      rintro r L1 ⟨x, rfl, lx, ux, rfl⟩
      have bx : -100 ≤ x ∧ x ≤ 100 := by omega
      repeat' (first | with_reducible first | refine kI (by kernel_rfl) ?_ | refine kN (by kernel_rfl) ?_ | (first | refine kB1 ?_ ?_ | refine kB2 ?_ ?_) <;> intro hp | (first | refine kD1 ?_ ?_ | refine kD2 ?_ ?_ | refine kS1 ?_ ?_ | refine kS2 ?_ ?_) <;> intro hp <;> try simp only [hp] | simp -implicitDefEqProofs (disch := omega) only [go_sem, Nat.reduceAdd, Nat.reduceSub, reduceCtorEq, Nat.reduceLT, Nat.reduceLeDiff, Nat.reduceEqDiff, Nat.reduceMul, Int.reduceToNat, ↓reduceIte, List.take_of_length_le, if_pos, if_neg, List.getElem?_set_self, List.set_set, getD_exs, cnE, cnV, Tryz.ntmps74, Tryz.results74,  hC.cn, hlo, List.any_cons, List.any_nil, isTmp_c, isTmp_t, Bool.false_or, Bool.true_or, Bool.or_self, hl, ho, q1, hw, h1, opQ_none])
      refine InlK_intro rfl rfl can_one ((isp_one hS h0 (hC.app _) hb _ (by omega) 2 [3, 4, -1, 2] (by decide)).mono ?_)
      rintro r L1 ⟨z, rfl, hz, rfl⟩
      have bz : -100 ≤ z ∧ z ≤ 100 := by simp at hz; omega
      repeat' (first | with_reducible first | refine kI (by kernel_rfl) ?_ | refine kN (by kernel_rfl) ?_ | (first | refine kB1 ?_ ?_ | refine kB2 ?_ ?_) <;> intro hp | (first | refine kD1 ?_ ?_ | refine kD2 ?_ ?_ | refine kS1 ?_ ?_ | refine kS2 ?_ ?_) <;> intro hp <;> try simp only [hp] | simp -implicitDefEqProofs (disch := omega) only [go_sem, Nat.reduceAdd, Nat.reduceSub, reduceCtorEq, Nat.reduceLT, Nat.reduceLeDiff, Nat.reduceEqDiff, Nat.reduceMul, Int.reduceToNat, ↓reduceIte, List.take_of_length_le, if_pos, if_neg, List.getElem?_set_self, List.set_set, getD_exs, cnE, cnV, Tryz.ntmps74, Tryz.results74,  hC.cn, hlo, List.any_cons, List.any_nil, isTmp_c, isTmp_t, Bool.false_or, Bool.true_or, Bool.or_self, hl, ho, q1, hw, h1, opQ_none])
      refine InlK_intro rfl rfl can_one ((isp_one hS h0 (hC.app _) hb _ (by omega) 2 [1, 2, -1, 1] (by decide)).mono ?_)
      rintro r L1 ⟨w, rfl, hw, rfl⟩
      have bw : -100 ≤ w ∧ w ≤ 100 := by simp at hw; omega
      repeat' (first | with_reducible first | refine kI (by kernel_rfl) ?_ | refine kN (by kernel_rfl) ?_ | (first | refine kB1 ?_ ?_ | refine kB2 ?_ ?_) <;> intro hp | (first | refine kD1 ?_ ?_ | refine kD2 ?_ ?_ | refine kS1 ?_ ?_ | refine kS2 ?_ ?_) <;> intro hp <;> try simp only [hp] | simp -implicitDefEqProofs (disch := omega) only [go_sem, Nat.reduceAdd, Nat.reduceSub, reduceCtorEq, Nat.reduceLT, Nat.reduceLeDiff, Nat.reduceEqDiff, Nat.reduceMul, Int.reduceToNat, ↓reduceIte, List.take_of_length_le, if_pos, if_neg, List.getElem?_set_self, List.set_set, getD_exs, cnE, cnV, Tryz.ntmps74, Tryz.results74,  hC.cn, hlo, List.any_cons, List.any_nil, isTmp_c, isTmp_t, Bool.false_or, Bool.true_or, Bool.or_self])
      exact RC_retL hC [id0, x, z, w] ⟨⟨2, [id0, x, z, w]⟩, _, ⟨⟨⟨show (0 : Int) ≤ 2 by decide, show (2 : Int) ≤ 7 by decide⟩, rfl⟩, by simp; omega⟩, rfl, by omega, by omega, rfl⟩
    by_cases k4 : k = 4
    · subst k4
      repeat' (first | with_reducible first | refine kI (by kernel_rfl) ?_ | refine kN (by kernel_rfl) ?_ | (first | refine kB1 ?_ ?_ | refine kB2 ?_ ?_) <;> intro hp | (first | refine kD1 ?_ ?_ | refine kD2 ?_ ?_ | refine kS1 ?_ ?_ | refine kS2 ?_ ?_) <;> intro hp <;> try simp only [hp] | simp -implicitDefEqProofs (disch := omega) only [go_sem, Nat.reduceAdd, Nat.reduceSub, reduceCtorEq, Nat.reduceLT, Nat.reduceLeDiff, Nat.reduceEqDiff, Nat.reduceMul, Int.reduceToNat, ↓reduceIte, List.take_of_length_le, if_pos, if_neg, List.getElem?_set_self, List.set_set, getD_exs, cnE, cnV, Tryz.ntmps74, Tryz.results74,  hC.cn, hlo, List.any_cons, List.any_nil, isTmp_c, isTmp_t, Bool.false_or, Bool.true_or, Bool.or_self, hl, ho, q1, hw, h0, opQ_none])
      refine InlK_intro rfl rfl can_pick ((isp_pick hS (hC.app _) hb _ (by omega) 100 (by omega)).mono ?_)
      rintro r L1 ⟨x, rfl, lx, ux, rfl⟩
      have bx : -100 ≤ x ∧ x ≤ 100 := by omega
      repeat' (first | with_reducible first | refine kI (by kernel_rfl) ?_ | refine kN (by kernel_rfl) ?_ | (first | refine kB1 ?_ ?_ | refine kB2 ?_ ?_) <;> intro hp | (first | refine kD1 ?_ ?_ | refine kD2 ?_ ?_ | refine kS1 ?_ ?_ | refine kS2 ?_ ?_) <;> intro hp <;> try simp only [hp] | simp -implicitDefEqProofs (disch := omega) only [go_sem, Nat.reduceAdd, Nat.reduceSub, reduceCtorEq, Nat.reduceLT, Nat.reduceLeDiff, Nat.reduceEqDiff, Nat.reduceMul, Int.reduceToNat, ↓reduceIte, List.take_of_length_le, if_pos, if_neg, List.getElem?_set_self, List.set_set, getD_exs, cnE, cnV, Tryz.ntmps74, Tryz.results74,  hC.cn, hlo, List.any_cons, List.any_nil, isTmp_c, isTmp_t, Bool.false_or, Bool.true_or, Bool.or_self])
      exact RC_retL hC [id0, x] ⟨⟨4, [id0, x]⟩, _, ⟨⟨⟨show (0 : Int) ≤ 4 by decide, show (4 : Int) ≤ 7 by decide⟩, rfl⟩, by simp; omega⟩, rfl, by omega, by omega, rfl⟩
    by_cases k5 : k = 5
    · subst k5
      repeat' (first | with_reducible first | refine kI (by kernel_rfl) ?_ | refine kN (by kernel_rfl) ?_ | (first | refine kB1 ?_ ?_ | refine kB2 ?_ ?_) <;> intro hp | (first | refine kD1 ?_ ?_ | refine kD2 ?_ ?_ | refine kS1 ?_ ?_ | refine kS2 ?_ ?_) <;> intro hp <;> try simp only [hp] | simp -implicitDefEqProofs (disch := omega) only [go_sem, Nat.reduceAdd, Nat.reduceSub, reduceCtorEq, Nat.reduceLT, Nat.reduceLeDiff, Nat.reduceEqDiff, Nat.reduceMul, Int.reduceToNat, ↓reduceIte, List.take_of_length_le, if_pos, if_neg, List.getElem?_set_self, List.set_set, getD_exs, cnE, cnV, Tryz.ntmps74, Tryz.results74,  hC.cn, hlo, List.any_cons, List.any_nil, isTmp_c, isTmp_t, Bool.false_or, Bool.true_or, Bool.or_self, hl, ho, q1, hw, h0, opQ_none])
      refine InlK_intro rfl rfl can_pick ((isp_pick hS (hC.app _) hb _ (by omega) ((B.e.length : Int) + 1) (by omega)).mono ?_)
      rintro r L1 ⟨x, rfl, lx, ux, rfl⟩
      have bx : -100 ≤ x ∧ x ≤ 100 := by omega
      repeat' (first | with_reducible first | refine kI (by kernel_rfl) ?_ | refine kN (by kernel_rfl) ?_ | (first | refine kB1 ?_ ?_ | refine kB2 ?_ ?_) <;> intro hp | (first | refine kD1 ?_ ?_ | refine kD2 ?_ ?_ | refine kS1 ?_ ?_ | refine kS2 ?_ ?_) <;> intro hp <;> try simp only [hp] | simp -implicitDefEqProofs (disch := omega) only [go_sem, Nat.reduceAdd, Nat.reduceSub, reduceCtorEq, Nat.reduceLT, Nat.reduceLeDiff, Nat.reduceEqDiff, Nat.reduceMul, Int.reduceToNat, ↓reduceIte, List.take_of_length_le, if_pos, if_neg, List.getElem?_set_self, List.set_set, getD_exs, cnE, cnV, Tryz.ntmps74, Tryz.results74,  hC.cn, hlo, List.any_cons, List.any_nil, isTmp_c, isTmp_t, Bool.false_or, Bool.true_or, Bool.or_self])
      exact RC_retL hC [id0, x] ⟨⟨5, [id0, x]⟩, _, ⟨⟨⟨show (0 : Int) ≤ 5 by decide, show (5 : Int) ≤ 7 by decide⟩, rfl⟩, by simp; omega⟩, rfl, by omega, by omega, rfl⟩
    have f0 : (k == 0) = false := beq_f k0
    have f1 : (k == 1) = false := beq_f k1
    have f2 : (k == 2) = false := beq_f k2
    have f4 : (k == 4) = false := beq_f k4
    have f5 : (k == 5) = false := beq_f k5
    repeat' (first | with_reducible first | refine kI (by kernel_rfl) ?_ | refine kN (by kernel_rfl) ?_ | (first | refine kB1 ?_ ?_ | refine kB2 ?_ ?_) <;> intro hp | (first | refine kD1 ?_ ?_ | refine kD2 ?_ ?_ | refine kS1 ?_ ?_ | refine kS2 ?_ ?_) <;> intro hp <;> try simp only [hp] | simp -implicitDefEqProofs (disch := omega) only [go_sem, Nat.reduceAdd, Nat.reduceSub, reduceCtorEq, Nat.reduceLT, Nat.reduceLeDiff, Nat.reduceEqDiff, Nat.reduceMul, Int.reduceToNat, ↓reduceIte, List.take_of_length_le, if_pos, if_neg, List.getElem?_set_self, List.set_set, getD_exs, cnE, cnV, Tryz.ntmps74, Tryz.results74,  hC.cn, hlo, List.any_cons, List.any_nil, isTmp_c, isTmp_t, Bool.false_or, Bool.true_or, Bool.or_self, f0, f1, f2, f4, f5])
    exact RC_retL hC [id0] ⟨⟨k, [id0]⟩, _, ⟨⟨by dsimp only; omega, show 1 = nedF k by unfold nedF; rw [if_neg k1, if_neg k2, if_neg (by omega)]⟩, by simp; omega⟩, rfl, by omega, by omega, rfl⟩
  · have hpos : (0 : Int) < (O.length : Int) := by
      have := List.length_pos_iff.2 ho0
      omega
    repeat' (first | with_reducible first | refine kI (by kernel_rfl) ?_ | refine kN (by kernel_rfl) ?_ | (first | refine kB1 ?_ ?_ | refine kB2 ?_ ?_) <;> intro hp | (first | refine kD1 ?_ ?_ | refine kD2 ?_ ?_ | refine kS1 ?_ ?_ | refine kS2 ?_ ?_) <;> intro hp <;> try simp only [hp] | simp -implicitDefEqProofs (disch := omega) only [go_sem, Nat.reduceAdd, Nat.reduceSub, reduceCtorEq, Nat.reduceLT, Nat.reduceLeDiff, Nat.reduceEqDiff, Nat.reduceMul, Int.reduceToNat, ↓reduceIte, List.take_of_length_le, if_pos, if_neg, List.getElem?_set_self, List.set_set, getD_exs, cnE, cnV, Tryz.ntmps74, Tryz.results74,  hC.cn, hlo, List.any_cons, List.any_nil, isTmp_c, isTmp_t, Bool.false_or, Bool.true_or, Bool.or_self, hl, hw, ho, q1, hpos, h0, opQ_none])
    refine InlK_intro rfl rfl can_pick ((isp_pick hS (hC.app _) hb _ (by omega) 4 (by omega)).mono ?_)
    rintro r L1 ⟨yy, rfl, lyy, uyy, rfl⟩
    have byy : -100 ≤ yy ∧ yy ≤ 100 := by omega
    by_cases hy : 0 < yy
    · repeat' (first | with_reducible first | refine kI (by kernel_rfl) ?_ | refine kN (by kernel_rfl) ?_ | (first | refine kB1 ?_ ?_ | refine kB2 ?_ ?_) <;> intro hp | (first | refine kD1 ?_ ?_ | refine kD2 ?_ ?_ | refine kS1 ?_ ?_ | refine kS2 ?_ ?_) <;> intro hp <;> try simp only [hp] | simp -implicitDefEqProofs (disch := omega) only [go_sem, Nat.reduceAdd, Nat.reduceSub, reduceCtorEq, Nat.reduceLT, Nat.reduceLeDiff, Nat.reduceEqDiff, Nat.reduceMul, Int.reduceToNat, ↓reduceIte, List.take_of_length_le, if_pos, if_neg, List.getElem?_set_self, List.set_set, getD_exs, cnE, cnV, Tryz.ntmps74, Tryz.results74,  hC.cn, hlo, List.any_cons, List.any_nil, isTmp_c, isTmp_t, Bool.false_or, Bool.true_or, Bool.or_self, hl, hw, hpos, hy, h0, opQ_none])
      refine InlK_intro rfl rfl can_pick ((isp_pick hS (hC.app _) hb _ (by omega) (O.length : Int) (by omega)).mono ?_)
      rintro r L1 ⟨ix, rfl, lix, uix, rfl⟩
      obtain ⟨ix, rfl⟩ : ∃ m : Nat, ix = m := ⟨ix.toNat, by omega⟩
      have hix : ix < O.length := by omega
      have hgo := getD_ints hix
      have bid := hlt2 _ (gmem hix)
      generalize O.getD ix 0 = id1 at *
      repeat' (first | with_reducible first | refine kI (by kernel_rfl) ?_ | refine kN (by kernel_rfl) ?_ | (first | refine kB1 ?_ ?_ | refine kB2 ?_ ?_) <;> intro hp | (first | refine kD1 ?_ ?_ | refine kD2 ?_ ?_ | refine kS1 ?_ ?_ | refine kS2 ?_ ?_) <;> intro hp <;> try simp only [hp] | simp -implicitDefEqProofs (disch := omega) only [go_sem, Nat.reduceAdd, Nat.reduceSub, reduceCtorEq, Nat.reduceLT, Nat.reduceLeDiff, Nat.reduceEqDiff, Nat.reduceMul, Int.reduceToNat, ↓reduceIte, List.take_of_length_le, if_pos, if_neg, List.getElem?_set_self, List.set_set, getD_exs, cnE, cnV, Tryz.ntmps74, Tryz.results74,  hC.cn, hlo, List.any_cons, List.any_nil, isTmp_c, isTmp_t, Bool.false_or, Bool.true_or, Bool.or_self, hl, hgo, hw, h1, opQ_none])
      refine InlK_intro rfl rfl can_one ((isp_one hS h0 (hC.app _) hb _ (by omega) 2 [1, 2, 3, 4, 5, 6, 7, 0, 6, 4] (by decide)).mono ?_)
      rintro r L1 ⟨k, rfl, hk, rfl⟩
      have bk : -100 ≤ k ∧ k ≤ 100 := by simp at hk; omega
      have kb : 0 ≤ k ∧ k ≤ 7 := by simp at hk; omega
      by_cases k0 : k = 0
      · subst k0
        repeat' (first | with_reducible first | refine kI (by kernel_rfl) ?_ | refine kN (by kernel_rfl) ?_ | (first | refine kB1 ?_ ?_ | refine kB2 ?_ ?_) <;> intro hp | (first | refine kD1 ?_ ?_ | refine kD2 ?_ ?_ | refine kS1 ?_ ?_ | refine kS2 ?_ ?_) <;> intro hp <;> try simp only [hp] | simp -implicitDefEqProofs (disch := omega) only [go_sem, Nat.reduceAdd, Nat.reduceSub, reduceCtorEq, Nat.reduceLT, Nat.reduceLeDiff, Nat.reduceEqDiff, Nat.reduceMul, Int.reduceToNat, ↓reduceIte, List.take_of_length_le, if_pos, if_neg, List.getElem?_set_self, List.set_set, getD_exs, cnE, cnV, Tryz.ntmps74, Tryz.results74,  hC.cn, hlo, List.any_cons, List.any_nil, isTmp_c, isTmp_t, Bool.false_or, Bool.true_or, Bool.or_self, hl, hw, h1, opQ_none])
        refine InlK_intro rfl rfl can_one ((isp_one hS h0 (hC.app _) hb _ (by omega) 2 [12, 20, 8, 30, 0] (by decide)).mono ?_)
        rintro r L1 ⟨z, rfl, hz, rfl⟩
        have bz : -100 ≤ z ∧ z ≤ 100 := by simp at hz; omega
        repeat' (first | with_reducible first | refine kI (by kernel_rfl) ?_ | refine kN (by kernel_rfl) ?_ | (first | refine kB1 ?_ ?_ | refine kB2 ?_ ?_) <;> intro hp | (first | refine kD1 ?_ ?_ | refine kD2 ?_ ?_ | refine kS1 ?_ ?_ | refine kS2 ?_ ?_) <;> intro hp <;> try simp only [hp] | simp -implicitDefEqProofs (disch := omega) only [go_sem, Nat.reduceAdd, Nat.reduceSub, reduceCtorEq, Nat.reduceLT, Nat.reduceLeDiff, Nat.reduceEqDiff, Nat.reduceMul, Int.reduceToNat, ↓reduceIte, List.take_of_length_le, if_pos, if_neg, List.getElem?_set_self, List.set_set, getD_exs, cnE, cnV, Tryz.ntmps74, Tryz.results74,  hC.cn, hlo, List.any_cons, List.any_nil, isTmp_c, isTmp_t, Bool.false_or, Bool.true_or, Bool.or_self])
        exact RC_retL hC [z] ⟨⟨0, [z]⟩, _, ⟨⟨⟨show (0 : Int) ≤ 0 by decide, show (0 : Int) ≤ 7 by decide⟩, rfl⟩, by simp; omega⟩, rfl, by omega, by omega, rfl⟩
      by_cases k1 : k = 1
      · subst k1
        repeat' (first | with_reducible first | refine kI (by kernel_rfl) ?_ | refine kN (by kernel_rfl) ?_ | (first | refine kB1 ?_ ?_ | refine kB2 ?_ ?_) <;> intro hp | (first | refine kD1 ?_ ?_ | refine kD2 ?_ ?_ | refine kS1 ?_ ?_ | refine kS2 ?_ ?_) <;> intro hp <;> try simp only [hp] | simp -implicitDefEqProofs (disch := omega) only [go_sem, Nat.reduceAdd, Nat.reduceSub, reduceCtorEq, Nat.reduceLT, Nat.reduceLeDiff, Nat.reduceEqDiff, Nat.reduceMul, Int.reduceToNat, ↓reduceIte, List.take_of_length_le, if_pos, if_neg, List.getElem?_set_self, List.set_set, getD_exs, cnE, cnV, Tryz.ntmps74, Tryz.results74,  hC.cn, hlo, List.any_cons, List.any_nil, isTmp_c, isTmp_t, Bool.false_or, Bool.true_or, Bool.or_self, hl, hw, h0, opQ_none])
        refine InlK_intro rfl rfl can_pick ((isp_pick hS (hC.app _) hb _ (by omega) 6 (by omega)).mono ?_)
        rintro r L1 ⟨x, rfl, lx, ux, rfl⟩
        have bx : -100 ≤ x ∧ x ≤ 100 := by omega
        repeat' (first | with_reducible first | refine kI (by kernel_rfl) ?_ | refine kN (by kernel_rfl) ?_ | (first | refine kB1 ?_ ?_ | refine kB2 ?_ ?_) <;> intro hp | (first | refine kD1 ?_ ?_ | refine kD2 ?_ ?_ | refine kS1 ?_ ?_ | refine kS2 ?_ ?_) <;> intro hp <;> try simp only [hp] | simp -implicitDefEqProofs (disch := omega) only [go_sem, Nat.reduceAdd, Nat.reduceSub, reduceCtorEq, Nat.reduceLT, Nat.reduceLeDiff, Nat.reduceEqDiff, Nat.reduceMul, Int.reduceToNat, ↓reduceIte, List.take_of_length_le, if_pos, if_neg, List.getElem?_set_self, List.set_set, getD_exs, cnE, cnV, Tryz.ntmps74, Tryz.results74,  hC.cn, hlo, List.any_cons, List.any_nil, isTmp_c, isTmp_t, Bool.false_or, Bool.true_or, Bool.or_self, hl, hw, h1, opQ_none])
        refine InlK_intro rfl rfl can_one ((isp_one hS h0 (hC.app _) hb _ (by omega) 2 [4, 3, 5, 2, 0] (by decide)).mono ?_)
        rintro r L1 ⟨z, rfl, hz, rfl⟩
        have bz : -100 ≤ z ∧ z ≤ 100 := by simp at hz; omega
        repeat' (first | with_reducible first | refine kI (by kernel_rfl) ?_ | refine kN (by kernel_rfl) ?_ | (first | refine kB1 ?_ ?_ | refine kB2 ?_ ?_) <;> intro hp | (first | refine kD1 ?_ ?_ | refine kD2 ?_ ?_ | refine kS1 ?_ ?_ | refine kS2 ?_ ?_) <;> intro hp <;> try simp only [hp] | simp -implicitDefEqProofs (disch := omega) only [go_sem, Nat.reduceAdd, Nat.reduceSub, reduceCtorEq, Nat.reduceLT, Nat.reduceLeDiff, Nat.reduceEqDiff, Nat.reduceMul, Int.reduceToNat, ↓reduceIte, List.take_of_length_le, if_pos, if_neg, List.getElem?_set_self, List.set_set, getD_exs, cnE, cnV, Tryz.ntmps74, Tryz.results74,  hC.cn, hlo, List.any_cons, List.any_nil, isTmp_c, isTmp_t, Bool.false_or, Bool.true_or, Bool.or_self, hl, hw, h1, opQ_none])
        refine InlK_intro rfl rfl can_one ((isp_one hS h0 (hC.app _) hb _ (by omega) 2 [1, 2, 3, 0, -1] (by decide)).mono ?_)
        rintro r L1 ⟨w, rfl, hw, rfl⟩
        have bw : -100 ≤ w ∧ w ≤ 100 := by simp at hw; omega
        repeat' (first | with_reducible first | refine kI (by kernel_rfl) ?_ | refine kN (by kernel_rfl) ?_ | (first | refine kB1 ?_ ?_ | refine kB2 ?_ ?_) <;> intro hp | (first | refine kD1 ?_ ?_ | refine kD2 ?_ ?_ | refine kS1 ?_ ?_ | refine kS2 ?_ ?_) <;> intro hp <;> try simp only [hp] | simp -implicitDefEqProofs (disch := omega) only [go_sem, Nat.reduceAdd, Nat.reduceSub, reduceCtorEq, Nat.reduceLT, Nat.reduceLeDiff, Nat.reduceEqDiff, Nat.reduceMul, Int.reduceToNat, ↓reduceIte, List.take_of_length_le, if_pos, if_neg, List.getElem?_set_self, List.set_set, getD_exs, cnE, cnV, Tryz.ntmps74, Tryz.results74,  hC.cn, hlo, List.any_cons, List.any_nil, isTmp_c, isTmp_t, Bool.false_or, Bool.true_or, Bool.or_self])
        exact RC_retL hC [x, z, w] ⟨⟨1, [x, z, w]⟩, _, ⟨⟨⟨show (0 : Int) ≤ 1 by decide, show (1 : Int) ≤ 7 by decide⟩, rfl⟩, by simp; omega⟩, rfl, by omega, by omega, rfl⟩
      by_cases k2 : k = 2
      · subst k2
        repeat' (first | with_reducible first | refine kI (by kernel_rfl) ?_ | refine kN (by kernel_rfl) ?_ | (first | refine kB1 ?_ ?_ | refine kB2 ?_ ?_) <;> intro hp | (first | refine kD1 ?_ ?_ | refine kD2 ?_ ?_ | refine kS1 ?_ ?_ | refine kS2 ?_ ?_) <;> intro hp <;> try simp only [hp] | simp -implicitDefEqProofs (disch := omega) only [go_sem, Nat.reduceAdd, Nat.reduceSub, reduceCtorEq, Nat.reduceLT, Nat.reduceLeDiff, Nat.reduceEqDiff, Nat.reduceMul, Int.reduceToNat, ↓reduceIte, List.take_of_length_le, if_pos, if_neg, List.getElem?_set_self, List.set_set, getD_exs, cnE, cnV, Tryz.ntmps74, Tryz.results74,  hC.cn, hlo, List.any_cons, List.any_nil, isTmp_c, isTmp_t, Bool.false_or, Bool.true_or, Bool.or_self, hl, hw, h0, opQ_none])
        refine InlK_intro rfl rfl can_pick ((isp_pick hS (hC.app _) hb _ (by omega) 4 (by omega)).mono ?_)
        rintro r L1 ⟨x, rfl, lx, ux, rfl⟩
        have bx : -100 ≤ x ∧ x ≤ 100 := by omega
        repeat' (first | with_reducible first | refine kI (by kernel_rfl) ?_ | refine kN (by kernel_rfl) ?_ | (first | refine kB1 ?_ ?_ | refine kB2 ?_ ?_) <;> intro hp | (first | refine kD1 ?_ ?_ | refine kD2 ?_ ?_ | refine kS1 ?_ ?_ | refine kS2 ?_ ?_) <;> intro hp <;> try simp only [hp] | simp -implicitDefEqProofs (disch := omega) only [go_sem, Nat.reduceAdd, Nat.reduceSub, reduceCtorEq, Nat.reduceLT, Nat.reduceLeDiff, Nat.reduceEqDiff, Nat.reduceMul, Int.reduceToNat, ↓reduceIte, List.take_of_length_le, if_pos, if_neg, List.getElem?_set_self, List.set_set, getD_exs, cnE, cnV, Tryz.ntmps74, Tryz.results74,  hC.cn, hlo, List.any_cons, List.any_nil, isTmp_c, isTmp_t, Bool.false_or, Bool.true_or, Bool.or_self, hl, hw, h1, opQ_none])
        refine InlK_intro rfl rfl can_one ((isp_one hS h0 (hC.app _) hb _ (by omega) 2 [3, 4, -1, 2] (by decide)).mono ?_)
        rintro r L1 ⟨z, rfl, hz, rfl⟩
        have bz : -100 ≤ z ∧ z ≤ 100 := by simp at hz; omega
        repeat' (first | with_reducible first | refine kI (by kernel_rfl) ?_ | refine kN (by kernel_rfl) ?_ | (first | refine kB1 ?_ ?_ | refine kB2 ?_ ?_) <;> intro hp | (first | refine kD1 ?_ ?_ | refine kD2 ?_ ?_ | refine kS1 ?_ ?_ | refine kS2 ?_ ?_) <;> intro hp <;> try simp only [hp] | simp -implicitDefEqProofs (disch := omega) only [go_sem, Nat.reduceAdd, Nat.reduceSub, reduceCtorEq, Nat.reduceLT, Nat.reduceLeDiff, Nat.reduceEqDiff, Nat.reduceMul, Int.reduceToNat, ↓reduceIte, List.take_of_length_le, if_pos, if_neg, List.getElem?_set_self, List.set_set, getD_exs, cnE, cnV, Tryz.ntmps74, Tryz.results74,  hC.cn, hlo, List.any_cons, List.any_nil, isTmp_c, isTmp_t, Bool.false_or, Bool.true_or, Bool.or_self, hl, hw, h1, opQ_none])
        refine InlK_intro rfl rfl can_one ((isp_one hS h0 (hC.app _) hb _ (by omega) 2 [1, 2, -1, 1] (by decide)).mono ?_)
        rintro r L1 ⟨w, rfl, hw, rfl⟩
        have bw : -100 ≤ w ∧ w ≤ 100 := by simp at hw; omega
        repeat' (first | with_reducible first | refine kI (by kernel_rfl) ?_ | refine kN (by kernel_rfl) ?_ | (first | refine kB1 ?_ ?_ | refine kB2 ?_ ?_) <;> intro hp | (first | refine kD1 ?_ ?_ | refine kD2 ?_ ?_ | refine kS1 ?_ ?_ | refine kS2 ?_ ?_) <;> intro hp <;> try simp only [hp] | simp -implicitDefEqProofs (disch := omega) only [go_sem, Nat.reduceAdd, Nat.reduceSub, reduceCtorEq, Nat.reduceLT, Nat.reduceLeDiff, Nat.reduceEqDiff, Nat.reduceMul, Int.reduceToNat, ↓reduceIte, List.take_of_length_le, if_pos, if_neg, List.getElem?_set_self, List.set_set, getD_exs, cnE, cnV, Tryz.ntmps74, Tryz.results74,  hC.cn, hlo, List.any_cons, List.any_nil, isTmp_c, isTmp_t, Bool.false_or, Bool.true_or, Bool.or_self])
        exact RC_retL hC [id1, x, z, w] ⟨⟨2, [id1, x, z, w]⟩, _, ⟨⟨⟨show (0 : Int) ≤ 2 by decide, show (2 : Int) ≤ 7 by decide⟩, rfl⟩, by simp; omega⟩, rfl, by omega, by omega, rfl⟩
      by_cases k4 : k = 4
      · subst k4
        repeat' (first | with_reducible first | refine kI (by kernel_rfl) ?_ | refine kN (by kernel_rfl) ?_ | (first | refine kB1 ?_ ?_ | refine kB2 ?_ ?_) <;> intro hp | (first | refine kD1 ?_ ?_ | refine kD2 ?_ ?_ | refine kS1 ?_ ?_ | refine kS2 ?_ ?_) <;> intro hp <;> try simp only [hp] | simp -implicitDefEqProofs (disch := omega) only [go_sem, Nat.reduceAdd, Nat.reduceSub, reduceCtorEq, Nat.reduceLT, Nat.reduceLeDiff, Nat.reduceEqDiff, Nat.reduceMul, Int.reduceToNat, ↓reduceIte, List.take_of_length_le, if_pos, if_neg, List.getElem?_set_self, List.set_set, getD_exs, cnE, cnV, Tryz.ntmps74, Tryz.results74,  hC.cn, hlo, List.any_cons, List.any_nil, isTmp_c, isTmp_t, Bool.false_or, Bool.true_or, Bool.or_self, hl, hw, h0, opQ_none])
        refine InlK_intro rfl rfl can_pick ((isp_pick hS (hC.app _) hb _ (by omega) 100 (by omega)).mono ?_)
        rintro r L1 ⟨x, rfl, lx, ux, rfl⟩
        have bx : -100 ≤ x ∧ x ≤ 100 := by omega
        repeat' (first | with_reducible first | refine kI (by kernel_rfl) ?_ | refine kN (by kernel_rfl) ?_ | (first | refine kB1 ?_ ?_ | refine kB2 ?_ ?_) <;> intro hp | (first | refine kD1 ?_ ?_ | refine kD2 ?_ ?_ | refine kS1 ?_ ?_ | refine kS2 ?_ ?_) <;> intro hp <;> try simp only [hp] | simp -implicitDefEqProofs (disch := omega) only [go_sem, Nat.reduceAdd, Nat.reduceSub, reduceCtorEq, Nat.reduceLT, Nat.reduceLeDiff, Nat.reduceEqDiff, Nat.reduceMul, Int.reduceToNat, ↓reduceIte, List.take_of_length_le, if_pos, if_neg, List.getElem?_set_self, List.set_set, getD_exs, cnE, cnV, Tryz.ntmps74, Tryz.results74,  hC.cn, hlo, List.any_cons, List.any_nil, isTmp_c, isTmp_t, Bool.false_or, Bool.true_or, Bool.or_self])
        exact RC_retL hC [id1, x] ⟨⟨4, [id1, x]⟩, _, ⟨⟨⟨show (0 : Int) ≤ 4 by decide, show (4 : Int) ≤ 7 by decide⟩, rfl⟩, by simp; omega⟩, rfl, by omega, by omega, rfl⟩
      by_cases k5 : k = 5
      · subst k5
        repeat' (first | with_reducible first | refine kI (by kernel_rfl) ?_ | refine kN (by kernel_rfl) ?_ | (first | refine kB1 ?_ ?_ | refine kB2 ?_ ?_) <;> intro hp | (first | refine kD1 ?_ ?_ | refine kD2 ?_ ?_ | refine kS1 ?_ ?_ | refine kS2 ?_ ?_) <;> intro hp <;> try simp only [hp] | simp -implicitDefEqProofs (disch := omega) only [go_sem, Nat.reduceAdd, Nat.reduceSub, reduceCtorEq, Nat.reduceLT, Nat.reduceLeDiff, Nat.reduceEqDiff, Nat.reduceMul, Int.reduceToNat, ↓reduceIte, List.take_of_length_le, if_pos, if_neg, List.getElem?_set_self, List.set_set, getD_exs, cnE, cnV, Tryz.ntmps74, Tryz.results74,  hC.cn, hlo, List.any_cons, List.any_nil, isTmp_c, isTmp_t, Bool.false_or, Bool.true_or, Bool.or_self, hl, hw, h0, opQ_none])
        refine InlK_intro rfl rfl can_pick ((isp_pick hS (hC.app _) hb _ (by omega) ((B.e.length : Int) + 1) (by omega)).mono ?_)
        rintro r L1 ⟨x, rfl, lx, ux, rfl⟩
        have bx : -100 ≤ x ∧ x ≤ 100 := by omega
        repeat' (first | with_reducible first | refine kI (by kernel_rfl) ?_ | refine kN (by kernel_rfl) ?_ | (first | refine kB1 ?_ ?_ | refine kB2 ?_ ?_) <;> intro hp | (first | refine kD1 ?_ ?_ | refine kD2 ?_ ?_ | refine kS1 ?_ ?_ | refine kS2 ?_ ?_) <;> intro hp <;> try simp only [hp] | simp -implicitDefEqProofs (disch := omega) only [go_sem, Nat.reduceAdd, Nat.reduceSub, reduceCtorEq, Nat.reduceLT, Nat.reduceLeDiff, Nat.reduceEqDiff, Nat.reduceMul, Int.reduceToNat, ↓reduceIte, List.take_of_length_le, if_pos, if_neg, List.getElem?_set_self, List.set_set, getD_exs, cnE, cnV, Tryz.ntmps74, Tryz.results74,  hC.cn, hlo, List.any_cons, List.any_nil, isTmp_c, isTmp_t, Bool.false_or, Bool.true_or, Bool.or_self])
        exact RC_retL hC [id1, x] ⟨⟨5, [id1, x]⟩, _, ⟨⟨⟨show (0 : Int) ≤ 5 by decide, show (5 : Int) ≤ 7 by decide⟩, rfl⟩, by simp; omega⟩, rfl, by omega, by omega, rfl⟩
      have f0 : (k == 0) = false := beq_f k0
      have f1 : (k == 1) = false := beq_f k1
      have f2 : (k == 2) = false := beq_f k2
      have f4 : (k == 4) = false := beq_f k4
      have f5 : (k == 5) = false := beq_f k5
      repeat' (first | with_reducible first | refine kI (by kernel_rfl) ?_ | refine kN (by kernel_rfl) ?_ | (first | refine kB1 ?_ ?_ | refine kB2 ?_ ?_) <;> intro hp | (first | refine kD1 ?_ ?_ | refine kD2 ?_ ?_ | refine kS1 ?_ ?_ | refine kS2 ?_ ?_) <;> intro hp <;> try simp only [hp] | simp -implicitDefEqProofs (disch := omega) only [go_sem, Nat.reduceAdd, Nat.reduceSub, reduceCtorEq, Nat.reduceLT, Nat.reduceLeDiff, Nat.reduceEqDiff, Nat.reduceMul, Int.reduceToNat, ↓reduceIte, List.take_of_length_le, if_pos, if_neg, List.getElem?_set_self, List.set_set, getD_exs, cnE, cnV, Tryz.ntmps74, Tryz.results74,  hC.cn, hlo, List.any_cons, List.any_nil, isTmp_c, isTmp_t, Bool.false_or, Bool.true_or, Bool.or_self, f0, f1, f2, f4, f5])
      exact RC_retL hC [id1] ⟨⟨k, [id1]⟩, _, ⟨⟨by dsimp only; omega, show 1 = nedF k by unfold nedF; rw [if_neg k1, if_neg k2, if_neg (by omega)]⟩, by simp; omega⟩, rfl, by omega, by omega, rfl⟩
    · repeat' (first | with_reducible first | refine kI (by kernel_rfl) ?_ | refine kN (by kernel_rfl) ?_ | (first | refine kB1 ?_ ?_ | refine kB2 ?_ ?_) <;> intro hp | (first | refine kD1 ?_ ?_ | refine kD2 ?_ ?_ | refine kS1 ?_ ?_ | refine kS2 ?_ ?_) <;> intro hp <;> try simp only [hp] | simp -implicitDefEqProofs (disch := omega) only [go_sem, Nat.reduceAdd, Nat.reduceSub, reduceCtorEq, Nat.reduceLT, Nat.reduceLeDiff, Nat.reduceEqDiff, Nat.reduceMul, Int.reduceToNat, ↓reduceIte, List.take_of_length_le, if_pos, if_neg, List.getElem?_set_self, List.set_set, getD_exs, cnE, cnV, Tryz.ntmps74, Tryz.results74,  hC.cn, hlo, List.any_cons, List.any_nil, isTmp_c, isTmp_t, Bool.false_or, Bool.true_or, Bool.or_self, hl, hpos, hy, hw, h1, opQ_none])
      refine InlK_intro rfl rfl can_one ((isp_one hS h0 (hC.app _) hb _ (by omega) 2 [1, 2, 3, 4, 5, 6, 7, 0, 6, 4] (by decide)).mono ?_)
      rintro r L1 ⟨k, rfl, hk, rfl⟩
      have bk : -100 ≤ k ∧ k ≤ 100 := by simp at hk; omega
      have kb : 0 ≤ k ∧ k ≤ 7 := by simp at hk; omega
      by_cases k0 : k = 0
      · subst k0
        repeat' (first | with_reducible first | refine kI (by kernel_rfl) ?_ | refine kN (by kernel_rfl) ?_ | (first | refine kB1 ?_ ?_ | refine kB2 ?_ ?_) <;> intro hp | (first | refine kD1 ?_ ?_ | refine kD2 ?_ ?_ | refine kS1 ?_ ?_ | refine kS2 ?_ ?_) <;> intro hp <;> try simp only [hp] | simp -implicitDefEqProofs (disch := omega) only [go_sem, Nat.reduceAdd, Nat.reduceSub, reduceCtorEq, Nat.reduceLT, Nat.reduceLeDiff, Nat.reduceEqDiff, Nat.reduceMul, Int.reduceToNat, ↓reduceIte, List.take_of_length_le, if_pos, if_neg, List.getElem?_set_self, List.set_set, getD_exs, cnE, cnV, Tryz.ntmps74, Tryz.results74,  hC.cn, hlo, List.any_cons, List.any_nil, isTmp_c, isTmp_t, Bool.false_or, Bool.true_or, Bool.or_self, hl, hw, h1, opQ_none])
        refine InlK_intro rfl rfl can_one ((isp_one hS h0 (hC.app _) hb _ (by omega) 2 [12, 20, 8, 30, 0] (by decide)).mono ?_)
        rintro r L1 ⟨z, rfl, hz, rfl⟩
        have bz : -100 ≤ z ∧ z ≤ 100 := by simp at hz; omega
        repeat' (first | with_reducible first | refine kI (by kernel_rfl) ?_ | refine kN (by kernel_rfl) ?_ | (first | refine kB1 ?_ ?_ | refine kB2 ?_ ?_) <;> intro hp | (first | refine kD1 ?_ ?_ | refine kD2 ?_ ?_ | refine kS1 ?_ ?_ | refine kS2 ?_ ?_) <;> intro hp <;> try simp only [hp] | simp -implicitDefEqProofs (disch := omega) only [go_sem, Nat.reduceAdd, Nat.reduceSub, reduceCtorEq, Nat.reduceLT, Nat.reduceLeDiff, Nat.reduceEqDiff, Nat.reduceMul, Int.reduceToNat, ↓reduceIte, List.take_of_length_le, if_pos, if_neg, List.getElem?_set_self, List.set_set, getD_exs, cnE, cnV, Tryz.ntmps74, Tryz.results74,  hC.cn, hlo, List.any_cons, List.any_nil, isTmp_c, isTmp_t, Bool.false_or, Bool.true_or, Bool.or_self])
        exact RC_retL hC [z] ⟨⟨0, [z]⟩, _, ⟨⟨⟨show (0 : Int) ≤ 0 by decide, show (0 : Int) ≤ 7 by decide⟩, rfl⟩, by simp; omega⟩, rfl, by omega, by omega, rfl⟩
      by_cases k1 : k = 1
      · subst k1
        repeat' (first | with_reducible first | refine kI (by kernel_rfl) ?_ | refine kN (by kernel_rfl) ?_ | (first | refine kB1 ?_ ?_ | refine kB2 ?_ ?_) <;> intro hp | (first | refine kD1 ?_ ?_ | refine kD2 ?_ ?_ | refine kS1 ?_ ?_ | refine kS2 ?_ ?_) <;> intro hp <;> try simp only [hp] | simp -implicitDefEqProofs (disch := omega) only [go_sem, Nat.reduceAdd, Nat.reduceSub, reduceCtorEq, Nat.reduceLT, Nat.reduceLeDiff, Nat.reduceEqDiff, Nat.reduceMul, Int.reduceToNat, ↓reduceIte, List.take_of_length_le, if_pos, if_neg, List.getElem?_set_self, List.set_set, getD_exs, cnE, cnV, Tryz.ntmps74, Tryz.results74,  hC.cn, hlo, List.any_cons, List.any_nil, isTmp_c, isTmp_t, Bool.false_or, Bool.true_or, Bool.or_self, hl, hw, h0, opQ_none])
        refine InlK_intro rfl rfl can_pick ((isp_pick hS (hC.app _) hb _ (by omega) 6 (by omega)).mono ?_)
        rintro r L1 ⟨x, rfl, lx, ux, rfl⟩
        have bx : -100 ≤ x ∧ x ≤ 100 := by omega
        repeat' (first | with_reducible first | refine kI (by kernel_rfl) ?_ | refine kN (by kernel_rfl) ?_ | (first | refine kB1 ?_ ?_ | refine kB2 ?_ ?_) <;> intro hp | (first | refine kD1 ?_ ?_ | refine kD2 ?_ ?_ | refine kS1 ?_ ?_ | refine kS2 ?_ ?_) <;> intro hp <;> try simp only [hp] | simp -implicitDefEqProofs (disch := omega) only [go_sem, Nat.reduceAdd, Nat.reduceSub, reduceCtorEq, Nat.reduceLT, Nat.reduceLeDiff, Nat.reduceEqDiff, Nat.reduceMul, Int.reduceToNat, ↓reduceIte, List.take_of_length_le, if_pos, if_neg, List.getElem?_set_self, List.set_set, getD_exs, cnE, cnV, Tryz.ntmps74, Tryz.results74,  hC.cn, hlo, List.any_cons, List.any_nil, isTmp_c, isTmp_t, Bool.false_or, Bool.true_or, Bool.or_self, hl, hw, h1, opQ_none])
        refine InlK_intro rfl rfl can_one ((isp_one hS h0 (hC.app _) hb _ (by omega) 2 [4, 3, 5, 2, 0] (by decide)).mono ?_)
        rintro r L1 ⟨z, rfl, hz, rfl⟩
        have bz : -100 ≤ z ∧ z ≤ 100 := by simp at hz; omega
        repeat' (first | with_reducible first | refine kI (by kernel_rfl) ?_ | refine kN (by kernel_rfl) ?_ | (first | refine kB1 ?_ ?_ | refine kB2 ?_ ?_) <;> intro hp | (first | refine kD1 ?_ ?_ | refine kD2 ?_ ?_ | refine kS1 ?_ ?_ | refine kS2 ?_ ?_) <;> intro hp <;> try simp only [hp] | simp -implicitDefEqProofs (disch := omega) only [go_sem, Nat.reduceAdd, Nat.reduceSub, reduceCtorEq, Nat.reduceLT, Nat.reduceLeDiff, Nat.reduceEqDiff, Nat.reduceMul, Int.reduceToNat, ↓reduceIte, List.take_of_length_le, if_pos, if_neg, List.getElem?_set_self, List.set_set, getD_exs, cnE, cnV, Tryz.ntmps74, Tryz.results74,  hC.cn, hlo, List.any_cons, List.any_nil, isTmp_c, isTmp_t, Bool.false_or, Bool.true_or, Bool.or_self, hl, hw, h1, opQ_none])
        refine InlK_intro rfl rfl can_one ((isp_one hS h0 (hC.app _) hb _ (by omega) 2 [1, 2, 3, 0, -1] (by decide)).mono ?_)
        rintro r L1 ⟨w, rfl, hw, rfl⟩
        have bw : -100 ≤ w ∧ w ≤ 100 := by simp at hw; omega
        repeat' (first | with_reducible first | refine kI (by kernel_rfl) ?_ | refine kN (by kernel_rfl) ?_ | (first | refine kB1 ?_ ?_ | refine kB2 ?_ ?_) <;> intro hp | (first | refine kD1 ?_ ?_ | refine kD2 ?_ ?_ | refine kS1 ?_ ?_ | refine kS2 ?_ ?_) <;> intro hp <;> try simp only [hp] | simp -implicitDefEqProofs (disch := omega) only [go_sem, Nat.reduceAdd, Nat.reduceSub, reduceCtorEq, Nat.reduceLT, Nat.reduceLeDiff, Nat.reduceEqDiff, Nat.reduceMul, Int.reduceToNat, ↓reduceIte, List.take_of_length_le, if_pos, if_neg, List.getElem?_set_self, List.set_set, getD_exs, cnE, cnV, Tryz.ntmps74, Tryz.results74,  hC.cn, hlo, List.any_cons, List.any_nil, isTmp_c, isTmp_t, Bool.false_or, Bool.true_or, Bool.or_self])
        exact RC_retL hC [x, z, w] ⟨⟨1, [x, z, w]⟩, _, ⟨⟨⟨show (0 : Int) ≤ 1 by decide, show (1 : Int) ≤ 7 by decide⟩, rfl⟩, by simp; omega⟩, rfl, by omega, by omega, rfl⟩
      by_cases k2 : k = 2
      · subst k2
        repeat' (first | with_reducible first | refine kI (by kernel_rfl) ?_ | refine kN (by kernel_rfl) ?_ | (first | refine kB1 ?_ ?_ | refine kB2 ?_ ?_) <;> intro hp | (first | refine kD1 ?_ ?_ | refine kD2 ?_ ?_ | refine kS1 ?_ ?_ | refine kS2 ?_ ?_) <;> intro hp <;> try simp only [hp] | simp -implicitDefEqProofs (disch := omega) only [go_sem, Nat.reduceAdd, Nat.reduceSub, reduceCtorEq, Nat.reduceLT, Nat.reduceLeDiff, Nat.reduceEqDiff, Nat.reduceMul, Int.reduceToNat, ↓reduceIte, List.take_of_length_le, if_pos, if_neg, List.getElem?_set_self, List.set_set, getD_exs, cnE, cnV, Tryz.ntmps74, Tryz.results74,  hC.cn, hlo, List.any_cons, List.any_nil, isTmp_c, isTmp_t, Bool.false_or, Bool.true_or, Bool.or_self, hl, hw, h0, opQ_none])
        refine InlK_intro rfl rfl can_pick ((isp_pick hS (hC.app _) hb _ (by omega) 4 (by omega)).mono ?_)
        rintro r L1 ⟨x, rfl, lx, ux, rfl⟩
        have bx : -100 ≤ x ∧ x ≤ 100 := by omega
        repeat' (first | with_reducible first | refine kI (by kernel_rfl) ?_ | refine kN (by kernel_rfl) ?_ | (first | refine kB1 ?_ ?_ | refine kB2 ?_ ?_) <;> intro hp | (first | refine kD1 ?_ ?_ | refine kD2 ?_ ?_ | refine kS1 ?_ ?_ | refine kS2 ?_ ?_) <;> intro hp <;> try simp only [hp] | simp -implicitDefEqProofs (disch := omega) only [go_sem, Nat.reduceAdd, Nat.reduceSub, reduceCtorEq, Nat.reduceLT, Nat.reduceLeDiff, Nat.reduceEqDiff, Nat.reduceMul, Int.reduceToNat, ↓reduceIte, List.take_of_length_le, if_pos, if_neg, List.getElem?_set_self, List.set_set, getD_exs, cnE, cnV, Tryz.ntmps74, Tryz.results74,  hC.cn, hlo, List.any_cons, List.any_nil, isTmp_c, isTmp_t, Bool.false_or, Bool.true_or, Bool.or_self, hl, hw, h1, opQ_none])
        refine InlK_intro rfl rfl can_one ((isp_one hS h0 (hC.app _) hb _ (by omega) 2 [3, 4, -1, 2] (by decide)).mono ?_)
        rintro r L1 ⟨z, rfl, hz, rfl⟩
        have bz : -100 ≤ z ∧ z ≤ 100 := by simp at hz; omega
        repeat' (first | with_reducible first | refine kI (by kernel_rfl) ?_ | refine kN (by kernel_rfl) ?_ | (first | refine kB1 ?_ ?_ | refine kB2 ?_ ?_) <;> intro hp | (first | refine kD1 ?_ ?_ | refine kD2 ?_ ?_ | refine kS1 ?_ ?_ | refine kS2 ?_ ?_) <;> intro hp <;> try simp only [hp] | simp -implicitDefEqProofs (disch := omega) only [go_sem, Nat.reduceAdd, Nat.reduceSub, reduceCtorEq, Nat.reduceLT, Nat.reduceLeDiff, Nat.reduceEqDiff, Nat.reduceMul, Int.reduceToNat, ↓reduceIte, List.take_of_length_le, if_pos, if_neg, List.getElem?_set_self, List.set_set, getD_exs, cnE, cnV, Tryz.ntmps74, Tryz.results74,  hC.cn, hlo, List.any_cons, List.any_nil, isTmp_c, isTmp_t, Bool.false_or, Bool.true_or, Bool.or_self, hl, hw, h1, opQ_none])
        refine InlK_intro rfl rfl can_one ((isp_one hS h0 (hC.app _) hb _ (by omega) 2 [1, 2, -1, 1] (by decide)).mono ?_)
        rintro r L1 ⟨w, rfl, hw, rfl⟩
        have bw : -100 ≤ w ∧ w ≤ 100 := by simp at hw; omega
        repeat' (first | with_reducible first | refine kI (by kernel_rfl) ?_ | refine kN (by kernel_rfl) ?_ | (first | refine kB1 ?_ ?_ | refine kB2 ?_ ?_) <;> intro hp | (first | refine kD1 ?_ ?_ | refine kD2 ?_ ?_ | refine kS1 ?_ ?_ | refine kS2 ?_ ?_) <;> intro hp <;> try simp only [hp] | simp -implicitDefEqProofs (disch := omega) only [go_sem, Nat.reduceAdd, Nat.reduceSub, reduceCtorEq, Nat.reduceLT, Nat.reduceLeDiff, Nat.reduceEqDiff, Nat.reduceMul, Int.reduceToNat, ↓reduceIte, List.take_of_length_le, if_pos, if_neg, List.getElem?_set_self, List.set_set, getD_exs, cnE, cnV, Tryz.ntmps74, Tryz.results74,  hC.cn, hlo, List.any_cons, List.any_nil, isTmp_c, isTmp_t, Bool.false_or, Bool.true_or, Bool.or_self])
        exact RC_retL hC [id0, x, z, w] ⟨⟨2, [id0, x, z, w]⟩, _, ⟨⟨⟨show (0 : Int) ≤ 2 by decide, show (2 : Int) ≤ 7 by decide⟩, rfl⟩, by simp; omega⟩, rfl, by omega, by omega, rfl⟩
      by_cases k4 : k = 4
      · subst k4
        repeat' (first | with_reducible first | refine kI (by kernel_rfl) ?_ | refine kN (by kernel_rfl) ?_ | (first | refine kB1 ?_ ?_ | refine kB2 ?_ ?_) <;> intro hp | (first | refine kD1 ?_ ?_ | refine kD2 ?_ ?_ | refine kS1 ?_ ?_ | refine kS2 ?_ ?_) <;> intro hp <;> try simp only [hp] | simp -implicitDefEqProofs (disch := omega) only [go_sem, Nat.reduceAdd, Nat.reduceSub, reduceCtorEq, Nat.reduceLT, Nat.reduceLeDiff, Nat.reduceEqDiff, Nat.reduceMul, Int.reduceToNat, ↓reduceIte, List.take_of_length_le, if_pos, if_neg, List.getElem?_set_self, List.set_set, getD_exs, cnE, cnV, Tryz.ntmps74, Tryz.results74,  hC.cn, hlo, List.any_cons, List.any_nil, isTmp_c, isTmp_t, Bool.false_or, Bool.true_or, Bool.or_self, hl, hw, h0, opQ_none])
        refine InlK_intro rfl rfl can_pick ((isp_pick hS (hC.app _) hb _ (by omega) 100 (by omega)).mono ?_)
        rintro r L1 ⟨x, rfl, lx, ux, rfl⟩
        have bx : -100 ≤ x ∧ x ≤ 100 := by omega
        repeat' (first | with_reducible first | refine kI (by kernel_rfl) ?_ | refine kN (by kernel_rfl) ?_ | (first | refine kB1 ?_ ?_ | refine kB2 ?_ ?_) <;> intro hp | (first | refine kD1 ?_ ?_ | refine kD2 ?_ ?_ | refine kS1 ?_ ?_ | refine kS2 ?_ ?_) <;> intro hp <;> try simp only [hp] | simp -implicitDefEqProofs (disch := omega) only [go_sem, Nat.reduceAdd, Nat.reduceSub, reduceCtorEq, Nat.reduceLT, Nat.reduceLeDiff, Nat.reduceEqDiff, Nat.reduceMul, Int.reduceToNat, ↓reduceIte, List.take_of_length_le, if_pos, if_neg, List.getElem?_set_self, List.set_set, getD_exs, cnE, cnV, Tryz.ntmps74, Tryz.results74,  hC.cn, hlo, List.any_cons, List.any_nil, isTmp_c, isTmp_t, Bool.false_or, Bool.true_or, Bool.or_self])
        exact RC_retL hC [id0, x] ⟨⟨4, [id0, x]⟩, _, ⟨⟨⟨show (0 : Int) ≤ 4 by decide, show (4 : Int) ≤ 7 by decide⟩, rfl⟩, by simp; omega⟩, rfl, by omega, by omega, rfl⟩
      by_cases k5 : k = 5
      · subst k5
        repeat' (first | with_reducible first | refine kI (by kernel_rfl) ?_ | refine kN (by kernel_rfl) ?_ | (first | refine kB1 ?_ ?_ | refine kB2 ?_ ?_) <;> intro hp | (first | refine kD1 ?_ ?_ | refine kD2 ?_ ?_ | refine kS1 ?_ ?_ | refine kS2 ?_ ?_) <;> intro hp <;> try simp only [hp] | simp -implicitDefEqProofs (disch := omega) only [go_sem, Nat.reduceAdd, Nat.reduceSub, reduceCtorEq, Nat.reduceLT, Nat.reduceLeDiff, Nat.reduceEqDiff, Nat.reduceMul, Int.reduceToNat, ↓reduceIte, List.take_of_length_le, if_pos, if_neg, List.getElem?_set_self, List.set_set, getD_exs, cnE, cnV, Tryz.ntmps74, Tryz.results74,  hC.cn, hlo, List.any_cons, List.any_nil, isTmp_c, isTmp_t, Bool.false_or, Bool.true_or, Bool.or_self, hl, hw, h0, opQ_none])
        refine InlK_intro rfl rfl can_pick ((isp_pick hS (hC.app _) hb _ (by omega) ((B.e.length : Int) + 1) (by omega)).mono ?_)
        rintro r L1 ⟨x, rfl, lx, ux, rfl⟩
        have bx : -100 ≤ x ∧ x ≤ 100 := by omega
        repeat' (first | with_reducible first | refine kI (by kernel_rfl) ?_ | refine kN (by kernel_rfl) ?_ | (first | refine kB1 ?_ ?_ | refine kB2 ?_ ?_) <;> intro hp | (first | refine kD1 ?_ ?_ | refine kD2 ?_ ?_ | refine kS1 ?_ ?_ | refine kS2 ?_ ?_) <;> intro hp <;> try simp only [hp] | simp -implicitDefEqProofs (disch := omega) only [go_sem, Nat.reduceAdd, Nat.reduceSub, reduceCtorEq, Nat.reduceLT, Nat.reduceLeDiff, Nat.reduceEqDiff, Nat.reduceMul, Int.reduceToNat, ↓reduceIte, List.take_of_length_le, if_pos, if_neg, List.getElem?_set_self, List.set_set, getD_exs, cnE, cnV, Tryz.ntmps74, Tryz.results74,  hC.cn, hlo, List.any_cons, List.any_nil, isTmp_c, isTmp_t, Bool.false_or, Bool.true_or, Bool.or_self])
        exact RC_retL hC [id0, x] ⟨⟨5, [id0, x]⟩, _, ⟨⟨⟨show (0 : Int) ≤ 5 by decide, show (5 : Int) ≤ 7 by decide⟩, rfl⟩, by simp; omega⟩, rfl, by omega, by omega, rfl⟩
      have f0 : (k == 0) = false := beq_f k0
      have f1 : (k == 1) = false := beq_f k1
      have f2 : (k == 2) = false := beq_f k2
      have f4 : (k == 4) = false := beq_f k4
      have f5 : (k == 5) = false := beq_f k5
      repeat' (first | with_reducible first | refine kI (by kernel_rfl) ?_ | refine kN (by kernel_rfl) ?_ | (first | refine kB1 ?_ ?_ | refine kB2 ?_ ?_) <;> intro hp | (first | refine kD1 ?_ ?_ | refine kD2 ?_ ?_ | refine kS1 ?_ ?_ | refine kS2 ?_ ?_) <;> intro hp <;> try simp only [hp] | simp -implicitDefEqProofs (disch := omega) only [go_sem, Nat.reduceAdd, Nat.reduceSub, reduceCtorEq, Nat.reduceLT, Nat.reduceLeDiff, Nat.reduceEqDiff, Nat.reduceMul, Int.reduceToNat, ↓reduceIte, List.take_of_length_le, if_pos, if_neg, List.getElem?_set_self, List.set_set, getD_exs, cnE, cnV, Tryz.ntmps74, Tryz.results74,  hC.cn, hlo, List.any_cons, List.any_nil, isTmp_c, isTmp_t, Bool.false_or, Bool.true_or, Bool.or_self, f0, f1, f2, f4, f5])
      exact RC_retL hC [id0] ⟨⟨k, [id0]⟩, _, ⟨⟨by dsimp only; omega, show 1 = nedF k by unfold nedF; rw [if_neg k1, if_neg k2, if_neg (by omega)]⟩, by simp; omega⟩, rfl, by omega, by omega, rfl⟩
theorem ned_4' (k : Int) : nedF k ≤ 4 := by
  unfold nedF
  repeat' split
  all_goals omega
theorem ned_1 (k : Int) : 1 ≤ nedF k := by
  unfold nedF
  repeat' split
  all_goals omega
def SomeActL : Prop := ∀ {bs : List UInt8} {b n : Nat} {rL : Int → List Blk} (hC : RC bs b n rL) (hb : bs.length ≤ 2000) (p : Int) (hp : 0 ≤ p ∧ p ≤ 800000000) (B : Bf) (hB : bfS B), ISpec Tryz.prog 74 [.ptr b 1 0 0, bfA 1 B] (rL p) fun r L' => ∃ (a : Ac) (p' : Int), actV a ∧ r = .agg [i64 a.k, .sl n a.n.length 0 a.n.length a.n.length] ∧ p ≤ p' ∧ p' ≤ p + 10 ∧ L' = rL p' ++ [stB a.n]
end Go.Proofs.YtkmnepmnjpdpkaaGreatDoor
