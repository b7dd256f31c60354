/- Contracts of functions that the laws of this seat call. -/
import Derived.Test.YtjmkdnnfhphckaaMc
set_option linter.all false
namespace Go.Proofs.Ytjmkdnnfhphckaa
open Go Go.Ev Go.RowKit Go.Ev.Enc Go.Pl

/-! ### draws -/
theorem rc_hideM {bs : List UInt8} {b n : Nat} {rL : Int → List Blk} (hC : RC bs b n rL) (X : List Blk) {m : Nat} (hm : n + X.length = m) : ∃ rL2 : Int → List Blk, (∀ p, rL p ++ X = rL2 p) ∧ RC bs b m rL2 :=
  ⟨fun p => rL p ++ X, fun _ => rfl, hm ▸ hC.app X⟩
theorem selV_one {L : List Blk} {n k : Nat} : selV (gR n [n]) L (.sl n k 0 k k) = .sl n k 0 k k := by
  simp [selV, expE, selC, selStep, gR, List.idxOf?_cons]
theorem getD_n0 {bs : List UInt8} {b n : Nat} {rL : Int → List Blk} (hC : RC bs b n rL) {p : Int} {x d : Blk} {X : List Blk} : (rL p ++ (x :: X)).getD n d = x := by
  rw [List.getD_eq_getElem?_getD, hC.at0]; rfl
set_option maxHeartbeats 4000000 in
set_option maxRecDepth 100000 in
theorem isp_goodShapeB {Sg : FuncId → Option (List AV → Option AV)} (hS : Sound Try.prog Sg) (h0 : Sg 16 = none) (hn : Sg 17 = none) (hc : Sg 40 = some (F1 gCount)) {bs : List UInt8} {b n : Nat} {rL : Int → List Blk} (hC : RC bs b n rL) (hb : bs.length ≤ 2000) (p : Int) (hp : 0 ≤ p ∧ p ≤ 900000000) : ISpec Try.prog 34 [.ptr b 1 0 0] (rL p) (fun r L' => ∃ l p', r = .sl n l.length 0 l.length l.length ∧ l.length ≤ 4 ∧ (∀ x ∈ l, 0 ≤ x ∧ x ≤ 5) ∧ 0 ≤ prodW l ∧ prodW l ≤ 60 ∧ p ≤ p' ∧ p' ≤ p + 5 ∧ L' = rL p' ++ [stB l]) := by
  refine ISpec.ret Try.func34 rfl (vc3_sound Try.pf hS hS _ _ _ ?_)
  repeat' (first | with_reducible first | refine kI (by kernel_rfl) ?_ | refine kN (by kernel_rfl) ?_ | (first | refine kB1 ?_ ?_ | refine kB2 ?_ ?_) <;> intro hp | (first | refine kD1 ?_ ?_ | refine kD2 ?_ ?_ | refine kS1 ?_ ?_ | refine kS2 ?_ ?_) <;> intro hp <;> try simp only [hp] | simp -implicitDefEqProofs (disch := omega) only [go_sem, Nat.reduceAdd, Nat.reduceSub, reduceCtorEq, Nat.reduceLT, Nat.reduceLeDiff, Nat.reduceEqDiff, Nat.reduceMul, Int.reduceToNat, ↓reduceIte, List.take_of_length_le, if_pos, if_neg, getD_tsrs, fillA_len, fillA_at, fillA_full, evApp_z0, evApp_z1, evApp_z2, evApp_z3, evApp_i6, List.getElem?_set_self, List.set_set, getD_vis, cnE, Try.ntmps34, Try.results34,  hC.cn, hn, opQ_none])
  refine InlK_intro rfl rfl can_one ((isp_one hS h0 (hC.app [⟨1, []⟩]) hb p (by omega) 2 [2, 1, 3, 2, 0, 4] (by decide)).mono ?_)
  rintro r L1 ⟨v, rfl, h1, rfl⟩
  have hv : 0 ≤ v ∧ v ≤ 4 := by simp at h1; omega
  repeat' (first | with_reducible first | refine kI (by kernel_rfl) ?_ | refine kN (by kernel_rfl) ?_ | (first | refine kB1 ?_ ?_ | refine kB2 ?_ ?_) <;> intro hp | (first | refine kD1 ?_ ?_ | refine kD2 ?_ ?_ | refine kS1 ?_ ?_ | refine kS2 ?_ ?_) <;> intro hp <;> try simp only [hp] | simp -implicitDefEqProofs (disch := omega) only [go_sem, Nat.reduceAdd, Nat.reduceSub, reduceCtorEq, Nat.reduceLT, Nat.reduceLeDiff, Nat.reduceEqDiff, Nat.reduceMul, Int.reduceToNat, ↓reduceIte, List.take_of_length_le, if_pos, if_neg, getD_tsrs, fillA_len, fillA_at, fillA_full, evApp_z0, evApp_z1, evApp_z2, evApp_z3, evApp_i6, List.getElem?_set_self, List.set_set, getD_vis, cnE, Try.ntmps34, Try.results34,  hC.cn])
  refine LoopQ.mix (fun t0 L0 nn ss => ∃ (j : Nat) (q : List Int) (p1 : Int) (_ : Unit), (∃ x : Nat → AV, ss = ⟨mixL 0 (.k :: .k :: .k :: .v (.sl n q.length 0 q.length q.length) :: .v (i64 (j : Nat)) :: .s :: .k :: .k :: .k :: .k :: .s :: .s :: .s :: .s :: .s :: .s :: .s :: .s :: .s :: .s :: .s :: .s :: .s :: .s :: .s :: .s :: .k :: []) t0 x, rL p1 ++ [⟨1, q.map fun n => .int .i64 n⟩]⟩) ∧ (q.length + j ≤ 4) ∧ (∀ x ∈ q, 0 ≤ x ∧ x ≤ 5) ∧ (0 ≤ prodW q) ∧ (prodW q ≤ 60) ∧ (p ≤ p1) ∧ (p1 + j ≤ p + 5) ∧ nn = 2 * j) ?_ ?_
  · exact ⟨_, v.toNat, [], p + 1, (), mixJ (by rw [show ((v.toNat : Nat) : Int) = v from by omega]; rfl) rfl, by simp; omega, by simp, by decide, by decide, by omega, by omega, rfl⟩
  · rintro I0 hI0 mm ss ⟨j, q, p1, _, ⟨x, rfl⟩, h1, h2, h3, h4, h5, h6, rfl⟩
    by_cases hj0 : j = 0
    · subst hj0
      repeat' (first | with_reducible first | refine kI (by kernel_rfl) ?_ | refine kN (by kernel_rfl) ?_ | (first | refine kB1 ?_ ?_ | refine kB2 ?_ ?_) <;> intro hp | (first | refine kD1 ?_ ?_ | refine kD2 ?_ ?_ | refine kS1 ?_ ?_ | refine kS2 ?_ ?_) <;> intro hp <;> try simp only [hp] | simp -implicitDefEqProofs (disch := omega) only [go_sem, Nat.reduceAdd, Nat.reduceSub, reduceCtorEq, Nat.reduceLT, Nat.reduceLeDiff, Nat.reduceEqDiff, Nat.reduceMul, Int.reduceToNat, ↓reduceIte, List.take_of_length_le, if_pos, if_neg, getD_tsrs, fillA_len, fillA_at, fillA_full, evApp_z0, evApp_z1, evApp_z2, evApp_z3, evApp_i6, List.getElem?_set_self, List.set_set, getD_vis, cnE, Try.ntmps34, Try.results34,  hC.cn])
      exact hC.ret [n] (by simp) (by simp) ⟨q, p1, selV_one, by omega, h2, h3, h4, by omega, by omega, by simp only [List.map_cons, List.map_nil, getD_n0 hC, selB_ints]⟩
    · obtain ⟨i, rfl⟩ : ∃ i, j = i + 1 := ⟨j - 1, by omega⟩
      have hwj : IntKind.i64.wrap (((i + 1 : Nat) : Int) - 1) = (i : Int) := by rw [wrap_in (by omega)]; omega
      repeat' (first | with_reducible first | refine kI (by kernel_rfl) ?_ | refine kN (by kernel_rfl) ?_ | (first | refine kB1 ?_ ?_ | refine kB2 ?_ ?_) <;> intro hp | (first | refine kD1 ?_ ?_ | refine kD2 ?_ ?_ | refine kS1 ?_ ?_ | refine kS2 ?_ ?_) <;> intro hp <;> try simp only [hp] | simp -implicitDefEqProofs (disch := omega) only [go_sem, Nat.reduceAdd, Nat.reduceSub, reduceCtorEq, Nat.reduceLT, Nat.reduceLeDiff, Nat.reduceEqDiff, Nat.reduceMul, Int.reduceToNat, ↓reduceIte, List.take_of_length_le, if_pos, if_neg, getD_tsrs, fillA_len, fillA_at, fillA_full, evApp_z0, evApp_z1, evApp_z2, evApp_z3, evApp_i6, List.getElem?_set_self, List.set_set, getD_vis, cnE, Try.ntmps34, Try.results34,  hC.cn, hn, opQ_none])
      refine InlK_intro rfl rfl can_one ((isp_one hS h0 (hC.app [⟨1, q.map fun n => .int .i64 n⟩]) hb p1 (by omega) 2 [2, 3, 1, 4, 2, 3, 5, 0] (by decide)).mono ?_)
      rintro r L1 ⟨y, rfl, h7, rfl⟩
      have hy : 0 ≤ y ∧ y ≤ 5 := by simp at h7; omega
      have hm1 : 0 ≤ prodW q * y := Int.mul_nonneg h3 hy.1
      have hm2 : prodW q * y ≤ 60 * 5 := Int.mul_le_mul h4 hy.2 hy.1 (by omega)
      have hw : IntKind.i64.wrap (prodW q * y) = prodW q * y := wrap_in (by omega)
      have q1 := gCount_eq (l := q) (by omega)
      have hA := evApp_rc hC (p1 + 1) [] (by' := 8) (k := q.length) (q := q) (x := y) rfl (by omega) (by omega)
      repeat' (first | with_reducible first | refine kI (by kernel_rfl) ?_ | refine kN (by kernel_rfl) ?_ | (first | refine kB1 ?_ ?_ | refine kB2 ?_ ?_) <;> intro hp | (first | refine kD1 ?_ ?_ | refine kD2 ?_ ?_ | refine kS1 ?_ ?_ | refine kS2 ?_ ?_) <;> intro hp <;> try simp only [hp] | simp -implicitDefEqProofs (disch := omega) only [go_sem, Nat.reduceAdd, Nat.reduceSub, reduceCtorEq, Nat.reduceLT, Nat.reduceLeDiff, Nat.reduceEqDiff, Nat.reduceMul, Int.reduceToNat, ↓reduceIte, List.take_of_length_le, if_pos, if_neg, getD_tsrs, fillA_len, fillA_at, fillA_full, evApp_z0, evApp_z1, evApp_z2, evApp_z3, evApp_i6, List.getElem?_set_self, List.set_set, getD_vis, cnE, Try.ntmps34, Try.results34,  hC.cn, hc, q1, hw, hA, hwj])
      · have hpw : prodW (q ++ [y]) = prodW q * y := by rw [prodW_snoc, hw]
        exact ⟨2 * i, by omega, hI0 _ _ ⟨i, q ++ [y], p1 + 1, (), mixJ (by simp only [List.length_append, List.length_cons, List.length_nil, Nat.zero_add]; rfl) rfl, by simp; omega, fun z hz => by
          rcases List.mem_append.1 hz with hz | hz
          · exact h2 z hz
          · simp at hz; subst hz; exact hy, by rw [hpw]; exact hm1, by rw [hpw]; exact hp, by omega, by omega, rfl⟩⟩
      · exact ⟨2 * i, by omega, hI0 _ _ ⟨i, q, p1 + 1, (), mixI rfl, by omega, h2, h3, h4, by omega, by omega, rfl⟩⟩
theorem can_someShape : CanCall Try.prog 19 := ⟨_, Try.func19, rfl, rfl⟩
set_option maxHeartbeats 4000000 in
set_option maxRecDepth 100000 in
theorem isp_someShape {Sg : FuncId → Option (List AV → Option AV)} (hS : Sound Try.prog Sg) (h0 : Sg 16 = none) (h1 : Sg 17 = none) (hg : Sg 34 = none) (hc : Sg 40 = some (F1 gCount)) {bs : List UInt8} {b n : Nat} {rL : Int → List Blk} (hC : RC bs b n rL) (hb : bs.length ≤ 2000) (p : Int) (hp : 0 ≤ p ∧ p ≤ 800000000) : ISpec Try.prog 19 [.ptr b 1 0 0] (rL p) (fun r L' => ∃ (l : List Int) (t : Nat) (p' : Int), l.length ≤ 5 ∧ r = ints t l ∧ p ≤ p' ∧ p' ≤ p + 10 ∧ L' = rL p') := by
  refine ISpec.ret Try.func19 rfl (vc3_sound Try.pf hS hS _ _ _ ?_)
  repeat' (first | with_reducible first | refine kI (by kernel_rfl) ?_ | refine kN (by kernel_rfl) ?_ | (first | refine kB1 ?_ ?_ | refine kB2 ?_ ?_) <;> intro hp | (first | refine kD1 ?_ ?_ | refine kD2 ?_ ?_ | refine kS1 ?_ ?_ | refine kS2 ?_ ?_) <;> intro hp <;> try simp only [hp] | simp -implicitDefEqProofs (disch := omega) only [go_sem, Nat.reduceAdd, Nat.reduceSub, reduceCtorEq, Nat.reduceLT, Nat.reduceLeDiff, Nat.reduceEqDiff, Nat.reduceMul, Int.reduceToNat, ↓reduceIte, List.take_of_length_le, if_pos, if_neg, getD_tsrs, fillA_len, fillA_at, fillA_full, evApp_z0, evApp_z1, evApp_z2, evApp_z3, evApp_i6, List.getElem?_set_self, List.set_set, getD_vis, cnE, Try.ntmps19, Try.results19,  hC.cn, hg, opQ_none])
  refine InlK_intro rfl rfl can_goodShape ((isp_goodShapeB hS h0 h1 hc hC hb p (by omega)).mono ?_)
  rintro r L1 ⟨l, p1, rfl, k1, k2, k3, k4, k5, k6, rfl⟩
  repeat' (first | with_reducible first | refine kI (by kernel_rfl) ?_ | refine kN (by kernel_rfl) ?_ | (first | refine kB1 ?_ ?_ | refine kB2 ?_ ?_) <;> intro hp | (first | refine kD1 ?_ ?_ | refine kD2 ?_ ?_ | refine kS1 ?_ ?_ | refine kS2 ?_ ?_) <;> intro hp <;> try simp only [hp] | simp -implicitDefEqProofs (disch := omega) only [go_sem, Nat.reduceAdd, Nat.reduceSub, reduceCtorEq, Nat.reduceLT, Nat.reduceLeDiff, Nat.reduceEqDiff, Nat.reduceMul, Int.reduceToNat, ↓reduceIte, List.take_of_length_le, if_pos, if_neg, getD_tsrs, fillA_len, fillA_at, fillA_full, evApp_z0, evApp_z1, evApp_z2, evApp_z3, evApp_i6, List.getElem?_set_self, List.set_set, getD_vis, cnE, Try.ntmps19, Try.results19,  hC.cn, h0, opQ_none])
  refine InlK_intro rfl rfl can_pick ((isp_pick hS (hC.app _) hb p1 (by omega) 24 (by omega)).mono ?_)
  rintro r L1 ⟨ch, rfl, -, -, rfl⟩
  by_cases hch : ch = 0
  · have hch' : (ch == 0) = true := beq_t hch
    repeat' (first | with_reducible first | refine kI (by kernel_rfl) ?_ | refine kN (by kernel_rfl) ?_ | (first | refine kB1 ?_ ?_ | refine kB2 ?_ ?_) <;> intro hp | (first | refine kD1 ?_ ?_ | refine kD2 ?_ ?_ | refine kS1 ?_ ?_ | refine kS2 ?_ ?_) <;> intro hp <;> try simp only [hp] | simp -implicitDefEqProofs (disch := omega) only [go_sem, Nat.reduceAdd, Nat.reduceSub, reduceCtorEq, Nat.reduceLT, Nat.reduceLeDiff, Nat.reduceEqDiff, Nat.reduceMul, Int.reduceToNat, ↓reduceIte, List.take_of_length_le, if_pos, if_neg, getD_tsrs, fillA_len, fillA_at, fillA_full, evApp_z0, evApp_z1, evApp_z2, evApp_z3, evApp_i6, List.getElem?_set_self, List.set_set, getD_vis, cnE, Try.ntmps19, Try.results19,  hC.cn, hch', h1, opQ_none])
    refine InlK_intro rfl rfl can_one ((isp_one hS h0 (hC.app _) hb _ (by omega) 2 [-1, 61, 40] (by decide)).mono ?_)
    rintro r L1 ⟨z, rfl, -, rfl⟩
    have hA := evApp_rc hC (p1 + 1 + 1) [] (by' := 8) (k := l.length) (q := l) (x := z) rfl (by omega) (by omega)
    repeat' (first | with_reducible first | refine kI (by kernel_rfl) ?_ | refine kN (by kernel_rfl) ?_ | (first | refine kB1 ?_ ?_ | refine kB2 ?_ ?_) <;> intro hp | (first | refine kD1 ?_ ?_ | refine kD2 ?_ ?_ | refine kS1 ?_ ?_ | refine kS2 ?_ ?_) <;> intro hp <;> try simp only [hp] | simp -implicitDefEqProofs (disch := omega) only [go_sem, Nat.reduceAdd, Nat.reduceSub, reduceCtorEq, Nat.reduceLT, Nat.reduceLeDiff, Nat.reduceEqDiff, Nat.reduceMul, Int.reduceToNat, ↓reduceIte, List.take_of_length_le, if_pos, if_neg, getD_tsrs, fillA_len, fillA_at, fillA_full, evApp_z0, evApp_z1, evApp_z2, evApp_z3, evApp_i6, List.getElem?_set_self, List.set_set, getD_vis, cnE, Try.ntmps19, Try.results19,  hC.cn, hA])
    have el : l.length + 1 = (l ++ [z]).length := by simp
    exact hC.ret0 ⟨l ++ [z], 1, _, by simp; omega, by rw [selV_sl, el, selC_ints gR_n (by rw [hC.at0]; rfl)], by omega, by omega, rfl⟩
  · have hch' : (ch == 0) = false := beq_f hch
    by_cases hch1 : ch = 1
    · have hch1' : (ch == 1) = true := beq_t hch1
      repeat' (first | with_reducible first | refine kI (by kernel_rfl) ?_ | refine kN (by kernel_rfl) ?_ | (first | refine kB1 ?_ ?_ | refine kB2 ?_ ?_) <;> intro hp | (first | refine kD1 ?_ ?_ | refine kD2 ?_ ?_ | refine kS1 ?_ ?_ | refine kS2 ?_ ?_) <;> intro hp <;> try simp only [hp] | simp -implicitDefEqProofs (disch := omega) only [go_sem, Nat.reduceAdd, Nat.reduceSub, reduceCtorEq, Nat.reduceLT, Nat.reduceLeDiff, Nat.reduceEqDiff, Nat.reduceMul, Int.reduceToNat, ↓reduceIte, List.take_of_length_le, if_pos, if_neg, getD_tsrs, fillA_len, fillA_at, fillA_full, evApp_z0, evApp_z1, evApp_z2, evApp_z3, evApp_i6, List.getElem?_set_self, List.set_set, getD_vis, cnE, Try.ntmps19, Try.results19,  hC.cn, hch', hch1'])
      exact hC.ret0 ⟨[1, 1, 1, 1, 1], 2, _, by decide, rfl, by omega, by omega, rfl⟩
    · have hch1' : (ch == 1) = false := beq_f hch1
      repeat' (first | with_reducible first | refine kI (by kernel_rfl) ?_ | refine kN (by kernel_rfl) ?_ | (first | refine kB1 ?_ ?_ | refine kB2 ?_ ?_) <;> intro hp | (first | refine kD1 ?_ ?_ | refine kD2 ?_ ?_ | refine kS1 ?_ ?_ | refine kS2 ?_ ?_) <;> intro hp <;> try simp only [hp] | simp -implicitDefEqProofs (disch := omega) only [go_sem, Nat.reduceAdd, Nat.reduceSub, reduceCtorEq, Nat.reduceLT, Nat.reduceLeDiff, Nat.reduceEqDiff, Nat.reduceMul, Int.reduceToNat, ↓reduceIte, List.take_of_length_le, if_pos, if_neg, getD_tsrs, fillA_len, fillA_at, fillA_full, evApp_z0, evApp_z1, evApp_z2, evApp_z3, evApp_i6, List.getElem?_set_self, List.set_set, getD_vis, cnE, Try.ntmps19, Try.results19,  hC.cn, hch', hch1'])
      exact hC.ret0 ⟨l, 1, _, by omega, by rw [selV_sl, selC_ints gR_n (by rw [hC.at0]; rfl)], by omega, by omega, rfl⟩
end Go.Proofs.Ytjmkdnnfhphckaa
