/- Contracts of functions that the laws of this seat call. -/
import Derived.Test.YtokpibajolhelaaGreatGa
set_option linter.all false
namespace Go.Proofs.YtokpibajolhelaaGreat
open Go Go.Ev Go.RowKit Go.Ev.Enc Go.Pl

set_option maxHeartbeats 4000000 in
set_option maxRecDepth 100000 in
theorem o_copyInts {Sg : FuncId → Option (List AV → Option AV)} (hS : Sound Tryz.prog Sg) (l : List Int) (h : l.length ≤ 1048576) : OSpec Tryz.prog 83 [ints 0 l] (fun n => .sl n l.length 0 l.length l.length) (fun _ => [⟨1, l.map fun n => .int .i64 n⟩]) := by
  refine OSpec.intro Tryz.func83 rfl (vc_sound Tryz.pf hS _ _ _ ?_)
  repeat' (first | with_reducible first | refine kI (by kernel_rfl) ?_ | refine kN (by kernel_rfl) ?_ | (first | refine kB1 ?_ ?_ | refine kB2 ?_ ?_) <;> intro hp | (first | refine kD1 ?_ ?_ | refine kD2 ?_ ?_ | refine kS1 ?_ ?_ | refine kS2 ?_ ?_) <;> intro hp <;> try simp only [hp] | simp -implicitDefEqProofs (disch := omega) only [go_sem, Nat.reduceAdd, Nat.reduceSub, reduceCtorEq, Nat.reduceLT, Nat.reduceLeDiff, Nat.reduceEqDiff, Nat.reduceMul, Int.reduceToNat, ↓reduceIte, List.take_of_length_le, if_pos, if_neg, getD_tsrs, fillA_len, fillA_at, fillA_full, evApp_z0, evApp_z1, evApp_z2, evApp_z3, evApp_i6, List.getElem?_set_self, List.set_set, cnE, Tryz.ntmps83, Tryz.results83])
  exact ⟨[0], by simp, by simp, fun _ => rfl, fun _ => by simp only [List.map, List.getD_cons_zero, renB_ints]⟩
set_option maxHeartbeats 2000000 in
set_option maxRecDepth 100000 in
theorem isp_newReader {Sg : FuncId → Option (List AV → Option AV)} (hS : Sound Tryz.prog Sg) (bs : List UInt8) (hb : bs.length ≤ 1048576) (L : List Blk) : ISpec Tryz.prog 33 [bytesA 0 bs] L (fun r L' => r = .ptr L.length 1 0 0 ∧ L' = L ++ [rdB (bs.take 2000) 0]) := by
  refine ISpec.intro Tryz.func33 rfl (vc_sound Tryz.pf hS _ _ _ ?_)
  repeat' (first | with_reducible first | refine kI (by kernel_rfl) ?_ | refine kN (by kernel_rfl) ?_ | (first | refine kB1 ?_ ?_ | refine kB2 ?_ ?_) <;> intro hp | (first | refine kD1 ?_ ?_ | refine kD2 ?_ ?_ | refine kS1 ?_ ?_ | refine kS2 ?_ ?_) <;> intro hp <;> try simp only [hp] | simp -implicitDefEqProofs (disch := omega) only [go_sem, Nat.reduceAdd, Nat.reduceSub, reduceCtorEq, Nat.reduceLT, Nat.reduceLeDiff, Nat.reduceEqDiff, Nat.reduceMul, Int.reduceToNat, ↓reduceIte, List.take_of_length_le, if_pos, if_neg, getD_tsrs, fillA_len, fillA_at, fillA_full, evApp_z0, evApp_z1, evApp_z2, evApp_z3, evApp_i6, List.getElem?_set_self, List.set_set, cnE, Tryz.ntmps33, Tryz.results33])
theorem can_goodShape : CanCall Tryz.prog 108 := ⟨_, Tryz.func108, rfl, rfl⟩
theorem evApp_rc {bs : List UInt8} {b n : Nat} {rL : Int → List Blk} (hC : RC bs b n rL) (p : Int) (X : List Blk) {by' k : Nat} {q : List Int} {x : Int} (hk : q.length = k) (h1 : (k + 1) * by' ≤ 140737488355328) (h2 : k + 1 ≤ 9223372036854775807) :
    evApp (rL p ++ (⟨1, q.map fun n => .int .i64 n⟩ :: X)) (.sl n k 0 k k) [.int .i64 x] 1 by' = some (.sl n (k + 1) 0 (k + 1) (k + 1), rL p ++ (⟨1, (q ++ [x]).map fun n => .int .i64 n⟩ :: X)) := by
  rw [evApp_int (q := q) (by rw [hC.at0]; rfl) hk h1 h2, hC.sat0]; rfl
set_option maxHeartbeats 4000000 in
set_option maxRecDepth 100000 in
theorem isp_goodShape {Sg : FuncId → Option (List AV → Option AV)} (hS : Sound Tryz.prog Sg) (h0 : Sg 59 = none) (hn : Sg 50 = none) (hc : Sg 78 = some (F1 gCount)) {bs : List UInt8} {b n : Nat} {rL : Int → List Blk} (hC : RC bs b n rL) (hb : bs.length ≤ 2000) (p : Int) (hp : 0 ≤ p ∧ p ≤ 900000000) : ISpec Tryz.prog 108 [.ptr b 1 0 0] (rL p) (fun r L' => ∃ l p', r = ints 1 l ∧ l.length ≤ 4 ∧ (∀ x ∈ l, 0 ≤ x ∧ x ≤ 5) ∧ 0 ≤ prodW l ∧ prodW l ≤ 60 ∧ p ≤ p' ∧ p' ≤ p + 5 ∧ L' = rL p') := by
  refine ISpec.ret Tryz.func108 rfl (vc3_sound Tryz.pf hS hS _ _ _ ?_)
  repeat' (first | with_reducible first | refine kI (by kernel_rfl) ?_ | refine kN (by kernel_rfl) ?_ | (first | refine kB1 ?_ ?_ | refine kB2 ?_ ?_) <;> intro hp | (first | refine kD1 ?_ ?_ | refine kD2 ?_ ?_ | refine kS1 ?_ ?_ | refine kS2 ?_ ?_) <;> intro hp <;> try simp only [hp] | simp -implicitDefEqProofs (disch := omega) only [go_sem, Nat.reduceAdd, Nat.reduceSub, reduceCtorEq, Nat.reduceLT, Nat.reduceLeDiff, Nat.reduceEqDiff, Nat.reduceMul, Int.reduceToNat, ↓reduceIte, List.take_of_length_le, if_pos, if_neg, getD_tsrs, fillA_len, fillA_at, fillA_full, evApp_z0, evApp_z1, evApp_z2, evApp_z3, evApp_i6, List.getElem?_set_self, List.set_set, cnE, Tryz.ntmps108, Tryz.results108,  hC.cn, hn, opQ_none])
  refine InlK_intro rfl rfl can_one ((isp_one hS h0 (hC.app [⟨1, []⟩]) hb p (by omega) 2 [2, 1, 3, 2, 0, 4] (by decide)).mono ?_)
  rintro r L1 ⟨v, rfl, h1, rfl⟩
  have hv : 0 ≤ v ∧ v ≤ 4 := by simp at h1; omega
  repeat' (first | with_reducible first | refine kI (by kernel_rfl) ?_ | refine kN (by kernel_rfl) ?_ | (first | refine kB1 ?_ ?_ | refine kB2 ?_ ?_) <;> intro hp | (first | refine kD1 ?_ ?_ | refine kD2 ?_ ?_ | refine kS1 ?_ ?_ | refine kS2 ?_ ?_) <;> intro hp <;> try simp only [hp] | simp -implicitDefEqProofs (disch := omega) only [go_sem, Nat.reduceAdd, Nat.reduceSub, reduceCtorEq, Nat.reduceLT, Nat.reduceLeDiff, Nat.reduceEqDiff, Nat.reduceMul, Int.reduceToNat, ↓reduceIte, List.take_of_length_le, if_pos, if_neg, getD_tsrs, fillA_len, fillA_at, fillA_full, evApp_z0, evApp_z1, evApp_z2, evApp_z3, evApp_i6, List.getElem?_set_self, List.set_set, cnE, Tryz.ntmps108, Tryz.results108,  hC.cn])
  refine LoopQ.mix (fun t0 L0 nn ss => ∃ (j : Nat) (q : List Int) (p1 : Int) (_ : Unit), (∃ x : Nat → AV, ss = ⟨mixL 0 (.k :: .k :: .k :: .v (.sl n q.length 0 q.length q.length) :: .v (i64 (j : Nat)) :: .s :: .k :: .k :: .k :: .k :: .s :: .s :: .s :: .s :: .s :: .s :: .s :: .s :: .s :: .s :: .s :: .s :: .s :: .s :: .s :: .s :: .k :: []) t0 x, rL p1 ++ [⟨1, q.map fun n => .int .i64 n⟩]⟩) ∧ (q.length + j ≤ 4) ∧ (∀ x ∈ q, 0 ≤ x ∧ x ≤ 5) ∧ (0 ≤ prodW q) ∧ (prodW q ≤ 60) ∧ (p ≤ p1) ∧ (p1 + j ≤ p + 5) ∧ nn = 2 * j) ?_ ?_
  · exact ⟨_, v.toNat, [], p + 1, (), mixJ (by rw [show ((v.toNat : Nat) : Int) = v from by omega]; rfl) rfl, by simp; omega, by simp, by decide, by decide, by omega, by omega, rfl⟩
  · rintro I0 hI0 mm ss ⟨j, q, p1, _, ⟨x, rfl⟩, h1, h2, h3, h4, h5, h6, rfl⟩
    by_cases hj0 : j = 0
    · subst hj0
      repeat' (first | with_reducible first | refine kI (by kernel_rfl) ?_ | refine kN (by kernel_rfl) ?_ | (first | refine kB1 ?_ ?_ | refine kB2 ?_ ?_) <;> intro hp | (first | refine kD1 ?_ ?_ | refine kD2 ?_ ?_ | refine kS1 ?_ ?_ | refine kS2 ?_ ?_) <;> intro hp <;> try simp only [hp] | simp -implicitDefEqProofs (disch := omega) only [go_sem, Nat.reduceAdd, Nat.reduceSub, reduceCtorEq, Nat.reduceLT, Nat.reduceLeDiff, Nat.reduceEqDiff, Nat.reduceMul, Int.reduceToNat, ↓reduceIte, List.take_of_length_le, if_pos, if_neg, getD_tsrs, fillA_len, fillA_at, fillA_full, evApp_z0, evApp_z1, evApp_z2, evApp_z3, evApp_i6, List.getElem?_set_self, List.set_set, cnE, Tryz.ntmps108, Tryz.results108,  hC.cn])
      exact hC.ret0 ⟨q, p1, by rw [selV_sl, selC_ints gR_n (by rw [hC.at0]; rfl)], by omega, h2, h3, h4, by omega, by omega, rfl⟩
    · obtain ⟨i, rfl⟩ : ∃ i, j = i + 1 := ⟨j - 1, by omega⟩
      have hwj : IntKind.i64.wrap (((i + 1 : Nat) : Int) - 1) = (i : Int) := by rw [wrap_in (by omega)]; omega
      repeat' (first | with_reducible first | refine kI (by kernel_rfl) ?_ | refine kN (by kernel_rfl) ?_ | (first | refine kB1 ?_ ?_ | refine kB2 ?_ ?_) <;> intro hp | (first | refine kD1 ?_ ?_ | refine kD2 ?_ ?_ | refine kS1 ?_ ?_ | refine kS2 ?_ ?_) <;> intro hp <;> try simp only [hp] | simp -implicitDefEqProofs (disch := omega) only [go_sem, Nat.reduceAdd, Nat.reduceSub, reduceCtorEq, Nat.reduceLT, Nat.reduceLeDiff, Nat.reduceEqDiff, Nat.reduceMul, Int.reduceToNat, ↓reduceIte, List.take_of_length_le, if_pos, if_neg, getD_tsrs, fillA_len, fillA_at, fillA_full, evApp_z0, evApp_z1, evApp_z2, evApp_z3, evApp_i6, List.getElem?_set_self, List.set_set, cnE, Tryz.ntmps108, Tryz.results108,  hC.cn, hn, opQ_none])
      refine InlK_intro rfl rfl can_one ((isp_one hS h0 (hC.app [⟨1, q.map fun n => .int .i64 n⟩]) hb p1 (by omega) 2 [2, 3, 1, 4, 2, 3, 5, 0] (by decide)).mono ?_)
      rintro r L1 ⟨y, rfl, h7, rfl⟩
      have hy : 0 ≤ y ∧ y ≤ 5 := by simp at h7; omega
      have hm1 : 0 ≤ prodW q * y := Int.mul_nonneg h3 hy.1
      have hm2 : prodW q * y ≤ 60 * 5 := Int.mul_le_mul h4 hy.2 hy.1 (by omega)
      have hw : IntKind.i64.wrap (prodW q * y) = prodW q * y := wrap_in (by omega)
      have q1 := gCount_eq (l := q) (by omega)
      have hA := evApp_rc hC (p1 + 1) [] (by' := 8) (k := q.length) (q := q) (x := y) rfl (by omega) (by omega)
      repeat' (first | with_reducible first | refine kI (by kernel_rfl) ?_ | refine kN (by kernel_rfl) ?_ | (first | refine kB1 ?_ ?_ | refine kB2 ?_ ?_) <;> intro hp | (first | refine kD1 ?_ ?_ | refine kD2 ?_ ?_ | refine kS1 ?_ ?_ | refine kS2 ?_ ?_) <;> intro hp <;> try simp only [hp] | simp -implicitDefEqProofs (disch := omega) only [go_sem, Nat.reduceAdd, Nat.reduceSub, reduceCtorEq, Nat.reduceLT, Nat.reduceLeDiff, Nat.reduceEqDiff, Nat.reduceMul, Int.reduceToNat, ↓reduceIte, List.take_of_length_le, if_pos, if_neg, getD_tsrs, fillA_len, fillA_at, fillA_full, evApp_z0, evApp_z1, evApp_z2, evApp_z3, evApp_i6, List.getElem?_set_self, List.set_set, cnE, Tryz.ntmps108, Tryz.results108,  hC.cn, hc, q1, hw, hA, hwj])
      · have hpw : prodW (q ++ [y]) = prodW q * y := by rw [prodW_snoc, hw]
        exact ⟨2 * i, by omega, hI0 _ _ ⟨i, q ++ [y], p1 + 1, (), mixJ (by simp only [List.length_append, List.length_cons, List.length_nil, Nat.zero_add]; rfl) rfl, by simp; omega, fun z hz => by
          rcases List.mem_append.1 hz with hz | hz
          · exact h2 z hz
          · simp at hz; subst hz; exact hy, by rw [hpw]; exact hm1, by rw [hpw]; exact hp, by omega, by omega, rfl⟩⟩
      · exact ⟨2 * i, by omega, hI0 _ _ ⟨i, q, p1 + 1, (), mixI rfl, by omega, h2, h3, h4, by omega, by omega, rfl⟩⟩
end Go.Proofs.YtokpibajolhelaaGreat
