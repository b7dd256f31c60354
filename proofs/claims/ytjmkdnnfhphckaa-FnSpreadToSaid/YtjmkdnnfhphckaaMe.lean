/- Contracts of functions that the laws of this seat call. -/
import Derived.Test.YtjmkdnnfhphckaaMd
set_option linter.all false
namespace Go.Proofs.Ytjmkdnnfhphckaa
open Go Go.Ev Go.RowKit Go.Ev.Enc Go.Pl

set_option maxHeartbeats 4000000 in
set_option maxRecDepth 100000 in
theorem isp_DrawSpreadTo {Sg : FuncId → Option (List AV → Option AV)} (hS : Sound Try.prog Sg) (h0 : Sg 16 = none) (h1 : Sg 17 = none) (h6 : Sg 13 = none) (h7 : Sg 14 = none) (h8 : Sg 15 = none) (h9 : Sg 18 = none) (hg : Sg 34 = none) (hc : Sg 40 = some (F1 gCount)) (h10 : Sg 19 = none) (bs : List UInt8) (hb : bs.length ≤ 1048576) (L : List Blk) (hsv : SomeV) (hcp : CopyV) (hin : InsV) : ISpec Try.prog 4 [bytesA 0 bs] (L) (fun r L' => ∃ (v : Vi) (S : List Int) (t : Nat), viOK v ∧ S.length ≤ 10 ∧ r = .tup [viD v, ints t S] ∧ L' = L) := by
  refine ISpec.ret Try.func4 rfl (vc3_sound Try.pf hS hS _ _ _ ?_)
  repeat' (first | with_reducible first | refine kI (by kernel_rfl) ?_ | refine kN (by kernel_rfl) ?_ | (first | refine kB1 ?_ ?_ | refine kB2 ?_ ?_) <;> intro hp | (first | refine kD1 ?_ ?_ | refine kD2 ?_ ?_ | refine kS1 ?_ ?_ | refine kS2 ?_ ?_) <;> intro hp <;> try simp only [hp] | simp -implicitDefEqProofs (disch := omega) only [go_sem, Nat.reduceAdd, Nat.reduceSub, reduceCtorEq, Nat.reduceLT, Nat.reduceLeDiff, Nat.reduceEqDiff, Nat.reduceMul, Int.reduceToNat, ↓reduceIte, List.take_of_length_le, if_pos, if_neg, getD_tsrs, fillA_len, fillA_at, fillA_full, evApp_z0, evApp_z1, evApp_z2, evApp_z3, evApp_i6, List.getElem?_set_self, List.set_set, getD_vis, cnE, Try.ntmps4, Try.results4,  h6, opQ_none])
  refine InlK_intro rfl rfl can_newRd ((isp_newReader hS bs hb _).mono ?_)
  rintro r L1 ⟨rfl, rfl⟩
  have hb2 : (bs.take 2000).length ≤ 2000 := by simp; omega
  repeat' (first | with_reducible first | refine kI (by kernel_rfl) ?_ | refine kN (by kernel_rfl) ?_ | (first | refine kB1 ?_ ?_ | refine kB2 ?_ ?_) <;> intro hp | (first | refine kD1 ?_ ?_ | refine kD2 ?_ ?_ | refine kS1 ?_ ?_ | refine kS2 ?_ ?_) <;> intro hp <;> try simp only [hp] | simp -implicitDefEqProofs (disch := omega) only [go_sem, Nat.reduceAdd, Nat.reduceSub, reduceCtorEq, Nat.reduceLT, Nat.reduceLeDiff, Nat.reduceEqDiff, Nat.reduceMul, Int.reduceToNat, ↓reduceIte, List.take_of_length_le, if_pos, if_neg, getD_tsrs, fillA_len, fillA_at, fillA_full, evApp_z0, evApp_z1, evApp_z2, evApp_z3, evApp_i6, List.getElem?_set_self, List.set_set, getD_vis, cnE, Try.ntmps4, Try.results4,  h7, opQ_none])
  refine InlK_intro rfl rfl can_someView ((hsv (RC.new1 (bs.take 2000) L _) hb2 0 (by omega)).mono ?_)
  rintro r L1 ⟨v, p0, k1, k2, rfl, m1, m2, rfl⟩
  repeat' (first | with_reducible first | refine kI (by kernel_rfl) ?_ | refine kN (by kernel_rfl) ?_ | (first | refine kB1 ?_ ?_ | refine kB2 ?_ ?_) <;> intro hp | (first | refine kD1 ?_ ?_ | refine kD2 ?_ ?_ | refine kS1 ?_ ?_ | refine kS2 ?_ ?_) <;> intro hp <;> try simp only [hp] | simp -implicitDefEqProofs (disch := omega) only [go_sem, Nat.reduceAdd, Nat.reduceSub, reduceCtorEq, Nat.reduceLT, Nat.reduceLeDiff, Nat.reduceEqDiff, Nat.reduceMul, Int.reduceToNat, ↓reduceIte, List.take_of_length_le, if_pos, if_neg, getD_tsrs, fillA_len, fillA_at, fillA_full, evApp_z0, evApp_z1, evApp_z2, evApp_z3, evApp_i6, List.getElem?_set_self, List.set_set, getD_vis, cnE, Try.ntmps4, Try.results4,  h8, opQ_none])
  refine InlK_intro rfl rfl can_copyV ((hcp v.sh (by omega)).call (by simp only [go_sem, ints]) ?_)
  have hC0 := rc_1b (bs.take 2000) L ⟨3, [.agg [i64 0, .nilS, .nilS]]⟩ ⟨3, [viD v]⟩
  obtain ⟨rL2, e2, hC2⟩ : ∃ rL2 : Int → List Blk, (∀ p X, L ++ ⟨3, [.agg [i64 0, .nilS, .nilS]]⟩ :: rdB (bs.take 2000) p :: ⟨3, [viD v]⟩ :: X = rL2 p ++ X) ∧ RC (bs.take 2000) (L.length + 1) (L.length + 3) rL2 := ⟨_, fun p X => by simp, hC0⟩
  obtain ⟨n2, hn2⟩ : ∃ n2, n2 = L.length + 3 := ⟨_, rfl⟩
  rw [← hn2] at hC2
  repeat' (first | with_reducible first | refine kI (by kernel_rfl) ?_ | refine kN (by kernel_rfl) ?_ | (first | refine kB1 ?_ ?_ | refine kB2 ?_ ?_) <;> intro hp | (first | refine kD1 ?_ ?_ | refine kD2 ?_ ?_ | refine kS1 ?_ ?_ | refine kS2 ?_ ?_) <;> intro hp <;> try simp only [hp] | simp -implicitDefEqProofs (disch := omega) only [go_sem, Nat.reduceAdd, Nat.reduceSub, reduceCtorEq, Nat.reduceLT, Nat.reduceLeDiff, Nat.reduceEqDiff, Nat.reduceMul, Int.reduceToNat, ↓reduceIte, List.take_of_length_le, if_pos, if_neg, getD_tsrs, fillA_len, fillA_at, fillA_full, evApp_z0, evApp_z1, evApp_z2, evApp_z3, evApp_i6, List.getElem?_set_self, List.set_set, getD_vis, cnE, Try.ntmps4, Try.results4])
  refine LoopQ.mix (fun t0 L0 nn ss => ∃ (i : Nat) (q : List Int) (p1 : Int) (_ : Unit), (∃ x : Nat → AV, ss = ⟨mixL 0 (.k :: .k :: .k :: .k :: .k :: .k :: .v (.sl n2 v.sh.length 0 v.sh.length v.sh.length) :: .v (i64 (i : Nat)) :: .k :: .k :: .k :: .k :: .k :: .k :: .k :: .k :: .s :: .s :: .s :: .s :: .s :: .s :: .s :: .s :: .s :: .s :: .s :: .s :: .s :: .s :: .s :: .s :: .s :: .s :: .s :: .s :: .s :: .s :: .k :: .k :: .k :: .k :: .k :: .k :: .k :: .k :: .k :: .k :: .k :: .k :: .k :: .k :: .k :: .k :: .k :: .k :: .k :: []) t0 x, rL2 p1 ++ [stB q]⟩) ∧ (i ≤ v.sh.length) ∧ (q.length = v.sh.length) ∧ (p0 ≤ p1) ∧ (p1 ≤ p0 + 2 * i) ∧ nn = v.sh.length - i) ?_ ?_
  · exact ⟨_, 0, v.sh, p0, (), mixJ (by rw [hn2]; rfl) (by rw [← e2]), by omega, rfl, by omega, by omega, rfl⟩
  · rintro I0 hI0 mm ss ⟨i, q, p1, _, ⟨y, rfl⟩, g1, g2, g3, g4, rfl⟩
    by_cases hi : i < v.sh.length
    · have hii : (i : Int) < (v.sh.length : Int) := by omega
      have hqi : i < q.length := by omega
      by_cases c1 : q.getD i 0 = 1
      · have w1 : (q.getD i 0 == 1) = true := beq_t c1
        repeat' (first | with_reducible first | refine kI (by kernel_rfl) ?_ | refine kN (by kernel_rfl) ?_ | (first | refine kB1 ?_ ?_ | refine kB2 ?_ ?_) <;> intro hp | (first | refine kD1 ?_ ?_ | refine kD2 ?_ ?_ | refine kS1 ?_ ?_ | refine kS2 ?_ ?_) <;> intro hp <;> try simp only [hp] | simp -implicitDefEqProofs (disch := omega) only [go_sem, Nat.reduceAdd, Nat.reduceSub, reduceCtorEq, Nat.reduceLT, Nat.reduceLeDiff, Nat.reduceEqDiff, Nat.reduceMul, Int.reduceToNat, ↓reduceIte, List.take_of_length_le, if_pos, if_neg, getD_tsrs, fillA_len, fillA_at, fillA_full, evApp_z0, evApp_z1, evApp_z2, evApp_z3, evApp_i6, List.getElem?_set_self, List.set_set, getD_vis, cnE, Try.ntmps4, Try.results4,  hC2.cn, hii, g2, getD_ints hqi, w1, h1, opQ_none])
        refine InlK_intro rfl rfl can_one ((isp_one hS h0 (hC2.app _) hb2 p1 (by omega) 2 [3, 2, 1, 0] (by decide)).mono ?_)
        rintro r L1 ⟨z, rfl, -, rfl⟩
        repeat' (first | with_reducible first | refine kI (by kernel_rfl) ?_ | refine kN (by kernel_rfl) ?_ | (first | refine kB1 ?_ ?_ | refine kB2 ?_ ?_) <;> intro hp | (first | refine kD1 ?_ ?_ | refine kD2 ?_ ?_ | refine kS1 ?_ ?_ | refine kS2 ?_ ?_) <;> intro hp <;> try simp only [hp] | simp -implicitDefEqProofs (disch := omega) only [go_sem, Nat.reduceAdd, Nat.reduceSub, reduceCtorEq, Nat.reduceLT, Nat.reduceLeDiff, Nat.reduceEqDiff, Nat.reduceMul, Int.reduceToNat, ↓reduceIte, List.take_of_length_le, if_pos, if_neg, getD_tsrs, fillA_len, fillA_at, fillA_full, evApp_z0, evApp_z1, evApp_z2, evApp_z3, evApp_i6, List.getElem?_set_self, List.set_set, getD_vis, cnE, Try.ntmps4, Try.results4,  hC2.cn, hii, g2, map_setI])
        exact ⟨v.sh.length - (i + 1), by omega, hI0 _ _ ⟨i + 1, q.set i z, p1 + 1, (), mixI rfl, by omega, by rw [List.length_set]; exact g2, by omega, by omega, rfl⟩⟩
      · have w1 : (q.getD i 0 == 1) = false := beq_f c1
        repeat' (first | with_reducible first | refine kI (by kernel_rfl) ?_ | refine kN (by kernel_rfl) ?_ | (first | refine kB1 ?_ ?_ | refine kB2 ?_ ?_) <;> intro hp | (first | refine kD1 ?_ ?_ | refine kD2 ?_ ?_ | refine kS1 ?_ ?_ | refine kS2 ?_ ?_) <;> intro hp <;> try simp only [hp] | simp -implicitDefEqProofs (disch := omega) only [go_sem, Nat.reduceAdd, Nat.reduceSub, reduceCtorEq, Nat.reduceLT, Nat.reduceLeDiff, Nat.reduceEqDiff, Nat.reduceMul, Int.reduceToNat, ↓reduceIte, List.take_of_length_le, if_pos, if_neg, getD_tsrs, fillA_len, fillA_at, fillA_full, evApp_z0, evApp_z1, evApp_z2, evApp_z3, evApp_i6, List.getElem?_set_self, List.set_set, getD_vis, cnE, Try.ntmps4, Try.results4,  hC2.cn, hii, g2, getD_ints hqi, w1, h0, opQ_none])
        refine InlK_intro rfl rfl can_pick ((isp_pick hS (hC2.app _) hb2 p1 (by omega) 12 (by omega)).mono ?_)
        rintro r L1 ⟨ch, rfl, -, -, rfl⟩
        by_cases hch : ch = 0
        · have hch' : (ch == 0) = true := beq_t hch
          repeat' (first | with_reducible first | refine kI (by kernel_rfl) ?_ | refine kN (by kernel_rfl) ?_ | (first | refine kB1 ?_ ?_ | refine kB2 ?_ ?_) <;> intro hp | (first | refine kD1 ?_ ?_ | refine kD2 ?_ ?_ | refine kS1 ?_ ?_ | refine kS2 ?_ ?_) <;> intro hp <;> try simp only [hp] | simp -implicitDefEqProofs (disch := omega) only [go_sem, Nat.reduceAdd, Nat.reduceSub, reduceCtorEq, Nat.reduceLT, Nat.reduceLeDiff, Nat.reduceEqDiff, Nat.reduceMul, Int.reduceToNat, ↓reduceIte, List.take_of_length_le, if_pos, if_neg, getD_tsrs, fillA_len, fillA_at, fillA_full, evApp_z0, evApp_z1, evApp_z2, evApp_z3, evApp_i6, List.getElem?_set_self, List.set_set, getD_vis, cnE, Try.ntmps4, Try.results4,  hC2.cn, hch', h1, opQ_none])
          refine InlK_intro rfl rfl can_one ((isp_one hS h0 (hC2.app _) hb2 _ (by omega) 2 [3, 2, 1, 0] (by decide)).mono ?_)
          rintro r L1 ⟨z, rfl, -, rfl⟩
          repeat' (first | with_reducible first | refine kI (by kernel_rfl) ?_ | refine kN (by kernel_rfl) ?_ | (first | refine kB1 ?_ ?_ | refine kB2 ?_ ?_) <;> intro hp | (first | refine kD1 ?_ ?_ | refine kD2 ?_ ?_ | refine kS1 ?_ ?_ | refine kS2 ?_ ?_) <;> intro hp <;> try simp only [hp] | simp -implicitDefEqProofs (disch := omega) only [go_sem, Nat.reduceAdd, Nat.reduceSub, reduceCtorEq, Nat.reduceLT, Nat.reduceLeDiff, Nat.reduceEqDiff, Nat.reduceMul, Int.reduceToNat, ↓reduceIte, List.take_of_length_le, if_pos, if_neg, getD_tsrs, fillA_len, fillA_at, fillA_full, evApp_z0, evApp_z1, evApp_z2, evApp_z3, evApp_i6, List.getElem?_set_self, List.set_set, getD_vis, cnE, Try.ntmps4, Try.results4,  hC2.cn, hii, g2, map_setI])
          exact ⟨v.sh.length - (i + 1), by omega, hI0 _ _ ⟨i + 1, q.set i z, p1 + 1 + 1, (), mixI rfl, by omega, by rw [List.length_set]; exact g2, by omega, by omega, rfl⟩⟩
        · have hch' : (ch == 0) = false := beq_f hch
          repeat' (first | with_reducible first | refine kI (by kernel_rfl) ?_ | refine kN (by kernel_rfl) ?_ | (first | refine kB1 ?_ ?_ | refine kB2 ?_ ?_) <;> intro hp | (first | refine kD1 ?_ ?_ | refine kD2 ?_ ?_ | refine kS1 ?_ ?_ | refine kS2 ?_ ?_) <;> intro hp <;> try simp only [hp] | simp -implicitDefEqProofs (disch := omega) only [go_sem, Nat.reduceAdd, Nat.reduceSub, reduceCtorEq, Nat.reduceLT, Nat.reduceLeDiff, Nat.reduceEqDiff, Nat.reduceMul, Int.reduceToNat, ↓reduceIte, List.take_of_length_le, if_pos, if_neg, getD_tsrs, fillA_len, fillA_at, fillA_full, evApp_z0, evApp_z1, evApp_z2, evApp_z3, evApp_i6, List.getElem?_set_self, List.set_set, getD_vis, cnE, Try.ntmps4, Try.results4,  hC2.cn, hch'])
          exact ⟨v.sh.length - (i + 1), by omega, hI0 _ _ ⟨i + 1, q, p1 + 1, (), mixI rfl, by omega, g2, by omega, by omega, rfl⟩⟩
    · obtain rfl : i = v.sh.length := by omega
      repeat' (first | with_reducible first | refine kI (by kernel_rfl) ?_ | refine kN (by kernel_rfl) ?_ | (first | refine kB1 ?_ ?_ | refine kB2 ?_ ?_) <;> intro hp | (first | refine kD1 ?_ ?_ | refine kD2 ?_ ?_ | refine kS1 ?_ ?_ | refine kS2 ?_ ?_) <;> intro hp <;> try simp only [hp] | simp -implicitDefEqProofs (disch := omega) only [go_sem, Nat.reduceAdd, Nat.reduceSub, reduceCtorEq, Nat.reduceLT, Nat.reduceLeDiff, Nat.reduceEqDiff, Nat.reduceMul, Int.reduceToNat, ↓reduceIte, List.take_of_length_le, if_pos, if_neg, getD_tsrs, fillA_len, fillA_at, fillA_full, evApp_z0, evApp_z1, evApp_z2, evApp_z3, evApp_i6, List.getElem?_set_self, List.set_set, getD_vis, cnE, Try.ntmps4, Try.results4,  hC2.cn, h1, opQ_none])
      refine InlK_intro rfl rfl can_one ((isp_one hS h0 (hC2.app _) hb2 p1 (by omega) 2 [0, 1, 1, 2] (by decide)).mono ?_)
      rintro r L1 ⟨cn, rfl, hcn, rfl⟩
      have hcn2 : 0 ≤ cn ∧ cn ≤ 2 := by simp at hcn; omega
      repeat' (first | with_reducible first | refine kI (by kernel_rfl) ?_ | refine kN (by kernel_rfl) ?_ | (first | refine kB1 ?_ ?_ | refine kB2 ?_ ?_) <;> intro hp | (first | refine kD1 ?_ ?_ | refine kD2 ?_ ?_ | refine kS1 ?_ ?_ | refine kS2 ?_ ?_) <;> intro hp <;> try simp only [hp] | simp -implicitDefEqProofs (disch := omega) only [go_sem, Nat.reduceAdd, Nat.reduceSub, reduceCtorEq, Nat.reduceLT, Nat.reduceLeDiff, Nat.reduceEqDiff, Nat.reduceMul, Int.reduceToNat, ↓reduceIte, List.take_of_length_le, if_pos, if_neg, getD_tsrs, fillA_len, fillA_at, fillA_full, evApp_z0, evApp_z1, evApp_z2, evApp_z3, evApp_i6, List.getElem?_set_self, List.set_set, getD_vis, cnE, Try.ntmps4, Try.results4,  hC2.cn])
      refine LoopQ.mix (fun t0 L0 nn ss => ∃ (k : Nat) (J : List Blk) (q2 : List Int) (p2 : Int) (_ : Unit), (∃ x : Nat → AV, ss = ⟨mixL 0 (.k :: .k :: .k :: .k :: .k :: .k :: .v (.sl (n2 + J.length) q2.length 0 q2.length q2.length) :: .k :: .v (i64 (k : Nat)) :: .k :: .k :: .k :: .k :: .k :: .k :: .k :: .k :: .k :: .k :: .k :: .k :: .k :: .k :: .k :: .k :: .k :: .k :: .k :: .k :: .k :: .k :: .k :: .k :: .k :: .k :: .k :: .k :: .k :: .k :: .k :: .k :: .s :: .s :: .s :: .s :: .s :: .s :: .s :: .s :: .s :: .k :: .k :: .k :: .k :: .k :: .k :: .k :: []) t0 x, rL2 p2 ++ (J ++ [stB q2])⟩) ∧ (q2.length + k ≤ 6) ∧ (p0 ≤ p2) ∧ (p2 + k ≤ p0 + 20) ∧ nn = 2 * k) ?_ ?_
      · exact ⟨_, cn.toNat, [], q, p1 + 1, (), mixJ (by rw [show ((cn.toNat : Nat) : Int) = cn from by omega, g2]; rfl) rfl, by omega, by omega, by omega, rfl⟩
      · rintro I1 hI1 mm ss ⟨k, J, q2, p2, _, ⟨y2, rfl⟩, f1, f2, f3, rfl⟩
        obtain ⟨rL4, e4, hC4⟩ := rc_hideM hC2 J (m := n2 + J.length) rfl
        obtain ⟨n4, hn4⟩ : ∃ n4, n4 = n2 + J.length := ⟨_, rfl⟩
        rw [← hn4] at hC4
        rw [← List.append_assoc, e4, ← hn4]
        by_cases hk : k = 0
        · subst hk
          repeat' (first | with_reducible first | refine kI (by kernel_rfl) ?_ | refine kN (by kernel_rfl) ?_ | (first | refine kB1 ?_ ?_ | refine kB2 ?_ ?_) <;> intro hp | (first | refine kD1 ?_ ?_ | refine kD2 ?_ ?_ | refine kS1 ?_ ?_ | refine kS2 ?_ ?_) <;> intro hp <;> try simp only [hp] | simp -implicitDefEqProofs (disch := omega) only [go_sem, Nat.reduceAdd, Nat.reduceSub, reduceCtorEq, Nat.reduceLT, Nat.reduceLeDiff, Nat.reduceEqDiff, Nat.reduceMul, Int.reduceToNat, ↓reduceIte, List.take_of_length_le, if_pos, if_neg, getD_tsrs, fillA_len, fillA_at, fillA_full, evApp_z0, evApp_z1, evApp_z2, evApp_z3, evApp_i6, List.getElem?_set_self, List.set_set, getD_vis, cnE, Try.ntmps4, Try.results4,  hC4.cn, h0, opQ_none])
          refine InlK_intro rfl rfl can_pick ((isp_pick hS (hC4.app _) hb2 p2 (by omega) 8 (by omega)).mono ?_)
          rintro r L1 ⟨ch, rfl, -, -, rfl⟩
          by_cases hch : ch = 0
          · have hch' : (ch == 0) = true := beq_t hch
            repeat' (first | with_reducible first | refine kI (by kernel_rfl) ?_ | refine kN (by kernel_rfl) ?_ | (first | refine kB1 ?_ ?_ | refine kB2 ?_ ?_) <;> intro hp | (first | refine kD1 ?_ ?_ | refine kD2 ?_ ?_ | refine kS1 ?_ ?_ | refine kS2 ?_ ?_) <;> intro hp <;> try simp only [hp] | simp -implicitDefEqProofs (disch := omega) only [go_sem, Nat.reduceAdd, Nat.reduceSub, reduceCtorEq, Nat.reduceLT, Nat.reduceLeDiff, Nat.reduceEqDiff, Nat.reduceMul, Int.reduceToNat, ↓reduceIte, List.take_of_length_le, if_pos, if_neg, getD_tsrs, fillA_len, fillA_at, fillA_full, evApp_z0, evApp_z1, evApp_z2, evApp_z3, evApp_i6, List.getElem?_set_self, List.set_set, getD_vis, cnE, Try.ntmps4, Try.results4,  hC4.cn, hch', h10, opQ_none])
            refine InlK_intro rfl rfl can_someShape ((isp_someShape hS h0 h1 hg hc (hC4.app _) hb2 _ (by omega)).mono ?_)
            rintro r L1 ⟨l, t, p3, s1, rfl, s2, s3, rfl⟩
            rw [← e4, List.append_assoc, ← e2]
            repeat' (first | with_reducible first | refine kI (by kernel_rfl) ?_ | refine kN (by kernel_rfl) ?_ | (first | refine kB1 ?_ ?_ | refine kB2 ?_ ?_) <;> intro hp | (first | refine kD1 ?_ ?_ | refine kD2 ?_ ?_ | refine kS1 ?_ ?_ | refine kS2 ?_ ?_) <;> intro hp <;> try simp only [hp] | simp -implicitDefEqProofs (disch := omega) only [go_sem, Nat.reduceAdd, Nat.reduceSub, reduceCtorEq, Nat.reduceLT, Nat.reduceLeDiff, Nat.reduceEqDiff, Nat.reduceMul, Int.reduceToNat, ↓reduceIte, List.take_of_length_le, if_pos, if_neg, getD_tsrs, fillA_len, fillA_at, fillA_full, evApp_z0, evApp_z1, evApp_z2, evApp_z3, evApp_i6, List.getElem?_set_self, List.set_set, getD_vis, cnE, Try.ntmps4, Try.results4])
            refine RetQ.top ?_
            refine ⟨v, l, t, ⟨k1, k2⟩, by omega, ?_, rfl⟩
            rw [selV_tup]
            simp only [List.map_cons, List.map_nil, expE, selC_d, selC_int]
          · have hch' : (ch == 0) = false := beq_f hch
            rw [← e4, List.append_assoc, ← e2]
            repeat' (first | with_reducible first | refine kI (by kernel_rfl) ?_ | refine kN (by kernel_rfl) ?_ | (first | refine kB1 ?_ ?_ | refine kB2 ?_ ?_) <;> intro hp | (first | refine kD1 ?_ ?_ | refine kD2 ?_ ?_ | refine kS1 ?_ ?_ | refine kS2 ?_ ?_) <;> intro hp <;> try simp only [hp] | simp -implicitDefEqProofs (disch := omega) only [go_sem, Nat.reduceAdd, Nat.reduceSub, reduceCtorEq, Nat.reduceLT, Nat.reduceLeDiff, Nat.reduceEqDiff, Nat.reduceMul, Int.reduceToNat, ↓reduceIte, List.take_of_length_le, if_pos, if_neg, getD_tsrs, fillA_len, fillA_at, fillA_full, evApp_z0, evApp_z1, evApp_z2, evApp_z3, evApp_i6, List.getElem?_set_self, List.set_set, getD_vis, cnE, Try.ntmps4, Try.results4,  hch'])
            refine RetQ.top ?_
            refine ⟨v, q2, 1, ⟨k1, k2⟩, by omega, ?_, rfl⟩
            have hat : ∀ A B C : Blk, (L ++ A :: B :: C :: (J ++ [stB q2]))[n4]? = some (stB q2) := fun A B C => by
              rw [hn4, hn2, show L.length + 3 + J.length = L.length + (J.length + 3) by omega, List.getElem?_append_right (by omega), Nat.add_sub_cancel_left]
              show (J ++ [stB q2])[J.length]? = _
              simp
            have hg4 : gR L.length [] n4 = none := by
              unfold gR
              rw [if_neg (by omega)]
              rfl
            rw [selV_tup]
            simp only [List.map_cons, List.map_nil, expE, selC_d, selC_int]
            rw [selC_ints hg4 (hat _ _ _)]
        · obtain ⟨k, rfl⟩ : ∃ m, k = m + 1 := ⟨k - 1, by omega⟩
          have hk1 : IntKind.i64.wrap (((k + 1 : Nat) : Int) - 1) = (k : Int) := by rw [wrap_in (by omega)]; omega
          repeat' (first | with_reducible first | refine kI (by kernel_rfl) ?_ | refine kN (by kernel_rfl) ?_ | (first | refine kB1 ?_ ?_ | refine kB2 ?_ ?_) <;> intro hp | (first | refine kD1 ?_ ?_ | refine kD2 ?_ ?_ | refine kS1 ?_ ?_ | refine kS2 ?_ ?_) <;> intro hp <;> try simp only [hp] | simp -implicitDefEqProofs (disch := omega) only [go_sem, Nat.reduceAdd, Nat.reduceSub, reduceCtorEq, Nat.reduceLT, Nat.reduceLeDiff, Nat.reduceEqDiff, Nat.reduceMul, Int.reduceToNat, ↓reduceIte, List.take_of_length_le, if_pos, if_neg, getD_tsrs, fillA_len, fillA_at, fillA_full, evApp_z0, evApp_z1, evApp_z2, evApp_z3, evApp_i6, List.getElem?_set_self, List.set_set, getD_vis, cnE, Try.ntmps4, Try.results4,  hC4.cn, h1, opQ_none])
          refine InlK_intro rfl rfl can_one ((isp_one hS h0 (hC4.app _) hb2 p2 (by omega) 2 [2, 1, 3] (by decide)).mono ?_)
          rintro r L1 ⟨z, rfl, -, rfl⟩
          have hex : exp 0 (rL4 (p2 + 1) ++ [stB q2]) (.sl n4 q2.length 0 q2.length q2.length) = ints 0 q2 := by
            simp [exp, expE, expC, stepC, hC4.at0, List.take_of_length_le, Function.comp_def, ints]
          repeat' (first | with_reducible first | refine kI (by kernel_rfl) ?_ | refine kN (by kernel_rfl) ?_ | (first | refine kB1 ?_ ?_ | refine kB2 ?_ ?_) <;> intro hp | (first | refine kD1 ?_ ?_ | refine kD2 ?_ ?_ | refine kS1 ?_ ?_ | refine kS2 ?_ ?_) <;> intro hp <;> try simp only [hp] | simp -implicitDefEqProofs (disch := omega) only [go_sem, Nat.reduceAdd, Nat.reduceSub, reduceCtorEq, Nat.reduceLT, Nat.reduceLeDiff, Nat.reduceEqDiff, Nat.reduceMul, Int.reduceToNat, ↓reduceIte, List.take_of_length_le, if_pos, if_neg, getD_tsrs, fillA_len, fillA_at, fillA_full, evApp_z0, evApp_z1, evApp_z2, evApp_z3, evApp_i6, List.getElem?_set_self, List.set_set, getD_vis, cnE, Try.ntmps4, Try.results4,  hC4.cn, h9, opQ_none])
          refine InlK_intro rfl rfl can_insert ((hin q2 0 z (by omega) (Nat.zero_le _)).call ?_ ?_)
          · show [exp 0 _ (.sl n4 q2.length 0 q2.length q2.length), exp 0 _ (i64 _), exp 0 _ (i64 _)] = _
            rw [hex]; rfl
          · repeat' (first | with_reducible first | refine kI (by kernel_rfl) ?_ | refine kN (by kernel_rfl) ?_ | (first | refine kB1 ?_ ?_ | refine kB2 ?_ ?_) <;> intro hp | (first | refine kD1 ?_ ?_ | refine kD2 ?_ ?_ | refine kS1 ?_ ?_ | refine kS2 ?_ ?_) <;> intro hp <;> try simp only [hp] | simp -implicitDefEqProofs (disch := omega) only [go_sem, Nat.reduceAdd, Nat.reduceSub, reduceCtorEq, Nat.reduceLT, Nat.reduceLeDiff, Nat.reduceEqDiff, Nat.reduceMul, Int.reduceToNat, ↓reduceIte, List.take_of_length_le, if_pos, if_neg, getD_tsrs, fillA_len, fillA_at, fillA_full, evApp_z0, evApp_z1, evApp_z2, evApp_z3, evApp_i6, List.getElem?_set_self, List.set_set, getD_vis, cnE, Try.ntmps4, Try.results4,  hC4.cn, hk1])
            exact ⟨2 * k, by omega, hI1 _ _ ⟨k, J ++ [stB q2], insF q2 0 z, p2 + 1, (), mixJ (by rw [insF_len (Nat.zero_le _), List.length_append, ← Nat.add_assoc, ← hn4]; rfl) (by rw [← e4]; simp), by rw [insF_len (Nat.zero_le _)]; omega, by omega, by omega, rfl⟩⟩
end Go.Proofs.Ytjmkdnnfhphckaa
