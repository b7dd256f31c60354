/- Contracts of functions that the laws of this seat call. -/
import Derived.Test.YtkmnepmnjpdpkaaGreatDoorXu
set_option linter.all false
namespace Go.Proofs.YtkmnepmnjpdpkaaGreatDoor
open Go Go.Ev Go.RowKit Go.Ev.Enc Go.Pl

theorem can_session : CanCall Tryz.prog 50 := ⟨_, Tryz.func50, rfl, rfl⟩
theorem dec_ac1 (k z : Int) : (dec (.agg [.int .i64 k, .ds 0 [.int .i64 z]]) : Option Ac) = some ⟨k, [z]⟩ := (ok _ _).2 rfl
attribute [go_sem] dec_ac1
theorem size_z {B : Bf} (h : B.c.length = 0) : ((B.c.length : Int) == 0) = true := beq_t (by omega)
theorem size_p {B : Bf} (h : B.c.length ≠ 0) : ((B.c.length : Int) == 0) = false := beq_f (by omega)
set_option maxHeartbeats 4000000 in
set_option maxRecDepth 100000 in
theorem isp_session {Sg : FuncId → Option (List AV → Option AV)} (hS : Sound Tryz.prog Sg) (h0 : Sg 76 = none) (h1 : Sg 89 = none) (n1 : Sg 56 = none) (n2 : Sg 74 = none) (n3 : Sg 58 = none) (hf : Sg 32 = some (F1 gFmt)) (n4 : Sg 77 = none) {bs : List UInt8} {b n : Nat} {rL : Int → List Blk} (hC : RC bs b n rL) (hb : bs.length ≤ 2000) (p : Int) (hp : 0 ≤ p ∧ p ≤ 600000000) (hnew : NewS) (hact : SomeAct) (hap : ApplyS) (hmu : MutP) : ISpec Tryz.prog 50 [.ptr b 1 0 0] (rL p) (fun r L' => ∃ (s : ByteArray) (p' : Int), r = .str s ∧ s.size ≤ 5000 ∧ L' = rL p') := by
  refine ISpec.ret Tryz.func50 rfl (vc3_sound Tryz.pf hS hS _ _ _ ?_)
  repeat' (first | with_reducible first | refine kI (by kernel_rfl) ?_ | simp -implicitDefEqProofs (disch := omega) only [go_sem, Nat.reduceAdd, Nat.reduceSub, reduceCtorEq, Nat.reduceLT, Nat.reduceLeDiff, Nat.reduceEqDiff, ↓reduceIte, List.take_of_length_le, if_pos, if_neg, getD_exs, evApp_st0, cnE, cnV, Tryz.ntmps50, Tryz.results50,  n1, opQ_none])
  refine InlK_intro rfl rfl can_NewS ((hnew 0 (by omega)).call (by simp only [go_sem, ints]; rfl) ?_)
  simp only [bfN, exN]
  have hok := new_ok (n := 0) (by omega)
  have hC0 : List.replicate 0 (0 : Int) = [] := rfl
  rw [hC0] at hok ⊢
  repeat' (first | with_reducible first | refine kI (by kernel_rfl) ?_ | simp -implicitDefEqProofs (disch := omega) only [go_sem, Nat.reduceAdd, Nat.reduceSub, reduceCtorEq, Nat.reduceLT, Nat.reduceLeDiff, Nat.reduceEqDiff, ↓reduceIte, List.take_of_length_le, if_pos, if_neg, getD_exs, evApp_st0, cnE, cnV, Tryz.ntmps50, Tryz.results50,  hC.cn, exR, h1, opQ_none])
  refine InlK_intro rfl rfl can_one ((isp_one hS h0 (hC.app _) hb _ (by omega) 2 [12, 20, 8, 30, 3, 0] (by decide)).mono ?_)
  rintro r L1 ⟨m, rfl, hm, rfl⟩
  have hmb : 0 ≤ m ∧ m ≤ 30 := by simp at hm; omega
  repeat' (first | with_reducible first | refine kI (by kernel_rfl) ?_ | simp -implicitDefEqProofs (disch := omega) only [go_sem, Nat.reduceAdd, Nat.reduceSub, reduceCtorEq, Nat.reduceLT, Nat.reduceLeDiff, Nat.reduceEqDiff, ↓reduceIte, List.take_of_length_le, if_pos, if_neg, getD_exs, evApp_st0, cnE, cnV, Tryz.ntmps50, Tryz.results50,  hC.cn])
  refine LoopQ.mix (fun t0 L0 nn ss => ∃ (j : Nat) (p1 : Int) (B : Bf) (v : AV) (J : List Blk) (s : ByteArray) (_ : Unit), (∃ x : Nat → AV, ss = ⟨mixL 0 (.k :: .k :: .k :: .k :: .v (.str s) :: .v (i64 (j : Nat)) :: .s :: .k :: .k :: .k :: .k :: .s :: .s :: .s :: .s :: .s :: .s :: .s :: .s :: .s :: .s :: .s :: .s :: .s :: .s :: .s :: .s :: .s :: .s :: .s :: .s :: .s :: .s :: .s :: .s :: .s :: .s :: .s :: .s :: .s :: .s :: .s :: .s :: .k :: .k :: .k :: .k :: .k :: .k :: .k :: .k :: .k :: .k :: .k :: .k :: .k :: .k :: .k :: .k :: .k :: []) t0 x, rL p1 ++ (stB [] :: ⟨2, [v]⟩ :: J)⟩) ∧ (bufOK B = true) ∧ (BR n (rL p1 ++ (stB [] :: ⟨2, [v]⟩ :: J)) v B) ∧ (p ≤ p1) ∧ (p1 + 20 * j ≤ p + 602) ∧ (s.size + 100 * j ≤ 3000) ∧ nn = j + 1) ?_ ?_
  · exact ⟨_, m.toNat, p + 1, bf0, _, [], ⟨#[]⟩, (), mixJ (by rw [show ((m.toNat : Nat) : Int) = m by omega]; rfl) rfl, hok, ⟨n, .nilS, rfl, by rw [hC.at0]; rfl, .inl ⟨rfl, rfl⟩, Nat.le_refl _, fun j a o n c hj => by cases hj⟩, by omega, by omega, by rw [show (⟨#[]⟩ : ByteArray).size = 0 from rfl]; omega, rfl⟩
  · rintro I0 hI0 nn ss ⟨j, p1, B, v, J, s, _, ⟨y, rfl⟩, hB, hbr, f1, f2, f3, rfl⟩
    have hbr0 := hbr
    obtain ⟨i, be, rfl, b1, b2, b3, b4⟩ := hbr
    have hbe := exAt_cell b2
    have c1 : ∀ (q : Int) (Z : List Blk), (rL q ++ (stB [] :: ⟨2, [.agg [.sl i B.c.length 0 B.c.length B.c.length, be]]⟩ :: (J ++ Z)))[i]? = some (stB B.c) := fun q Z => by
      have := get_ext (get_rd (hC.app _) b1 (by exact (by decide : (1 : Nat) ≠ 2)) q) Z
      simpa only [List.append_assoc, List.cons_append] using this
    have hbrX : ∀ (q : Int) (Z : List Blk), BR n (rL q ++ (stB [] :: ⟨2, [.agg [.sl i B.c.length 0 B.c.length B.c.length, be]]⟩ :: (J ++ Z))) (.agg [.sl i B.c.length 0 B.c.length B.c.length, be]) B := fun q Z => by
      have := BR.ext (BR.rd (hC.app _) hbr0 q) Z
      simpa only [List.append_assoc, List.cons_append] using this
    match j with
    | 0 =>
      have h00 : ¬ (0 : Int) < ((0 : Nat) : Int) := by decide
      repeat' (first | with_reducible first | refine kI (by kernel_rfl) ?_ | simp -implicitDefEqProofs (disch := omega) only [go_sem, Nat.reduceAdd, Nat.reduceSub, reduceCtorEq, Nat.reduceLT, Nat.reduceLeDiff, Nat.reduceEqDiff, ↓reduceIte, List.take_of_length_le, if_pos, if_neg, getD_exs, evApp_st0, cnE, cnV, Tryz.ntmps50, Tryz.results50,  hC.cn, hbe, h00, h0, opQ_none])
      refine InlK_intro rfl rfl can_pick ((isp_pick hS (hC.app _) hb p1 (by omega) 5 (by omega)).mono ?_)
      rintro r L1 ⟨ch, rfl, -, -, rfl⟩
      by_cases k0 : ch = 0
      · have k0' : (ch == 0) = true := beq_t k0
        repeat' (first | with_reducible first | refine kI (by kernel_rfl) ?_ | simp -implicitDefEqProofs (disch := omega) only [go_sem, Nat.reduceAdd, Nat.reduceSub, reduceCtorEq, Nat.reduceLT, Nat.reduceLeDiff, Nat.reduceEqDiff, ↓reduceIte, List.take_of_length_le, if_pos, if_neg, getD_exs, evApp_st0, cnE, cnV, Tryz.ntmps50, Tryz.results50,  hC.cn, k0', n4, opQ_none])
        refine InlK_intro rfl rfl can_mutate ((hmu (hC.app _) hb (p1 + 1) (by omega) s (by omega)).mono ?_)
        rintro r L1 ⟨v, p3, rfl, hv, m5, m6, rfl⟩
        repeat' (first | with_reducible first | refine kI (by kernel_rfl) ?_ | simp -implicitDefEqProofs (disch := omega) only [go_sem, Nat.reduceAdd, Nat.reduceSub, reduceCtorEq, Nat.reduceLT, Nat.reduceLeDiff, Nat.reduceEqDiff, ↓reduceIte, List.take_of_length_le, if_pos, if_neg, getD_exs, evApp_st0, cnE, cnV, Tryz.ntmps50, Tryz.results50,  hC.cn])
        exact hC.ret0 ⟨v, _, rfl, by omega, rfl⟩
      · have k0' : (ch == 0) = false := beq_f k0
        by_cases k1 : ch = 1
        · have k1' : (ch == 1) = true := beq_t k1
          have hw1 : IntKind.i64.wrap ((s.size : Int) + 1) = (s.size : Int) + 1 := wrap_in (by omega)
          repeat' (first | with_reducible first | refine kI (by kernel_rfl) ?_ | simp -implicitDefEqProofs (disch := omega) only [go_sem, Nat.reduceAdd, Nat.reduceSub, reduceCtorEq, Nat.reduceLT, Nat.reduceLeDiff, Nat.reduceEqDiff, ↓reduceIte, List.take_of_length_le, if_pos, if_neg, getD_exs, evApp_st0, cnE, cnV, Tryz.ntmps50, Tryz.results50,  hC.cn, k0', k1', hw1, h0, opQ_none])
          refine InlK_intro rfl rfl can_pick ((isp_pick hS (hC.app _) hb (p1 + 1) (by omega) ((s.size : Int) + 1) (by omega)).mono ?_)
          rintro r L1 ⟨k, rfl, k2, k3, rfl⟩
          obtain ⟨k, rfl⟩ : ∃ m : Nat, k = m := ⟨k.toNat, by omega⟩
          have hki : (k : Int) ≤ (s.size : Int) := by omega
          have hx1 := ext_size s 0 k
          repeat' (first | with_reducible first | refine kI (by kernel_rfl) ?_ | simp -implicitDefEqProofs (disch := omega) only [go_sem, Nat.reduceAdd, Nat.reduceSub, reduceCtorEq, Nat.reduceLT, Nat.reduceLeDiff, Nat.reduceEqDiff, ↓reduceIte, List.take_of_length_le, if_pos, if_neg, getD_exs, evApp_st0, cnE, cnV, Tryz.ntmps50, Tryz.results50,  hC.cn, hki])
          exact hC.ret0 ⟨_, _, rfl, by rw [hx1]; omega, rfl⟩
        · have k1' : (ch == 1) = false := beq_f k1
          repeat' (first | with_reducible first | refine kI (by kernel_rfl) ?_ | simp -implicitDefEqProofs (disch := omega) only [go_sem, Nat.reduceAdd, Nat.reduceSub, reduceCtorEq, Nat.reduceLT, Nat.reduceLeDiff, Nat.reduceEqDiff, ↓reduceIte, List.take_of_length_le, if_pos, if_neg, getD_exs, evApp_st0, cnE, cnV, Tryz.ntmps50, Tryz.results50,  hC.cn, k0', k1'])
          exact hC.ret0 ⟨s, _, rfl, by omega, rfl⟩
    | j + 1 =>
      have hw : IntKind.i64.wrap (((j + 1 : Nat) : Int) - 1) = (j : Int) := by rw [wrap_in (by omega)]; omega
      have hpos : (0 : Int) < ((j + 1 : Nat) : Int) := by omega
      repeat' (first | with_reducible first | refine kI (by kernel_rfl) ?_ | simp -implicitDefEqProofs (disch := omega) only [go_sem, Nat.reduceAdd, Nat.reduceSub, reduceCtorEq, Nat.reduceLT, Nat.reduceLeDiff, Nat.reduceEqDiff, ↓reduceIte, List.take_of_length_le, if_pos, if_neg, getD_exs, evApp_st0, cnE, cnV, Tryz.ntmps50, Tryz.results50,  hC.cn, hbe, hpos, n2, opQ_none])
      refine InlK_intro rfl rfl can_someAct ((hact (hC.app _) hb p1 (by omega) B hB _ _ hbr0).mono ?_)
      rintro r L1 ⟨⟨k, l⟩, p2, ha, rfl, g1, g2, rfl⟩
      by_cases hz : B.c.length = 0
      · have hzx := size_z hz
        repeat' (first | with_reducible first | refine kI (by kernel_rfl) ?_ | simp -implicitDefEqProofs (disch := omega) only [go_sem, Nat.reduceAdd, Nat.reduceSub, reduceCtorEq, Nat.reduceLT, Nat.reduceLeDiff, Nat.reduceEqDiff, ↓reduceIte, List.take_of_length_le, if_pos, if_neg, getD_exs, evApp_st0, cnE, cnV, Tryz.ntmps50, Tryz.results50,  hC.cn, hbe, c1, hzx, h0, opQ_none])
        refine InlK_intro rfl rfl can_pick ((isp_pick hS (hC.app _) hb p2 (by omega) 2 (by omega)).mono ?_)
        rintro r L1 ⟨ch, rfl, -, -, rfl⟩
        by_cases k0 : ch = 0
        · have k0' : (ch == 0) = true := beq_t k0
          repeat' (first | with_reducible first | refine kI (by kernel_rfl) ?_ | simp -implicitDefEqProofs (disch := omega) only [go_sem, Nat.reduceAdd, Nat.reduceSub, reduceCtorEq, Nat.reduceLT, Nat.reduceLeDiff, Nat.reduceEqDiff, ↓reduceIte, List.take_of_length_le, if_pos, if_neg, getD_exs, evApp_st0, cnE, cnV, Tryz.ntmps50, Tryz.results50,  hC.cn, hbe, c1, hzx, k0', h1, opQ_none])
          refine InlK_intro rfl rfl can_one ((isp_one hS h0 (hC.app _) hb (p2 + 1) (by omega) 2 [12, 20] (by decide)).mono ?_)
          rintro r L1 ⟨u, rfl, hu, rfl⟩
          have ha2 : actV ⟨0, [u]⟩ := ⟨⟨⟨show (0 : Int) ≤ 0 by decide, show (0 : Int) ≤ 7 by decide⟩, rfl⟩, by simp at hu ⊢; omega⟩
          repeat' (first | with_reducible first | refine kI (by kernel_rfl) ?_ | simp -implicitDefEqProofs (disch := omega) only [go_sem, Nat.reduceAdd, Nat.reduceSub, reduceCtorEq, Nat.reduceLT, Nat.reduceLeDiff, Nat.reduceEqDiff, ↓reduceIte, List.take_of_length_le, if_pos, if_neg, getD_exs, evApp_st0, cnE, cnV, Tryz.ntmps50, Tryz.results50,  hC.cn, hbe, c1, hzx, n3, opQ_none])
          refine InlK_intro rfl rfl can_applyS ((hap B hB ⟨0, [u]⟩ ha2.1 2 n _ (by rw [hC.len']; omega) _ (hbrX (p2 + 1 + 1) _)).mono ?_)
          rintro r L1 ⟨x', Y, rfl, rfl, hbr2⟩
          obtain ⟨z1, z2, rfl, hz1, hz2⟩ := BR_cells hbr2
          have h4 := ned_4 (0)
          have hl : ([u] : List Int).length = nedF (0) := ha2.1.2
          have qf := gFmt_eq (a := ⟨0, [u]⟩) (by dsimp only; omega)
          have hsz := fmt_size ⟨0, [u]⟩
          have hn1 := z_nl
          have hokA := app_ok (a := ⟨0, [u]⟩) hB
          generalize fmtB ⟨0, [u]⟩ = F at *
          generalize appF B ⟨0, [u]⟩ = AP at *
          have w1 : s.size + F.size ≤ 9223372036854775807 := by omega
          have w2 : s.size + F.size + cNl.size ≤ 9223372036854775807 := by omega
          have hzs : (s ++ F ++ cNl).size + 100 * j ≤ 3000 := by rw [ByteArray.size_append, ByteArray.size_append]; omega
          have hbp := hbr2.put (q := n + 1) (kq := ⟨2, [.agg [.sl i B.c.length 0 B.c.length B.c.length, be]]⟩) (by rw [List.append_assoc, hC.at']; rfl) rfl ⟨2, [.agg [z1, z2]]⟩
          rw [List.append_assoc, hC.sat'] at hbp
          repeat' (first | with_reducible first | refine kI (by kernel_rfl) ?_ | simp -implicitDefEqProofs (disch := omega) only [go_sem, Nat.reduceAdd, Nat.reduceSub, reduceCtorEq, Nat.reduceLT, Nat.reduceLeDiff, Nat.reduceEqDiff, ↓reduceIte, List.take_of_length_le, if_pos, if_neg, getD_exs, evApp_st0, cnE, cnV, Tryz.ntmps50, Tryz.results50,  hC.cn, hbe, hz1, hz2, hf, qf, w1, w2, hw])
          exact ⟨j + 1, by omega, hI0 _ _ ⟨j, p2 + 1 + 1, AP.1, .agg [z1, z2], J ++ (⟨2, [acA 2 ⟨0, [u]⟩]⟩ :: Y), s ++ F ++ cNl, (), mixI rfl, hokA, by first | simpa using hbp | (simp at hbp; exact hbp), by omega, by omega, hzs, rfl⟩⟩
        · have k0' : (ch == 0) = false := beq_f k0
          have ha2 := ha
          repeat' (first | with_reducible first | refine kI (by kernel_rfl) ?_ | simp -implicitDefEqProofs (disch := omega) only [go_sem, Nat.reduceAdd, Nat.reduceSub, reduceCtorEq, Nat.reduceLT, Nat.reduceLeDiff, Nat.reduceEqDiff, ↓reduceIte, List.take_of_length_le, if_pos, if_neg, getD_exs, evApp_st0, cnE, cnV, Tryz.ntmps50, Tryz.results50,  hC.cn, hbe, c1, hzx, n3, k0', opQ_none])
          refine InlK_intro rfl rfl can_applyS ((hap B hB ⟨k, l⟩ ha2.1 2 n _ (by rw [hC.len']; omega) _ (hbrX (p2 + 1) _)).mono ?_)
          rintro r L1 ⟨x', Y, rfl, rfl, hbr2⟩
          obtain ⟨z1, z2, rfl, hz1, hz2⟩ := BR_cells hbr2
          have h4 := ned_4 (k)
          have hl : (l : List Int).length = nedF (k) := ha2.1.2
          have qf := gFmt_eq (a := ⟨k, l⟩) (by dsimp only; omega)
          have hsz := fmt_size ⟨k, l⟩
          have hn1 := z_nl
          have hokA := app_ok (a := ⟨k, l⟩) hB
          generalize fmtB ⟨k, l⟩ = F at *
          generalize appF B ⟨k, l⟩ = AP at *
          have w1 : s.size + F.size ≤ 9223372036854775807 := by omega
          have w2 : s.size + F.size + cNl.size ≤ 9223372036854775807 := by omega
          have hzs : (s ++ F ++ cNl).size + 100 * j ≤ 3000 := by rw [ByteArray.size_append, ByteArray.size_append]; omega
          have hbp := hbr2.put (q := n + 1) (kq := ⟨2, [.agg [.sl i B.c.length 0 B.c.length B.c.length, be]]⟩) (by rw [List.append_assoc, hC.at']; rfl) rfl ⟨2, [.agg [z1, z2]]⟩
          rw [List.append_assoc, hC.sat'] at hbp
          repeat' (first | with_reducible first | refine kI (by kernel_rfl) ?_ | simp -implicitDefEqProofs (disch := omega) only [go_sem, Nat.reduceAdd, Nat.reduceSub, reduceCtorEq, Nat.reduceLT, Nat.reduceLeDiff, Nat.reduceEqDiff, ↓reduceIte, List.take_of_length_le, if_pos, if_neg, getD_exs, evApp_st0, cnE, cnV, Tryz.ntmps50, Tryz.results50,  hC.cn, hbe, hz1, hz2, hf, qf, w1, w2, hw])
          exact ⟨j + 1, by omega, hI0 _ _ ⟨j, p2 + 1, AP.1, .agg [z1, z2], J ++ (⟨2, [acA 2 ⟨k, l⟩]⟩ :: Y), s ++ F ++ cNl, (), mixI rfl, hokA, by first | simpa using hbp | (simp at hbp; exact hbp), by omega, by omega, hzs, rfl⟩⟩
      · have hzx := size_p hz
        have ha2 := ha
        repeat' (first | with_reducible first | refine kI (by kernel_rfl) ?_ | simp -implicitDefEqProofs (disch := omega) only [go_sem, Nat.reduceAdd, Nat.reduceSub, reduceCtorEq, Nat.reduceLT, Nat.reduceLeDiff, Nat.reduceEqDiff, ↓reduceIte, List.take_of_length_le, if_pos, if_neg, getD_exs, evApp_st0, cnE, cnV, Tryz.ntmps50, Tryz.results50,  hC.cn, hbe, c1, hzx, n3, opQ_none])
        refine InlK_intro rfl rfl can_applyS ((hap B hB ⟨k, l⟩ ha2.1 2 n _ (by rw [hC.len']; omega) _ (hbrX (p2) _)).mono ?_)
        rintro r L1 ⟨x', Y, rfl, rfl, hbr2⟩
        obtain ⟨z1, z2, rfl, hz1, hz2⟩ := BR_cells hbr2
        have h4 := ned_4 (k)
        have hl : (l : List Int).length = nedF (k) := ha2.1.2
        have qf := gFmt_eq (a := ⟨k, l⟩) (by dsimp only; omega)
        have hsz := fmt_size ⟨k, l⟩
        have hn1 := z_nl
        have hokA := app_ok (a := ⟨k, l⟩) hB
        generalize fmtB ⟨k, l⟩ = F at *
        generalize appF B ⟨k, l⟩ = AP at *
        have w1 : s.size + F.size ≤ 9223372036854775807 := by omega
        have w2 : s.size + F.size + cNl.size ≤ 9223372036854775807 := by omega
        have hzs : (s ++ F ++ cNl).size + 100 * j ≤ 3000 := by rw [ByteArray.size_append, ByteArray.size_append]; omega
        have hbp := hbr2.put (q := n + 1) (kq := ⟨2, [.agg [.sl i B.c.length 0 B.c.length B.c.length, be]]⟩) (by rw [List.append_assoc, hC.at']; rfl) rfl ⟨2, [.agg [z1, z2]]⟩
        rw [List.append_assoc, hC.sat'] at hbp
        repeat' (first | with_reducible first | refine kI (by kernel_rfl) ?_ | simp -implicitDefEqProofs (disch := omega) only [go_sem, Nat.reduceAdd, Nat.reduceSub, reduceCtorEq, Nat.reduceLT, Nat.reduceLeDiff, Nat.reduceEqDiff, ↓reduceIte, List.take_of_length_le, if_pos, if_neg, getD_exs, evApp_st0, cnE, cnV, Tryz.ntmps50, Tryz.results50,  hC.cn, hbe, hz1, hz2, hf, qf, w1, w2, hw])
        exact ⟨j + 1, by omega, hI0 _ _ ⟨j, p2, AP.1, .agg [z1, z2], J ++ (⟨2, [acA 2 ⟨k, l⟩]⟩ :: Y), s ++ F ++ cNl, (), mixI rfl, hokA, by first | simpa using hbp | (simp at hbp; exact hbp), by omega, by omega, hzs, rfl⟩⟩
end Go.Proofs.YtkmnepmnjpdpkaaGreatDoor
