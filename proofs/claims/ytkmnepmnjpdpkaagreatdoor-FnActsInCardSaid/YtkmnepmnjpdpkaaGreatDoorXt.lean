/- Contracts of functions that the laws of this seat call. -/
import Derived.Test.YtkmnepmnjpdpkaaGreatDoorXs
set_option linter.all false
namespace Go.Proofs.YtkmnepmnjpdpkaaGreatDoor
open Go Go.Ev Go.RowKit Go.Ev.Enc Go.Pl

theorem can_DrawValidAct : CanCall Tryz.prog 70 := ⟨_, Tryz.func70, rfl, rfl⟩
theorem can_DrawFormatAct : CanCall Tryz.prog 31 := ⟨_, Tryz.func31, rfl, rfl⟩
theorem can_DrawParseAct : CanCall Tryz.prog 36 := ⟨_, Tryz.func36, rfl, rfl⟩
def DrFmt (f : FuncId) : Prop := ∀ (bs : List UInt8), bs.length ≤ 1048576 → ∀ L : List Blk, ISpec Tryz.prog f [bytesA 0 bs] L fun r L' => ∃ a : Ac, a.n.length ≤ 5 ∧ r = acA 1 a ∧ L' = L
set_option maxHeartbeats 4000000 in
set_option maxRecDepth 100000 in
theorem isp_DrawValidAct {Sg : FuncId → Option (List AV → Option AV)} (hS : Sound Tryz.prog Sg) (n1 : Sg 51 = none) (n2 : Sg 75 = none) (n3 : Sg 65 = none) (bs : List UInt8) (hb : bs.length ≤ 1048576) (L : List Blk) (hgd : GoodD) (haa : AnyAct) : ISpec Tryz.prog 70 [bytesA 0 bs] (L) (fun r L' => ∃ a : Ac, a.n.length ≤ 5 ∧ r = acA 1 a ∧ L' = L) := by
  refine ISpec.ret Tryz.func70 rfl (vc3_sound Tryz.pf hS hS _ _ _ ?_)
  repeat' (first | with_reducible first | refine kI (by kernel_rfl) ?_ | refine kN (by kernel_rfl) ?_ | (first | refine kB1 ?_ ?_ | refine kB2 ?_ ?_) <;> intro hp | (first | refine kD1 ?_ ?_ | refine kD2 ?_ ?_ | refine kS1 ?_ ?_ | refine kS2 ?_ ?_) <;> intro hp <;> try simp only [hp] | simp -implicitDefEqProofs (disch := omega) only [go_sem, Nat.reduceAdd, Nat.reduceSub, reduceCtorEq, Nat.reduceLT, Nat.reduceLeDiff, Nat.reduceEqDiff, Nat.reduceMul, Int.reduceToNat, ↓reduceIte, List.take_of_length_le, if_pos, if_neg, List.getElem?_set_self, List.set_set, getD_exs, evApp_st0, cnE, cnV, Tryz.ntmps70, Tryz.results70,  n1, opQ_none])
  refine InlK_intro rfl rfl can_newRd ((isp_newReader hS bs hb _).mono ?_)
  rintro r L1 ⟨rfl, rfl⟩
  have hb2 : (bs.take 2000).length ≤ 2000 := by simp; omega
  repeat' (first | with_reducible first | refine kI (by kernel_rfl) ?_ | refine kN (by kernel_rfl) ?_ | (first | refine kB1 ?_ ?_ | refine kB2 ?_ ?_) <;> intro hp | (first | refine kD1 ?_ ?_ | refine kD2 ?_ ?_ | refine kS1 ?_ ?_ | refine kS2 ?_ ?_) <;> intro hp <;> try simp only [hp] | simp -implicitDefEqProofs (disch := omega) only [go_sem, Nat.reduceAdd, Nat.reduceSub, reduceCtorEq, Nat.reduceLT, Nat.reduceLeDiff, Nat.reduceEqDiff, Nat.reduceMul, Int.reduceToNat, ↓reduceIte, List.take_of_length_le, if_pos, if_neg, List.getElem?_set_self, List.set_set, getD_exs, evApp_st0, cnE, cnV, Tryz.ntmps70, Tryz.results70,  n2, opQ_none])
  refine InlK_intro rfl rfl can_goodBuffer ((hgd (RC.new1 (bs.take 2000) L _) hb2 0 (by omega)).mono ?_)
  rintro r L1 ⟨B, p1, hB, rfl, m1, m2, rfl⟩
  repeat' (first | with_reducible first | refine kI (by kernel_rfl) ?_ | refine kN (by kernel_rfl) ?_ | (first | refine kB1 ?_ ?_ | refine kB2 ?_ ?_) <;> intro hp | (first | refine kD1 ?_ ?_ | refine kD2 ?_ ?_ | refine kS1 ?_ ?_ | refine kS2 ?_ ?_) <;> intro hp <;> try simp only [hp] | simp -implicitDefEqProofs (disch := omega) only [go_sem, Nat.reduceAdd, Nat.reduceSub, reduceCtorEq, Nat.reduceLT, Nat.reduceLeDiff, Nat.reduceEqDiff, Nat.reduceMul, Int.reduceToNat, ↓reduceIte, List.take_of_length_le, if_pos, if_neg, List.getElem?_set_self, List.set_set, getD_exs, evApp_st0, cnE, cnV, Tryz.ntmps70, Tryz.results70,  n3, opQ_none])
  refine InlK_intro rfl rfl can_anyAct ((haa (RC.new1 (bs.take 2000) L _) hb2 p1 (by omega) B (bfS_ok hB)).mono ?_)
  rintro r L1 ⟨a, p2, ha, rfl, m3, m4, rfl⟩
  repeat' (first | with_reducible first | refine kI (by kernel_rfl) ?_ | refine kN (by kernel_rfl) ?_ | (first | refine kB1 ?_ ?_ | refine kB2 ?_ ?_) <;> intro hp | (first | refine kD1 ?_ ?_ | refine kD2 ?_ ?_ | refine kS1 ?_ ?_ | refine kS2 ?_ ?_) <;> intro hp <;> try simp only [hp] | simp -implicitDefEqProofs (disch := omega) only [go_sem, Nat.reduceAdd, Nat.reduceSub, reduceCtorEq, Nat.reduceLT, Nat.reduceLeDiff, Nat.reduceEqDiff, Nat.reduceMul, Int.reduceToNat, ↓reduceIte, List.take_of_length_le, if_pos, if_neg, List.getElem?_set_self, List.set_set, getD_exs, evApp_st0, cnE, cnV, Tryz.ntmps70, Tryz.results70])
  refine RetQ.top ⟨a, ha, ?_, rfl⟩
  simp only [selV_agg, List.map_cons, List.map_nil, selC_d, selC_int]
set_option maxHeartbeats 4000000 in
set_option maxRecDepth 100000 in
theorem isp_DrawFormatAct {Sg : FuncId → Option (List AV → Option AV)} (hS : Sound Tryz.prog Sg) (n1 : Sg 70 = none) (bs : List UInt8) (hb : bs.length ≤ 1048576) (L : List Blk) (hd : DrFmt 70) : ISpec Tryz.prog 31 [bytesA 0 bs] (L) (fun r L' => ∃ a : Ac, a.n.length ≤ 5 ∧ r = acA 1 a ∧ L' = L) := by
  refine ISpec.ret Tryz.func31 rfl (vc3_sound Tryz.pf hS hS _ _ _ ?_)
  repeat' (first | with_reducible first | refine kI (by kernel_rfl) ?_ | refine kN (by kernel_rfl) ?_ | (first | refine kB1 ?_ ?_ | refine kB2 ?_ ?_) <;> intro hp | (first | refine kD1 ?_ ?_ | refine kD2 ?_ ?_ | refine kS1 ?_ ?_ | refine kS2 ?_ ?_) <;> intro hp <;> try simp only [hp] | simp -implicitDefEqProofs (disch := omega) only [go_sem, Nat.reduceAdd, Nat.reduceSub, reduceCtorEq, Nat.reduceLT, Nat.reduceLeDiff, Nat.reduceEqDiff, Nat.reduceMul, Int.reduceToNat, ↓reduceIte, List.take_of_length_le, if_pos, if_neg, List.getElem?_set_self, List.set_set, getD_exs, evApp_st0, cnE, cnV, Tryz.ntmps31, Tryz.results31,  n1, opQ_none])
  refine InlK_intro rfl rfl can_DrawValidAct ((hd bs hb _).mono ?_)
  rintro r L1 ⟨a, ha, rfl, rfl⟩
  repeat' (first | with_reducible first | refine kI (by kernel_rfl) ?_ | refine kN (by kernel_rfl) ?_ | (first | refine kB1 ?_ ?_ | refine kB2 ?_ ?_) <;> intro hp | (first | refine kD1 ?_ ?_ | refine kD2 ?_ ?_ | refine kS1 ?_ ?_ | refine kS2 ?_ ?_) <;> intro hp <;> try simp only [hp] | simp -implicitDefEqProofs (disch := omega) only [go_sem, Nat.reduceAdd, Nat.reduceSub, reduceCtorEq, Nat.reduceLT, Nat.reduceLeDiff, Nat.reduceEqDiff, Nat.reduceMul, Int.reduceToNat, ↓reduceIte, List.take_of_length_le, if_pos, if_neg, List.getElem?_set_self, List.set_set, getD_exs, evApp_st0, cnE, cnV, Tryz.ntmps31, Tryz.results31])
  refine RetQ.top ⟨a, ha, ?_, rfl⟩
  simp only [selV_agg, List.map_cons, List.map_nil, selC_d, selC_int]
theorem fmt_size (a : Ac) : (fmtB a).size ≤ 92 := by
  unfold fmtB
  by_cases e : actB a = true
  · rw [if_pos e, fmt_s, ByteArray.size_append, bs_size]
    obtain ⟨⟨hk, hl⟩, hx⟩ := actB_iff.1 e
    have h4 := ned_4 a.k
    have := nm_len (k := a.k.toNat) (by omega)
    have := numsB_len a.n fun x h => by have := hx x h; unfold i64R; omega
    omega
  · rw [if_neg e]; exact Nat.zero_le _
def SomeD : Prop := ∀ {bs : List UInt8} {b n : Nat} {rL : Int → List Blk} (hC : RC bs b n rL) (hb : bs.length ≤ 2000) (p : Int) (hp : 0 ≤ p ∧ p ≤ 800000000) (B : Bf) (hB : bfS B), ISpec Tryz.prog 74 [.ptr b 1 0 0, bfA 1 B] (rL p) fun r L' => ∃ (a : Ac) (p' : Int), actV a ∧ r = acA 1 a ∧ p ≤ p' ∧ p' ≤ p + 10 ∧ L' = rL p'
theorem someD_of (h : SomeActL) : SomeD := fun {bs b n rL} hC hb p hp B hB => by
  refine ISpec.fin ((h hC hb p hp B hB).mono ?_)
  rintro r L' ⟨a, p', ha, rfl, f1, f2, rfl⟩
  refine hC.ret0 ⟨a, p', ha, ?_, f1, f2, rfl⟩
  have e : (rL p' ++ [stB a.n])[n]? = some (stB a.n) := hC.at0 _ _
  have hg : gR n [] n = none := by simp [gR]
  simp -implicitDefEqProofs only [selV_agg, List.map_cons, List.map_nil, selC_sl, selC_int, hg, selSl_none, e, selF_ints]
def DrPar : Prop := ∀ (bs : List UInt8), bs.length ≤ 1048576 → ∀ L : List Blk, ISpec Tryz.prog 36 [bytesA 0 bs] L fun r L' => ∃ s : ByteArray, s.size ≤ 5000 ∧ r = .str s ∧ L' = L
def MutP : Prop := ∀ {bs : List UInt8} {b n : Nat} {rL : Int → List Blk} (hC : RC bs b n rL) (hb : bs.length ≤ 2000) (p : Int) (hp : 0 ≤ p ∧ p ≤ 800000000) (s : ByteArray) (hs : s.size ≤ 100000), ISpec Tryz.prog 77 [.ptr b 1 0 0, .str s] (rL p) fun r L' => ∃ (v : ByteArray) (p' : Int), r = .str v ∧ v.size ≤ s.size + 1 ∧ p ≤ p' ∧ p' ≤ p + 3 ∧ L' = rL p'
set_option maxHeartbeats 4000000 in
set_option maxRecDepth 100000 in
theorem isp_DrawParseAct {Sg : FuncId → Option (List AV → Option AV)} (hS : Sound Tryz.prog Sg) (n1 : Sg 51 = none) (n2 : Sg 75 = none) (n3 : Sg 74 = none) (h0 : Sg 76 = none) (hf : Sg 32 = some (F1 gFmt)) (n4 : Sg 77 = none) (bs : List UInt8) (hb : bs.length ≤ 1048576) (L : List Blk) (hgd : GoodD) (hsa : SomeD) (hmu : MutP) : ISpec Tryz.prog 36 [bytesA 0 bs] (L) (fun r L' => ∃ s : ByteArray, s.size ≤ 5000 ∧ r = .str s ∧ L' = L) := by
  refine ISpec.ret Tryz.func36 rfl (vc3_sound Tryz.pf hS hS _ _ _ ?_)
  repeat' (first | with_reducible first | refine kI (by kernel_rfl) ?_ | refine kN (by kernel_rfl) ?_ | (first | refine kB1 ?_ ?_ | refine kB2 ?_ ?_) <;> intro hp | (first | refine kD1 ?_ ?_ | refine kD2 ?_ ?_ | refine kS1 ?_ ?_ | refine kS2 ?_ ?_) <;> intro hp <;> try simp only [hp] | simp -implicitDefEqProofs (disch := omega) only [go_sem, Nat.reduceAdd, Nat.reduceSub, reduceCtorEq, Nat.reduceLT, Nat.reduceLeDiff, Nat.reduceEqDiff, Nat.reduceMul, Int.reduceToNat, ↓reduceIte, List.take_of_length_le, if_pos, if_neg, List.getElem?_set_self, List.set_set, getD_exs, evApp_st0, cnE, cnV, Tryz.ntmps36, Tryz.results36,  n1, opQ_none])
  refine InlK_intro rfl rfl can_newRd ((isp_newReader hS bs hb _).mono ?_)
  rintro r L1 ⟨rfl, rfl⟩
  have hb2 : (bs.take 2000).length ≤ 2000 := by simp; omega
  repeat' (first | with_reducible first | refine kI (by kernel_rfl) ?_ | refine kN (by kernel_rfl) ?_ | (first | refine kB1 ?_ ?_ | refine kB2 ?_ ?_) <;> intro hp | (first | refine kD1 ?_ ?_ | refine kD2 ?_ ?_ | refine kS1 ?_ ?_ | refine kS2 ?_ ?_) <;> intro hp <;> try simp only [hp] | simp -implicitDefEqProofs (disch := omega) only [go_sem, Nat.reduceAdd, Nat.reduceSub, reduceCtorEq, Nat.reduceLT, Nat.reduceLeDiff, Nat.reduceEqDiff, Nat.reduceMul, Int.reduceToNat, ↓reduceIte, List.take_of_length_le, if_pos, if_neg, List.getElem?_set_self, List.set_set, getD_exs, evApp_st0, cnE, cnV, Tryz.ntmps36, Tryz.results36,  n2, opQ_none])
  refine InlK_intro rfl rfl can_goodBuffer ((hgd (RC.new (bs.take 2000) L) hb2 0 (by omega)).mono ?_)
  rintro r L1 ⟨B, p1, hB, rfl, m1, m2, rfl⟩
  repeat' (first | with_reducible first | refine kI (by kernel_rfl) ?_ | refine kN (by kernel_rfl) ?_ | (first | refine kB1 ?_ ?_ | refine kB2 ?_ ?_) <;> intro hp | (first | refine kD1 ?_ ?_ | refine kD2 ?_ ?_ | refine kS1 ?_ ?_ | refine kS2 ?_ ?_) <;> intro hp <;> try simp only [hp] | simp -implicitDefEqProofs (disch := omega) only [go_sem, Nat.reduceAdd, Nat.reduceSub, reduceCtorEq, Nat.reduceLT, Nat.reduceLeDiff, Nat.reduceEqDiff, Nat.reduceMul, Int.reduceToNat, ↓reduceIte, List.take_of_length_le, if_pos, if_neg, List.getElem?_set_self, List.set_set, getD_exs, evApp_st0, cnE, cnV, Tryz.ntmps36, Tryz.results36,  n3, opQ_none])
  refine InlK_intro rfl rfl can_someAct ((hsa (RC.new (bs.take 2000) L) hb2 p1 (by omega) B (bfS_ok hB)).mono ?_)
  rintro r L1 ⟨⟨k, l⟩, p2, ha, rfl, m3, m4, rfl⟩
  have h4 := ned_4 k
  have hl : l.length = nedF k := ha.1.2
  have qf := gFmt_eq (a := ⟨k, l⟩) (by dsimp only; omega)
  have hsz := fmt_size ⟨k, l⟩
  generalize fmtB ⟨k, l⟩ = s at *
  repeat' (first | with_reducible first | refine kI (by kernel_rfl) ?_ | refine kN (by kernel_rfl) ?_ | (first | refine kB1 ?_ ?_ | refine kB2 ?_ ?_) <;> intro hp | (first | refine kD1 ?_ ?_ | refine kD2 ?_ ?_ | refine kS1 ?_ ?_ | refine kS2 ?_ ?_) <;> intro hp <;> try simp only [hp] | simp -implicitDefEqProofs (disch := omega) only [go_sem, Nat.reduceAdd, Nat.reduceSub, reduceCtorEq, Nat.reduceLT, Nat.reduceLeDiff, Nat.reduceEqDiff, Nat.reduceMul, Int.reduceToNat, ↓reduceIte, List.take_of_length_le, if_pos, if_neg, List.getElem?_set_self, List.set_set, getD_exs, evApp_st0, cnE, cnV, Tryz.ntmps36, Tryz.results36,  hf, qf, h0, opQ_none])
  refine InlK_intro rfl rfl can_pick ((isp_pick hS (RC.new (bs.take 2000) L) hb2 p2 (by omega) 3 (by omega)).mono ?_)
  rintro r L1 ⟨ch, rfl, -, -, rfl⟩
  by_cases c0 : ch = 0
  · have c0' : (ch == 0) = true := beq_t c0
    repeat' (first | with_reducible first | refine kI (by kernel_rfl) ?_ | refine kN (by kernel_rfl) ?_ | (first | refine kB1 ?_ ?_ | refine kB2 ?_ ?_) <;> intro hp | (first | refine kD1 ?_ ?_ | refine kD2 ?_ ?_ | refine kS1 ?_ ?_ | refine kS2 ?_ ?_) <;> intro hp <;> try simp only [hp] | simp -implicitDefEqProofs (disch := omega) only [go_sem, Nat.reduceAdd, Nat.reduceSub, reduceCtorEq, Nat.reduceLT, Nat.reduceLeDiff, Nat.reduceEqDiff, Nat.reduceMul, Int.reduceToNat, ↓reduceIte, List.take_of_length_le, if_pos, if_neg, List.getElem?_set_self, List.set_set, getD_exs, evApp_st0, cnE, cnV, Tryz.ntmps36, Tryz.results36,  c0', n4, opQ_none])
    refine InlK_intro rfl rfl can_mutate ((hmu (RC.new (bs.take 2000) L) hb2 _ (by omega) s (by omega)).mono ?_)
    rintro r L1 ⟨v, p3, rfl, hv, m5, m6, rfl⟩
    repeat' (first | with_reducible first | refine kI (by kernel_rfl) ?_ | refine kN (by kernel_rfl) ?_ | (first | refine kB1 ?_ ?_ | refine kB2 ?_ ?_) <;> intro hp | (first | refine kD1 ?_ ?_ | refine kD2 ?_ ?_ | refine kS1 ?_ ?_ | refine kS2 ?_ ?_) <;> intro hp <;> try simp only [hp] | simp -implicitDefEqProofs (disch := omega) only [go_sem, Nat.reduceAdd, Nat.reduceSub, reduceCtorEq, Nat.reduceLT, Nat.reduceLeDiff, Nat.reduceEqDiff, Nat.reduceMul, Int.reduceToNat, ↓reduceIte, List.take_of_length_le, if_pos, if_neg, List.getElem?_set_self, List.set_set, getD_exs, evApp_st0, cnE, cnV, Tryz.ntmps36, Tryz.results36])
    exact RetQ.top ⟨v, by omega, rfl, rfl⟩
  · have c0' : (ch == 0) = false := beq_f c0
    repeat' (first | with_reducible first | refine kI (by kernel_rfl) ?_ | refine kN (by kernel_rfl) ?_ | (first | refine kB1 ?_ ?_ | refine kB2 ?_ ?_) <;> intro hp | (first | refine kD1 ?_ ?_ | refine kD2 ?_ ?_ | refine kS1 ?_ ?_ | refine kS2 ?_ ?_) <;> intro hp <;> try simp only [hp] | simp -implicitDefEqProofs (disch := omega) only [go_sem, Nat.reduceAdd, Nat.reduceSub, reduceCtorEq, Nat.reduceLT, Nat.reduceLeDiff, Nat.reduceEqDiff, Nat.reduceMul, Int.reduceToNat, ↓reduceIte, List.take_of_length_le, if_pos, if_neg, List.getElem?_set_self, List.set_set, getD_exs, evApp_st0, cnE, cnV, Tryz.ntmps36, Tryz.results36,  c0'])
    exact RetQ.top ⟨s, by omega, rfl, rfl⟩
end Go.Proofs.YtkmnepmnjpdpkaaGreatDoor
