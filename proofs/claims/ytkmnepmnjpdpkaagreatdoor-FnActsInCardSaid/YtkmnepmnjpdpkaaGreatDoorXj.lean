/- Contracts of functions that the laws of this seat call. -/
import Derived.Test.YtkmnepmnjpdpkaaGreatDoorXg
import Derived.Test.YtkmnepmnjpdpkaaGreatDoorXi
set_option linter.all false
namespace Go.Proofs.YtkmnepmnjpdpkaaGreatDoor
open Go Go.Ev Go.RowKit Go.Ev.Enc Go.Pl

theorem can_anyAct : CanCall Tryz.prog 65 := ⟨_, Tryz.func65, rfl, rfl⟩
set_option maxHeartbeats 4000000 in
set_option maxRecDepth 100000 in
theorem isp_anyAct {Sg : FuncId → Option (List AV → Option AV)} (hS : Sound Tryz.prog Sg) (h0 : Sg 76 = none) (h1 : Sg 89 = none) (n2 : Sg 74 = none) {bs : List UInt8} {b n : Nat} {rL : Int → List Blk} (hC : RC bs b n rL) (hb : bs.length ≤ 2000) (p : Int) (hp : 0 ≤ p ∧ p ≤ 700000000) (B : Bf) (hB : bfS B) (hact : SomeActL) : ISpec Tryz.prog 65 [.ptr b 1 0 0, bfA 1 B] (rL p) (fun r L' => ∃ (a : Ac) (p' : Int), a.n.length ≤ 5 ∧ r = acA 1 a ∧ p ≤ p' ∧ p' ≤ p + 12 ∧ L' = rL p') := by
  refine ISpec.ret Tryz.func65 rfl (vc3_sound Tryz.pf hS hS _ _ _ ?_)
  repeat' (first | with_reducible first | refine kI (by kernel_rfl) ?_ | refine kN (by kernel_rfl) ?_ | (first | refine kB1 ?_ ?_ | refine kB2 ?_ ?_) <;> intro hp | (first | refine kD1 ?_ ?_ | refine kD2 ?_ ?_ | refine kS1 ?_ ?_ | refine kS2 ?_ ?_) <;> intro hp <;> try simp only [hp] | simp -implicitDefEqProofs (disch := omega) only [go_sem, Nat.reduceAdd, Nat.reduceSub, reduceCtorEq, Nat.reduceLT, Nat.reduceLeDiff, Nat.reduceEqDiff, Nat.reduceMul, Int.reduceToNat, ↓reduceIte, List.take_of_length_le, if_pos, if_neg, List.getElem?_set_self, List.set_set, getD_exs, cnE, cnV, Tryz.ntmps65, Tryz.results65,  hC.cn, n2, opQ_none])
  refine InlK_intro rfl rfl can_someAct ((hact (hC.app _) hb p (by omega) B hB).mono ?_)
  rintro r L1 ⟨⟨k, l⟩, p1, ha, rfl, f1, f2, rfl⟩
  have h4 := ned_4' k
  have hl : l.length = nedF k := ha.1.2
  have hl1 : 0 < l.length := by have := ned_1 k; omega
  dsimp only
  repeat' (first | with_reducible first | refine kI (by kernel_rfl) ?_ | refine kN (by kernel_rfl) ?_ | (first | refine kB1 ?_ ?_ | refine kB2 ?_ ?_) <;> intro hp | (first | refine kD1 ?_ ?_ | refine kD2 ?_ ?_ | refine kS1 ?_ ?_ | refine kS2 ?_ ?_) <;> intro hp <;> try simp only [hp] | simp -implicitDefEqProofs (disch := omega) only [go_sem, Nat.reduceAdd, Nat.reduceSub, reduceCtorEq, Nat.reduceLT, Nat.reduceLeDiff, Nat.reduceEqDiff, Nat.reduceMul, Int.reduceToNat, ↓reduceIte, List.take_of_length_le, if_pos, if_neg, List.getElem?_set_self, List.set_set, getD_exs, cnE, cnV, Tryz.ntmps65, Tryz.results65,  hC.cn, h0, opQ_none])
  refine InlK_intro rfl rfl can_pick ((isp_pick hS (hC.app _) hb p1 (by omega) 16 (by omega)).mono ?_)
  rintro r L1 ⟨ch, rfl, -, -, rfl⟩
  by_cases c0 : ch = 0
  · have c0' : (ch == 0) = true := beq_t c0
    repeat' (first | with_reducible first | refine kI (by kernel_rfl) ?_ | refine kN (by kernel_rfl) ?_ | (first | refine kB1 ?_ ?_ | refine kB2 ?_ ?_) <;> intro hp | (first | refine kD1 ?_ ?_ | refine kD2 ?_ ?_ | refine kS1 ?_ ?_ | refine kS2 ?_ ?_) <;> intro hp <;> try simp only [hp] | simp -implicitDefEqProofs (disch := omega) only [go_sem, Nat.reduceAdd, Nat.reduceSub, reduceCtorEq, Nat.reduceLT, Nat.reduceLeDiff, Nat.reduceEqDiff, Nat.reduceMul, Int.reduceToNat, ↓reduceIte, List.take_of_length_le, if_pos, if_neg, List.getElem?_set_self, List.set_set, getD_exs, cnE, cnV, Tryz.ntmps65, Tryz.results65,  hC.cn, c0', h1, opQ_none])
    refine InlK_intro rfl rfl can_one ((isp_one hS h0 (hC.app _) hb _ (by omega) 2 [-1, 8, 1] (by decide)).mono ?_)
    rintro r L1 ⟨z, rfl, hz, rfl⟩
    repeat' (first | with_reducible first | refine kI (by kernel_rfl) ?_ | refine kN (by kernel_rfl) ?_ | (first | refine kB1 ?_ ?_ | refine kB2 ?_ ?_) <;> intro hp | (first | refine kD1 ?_ ?_ | refine kD2 ?_ ?_ | refine kS1 ?_ ?_ | refine kS2 ?_ ?_) <;> intro hp <;> try simp only [hp] | simp -implicitDefEqProofs (disch := omega) only [go_sem, Nat.reduceAdd, Nat.reduceSub, reduceCtorEq, Nat.reduceLT, Nat.reduceLeDiff, Nat.reduceEqDiff, Nat.reduceMul, Int.reduceToNat, ↓reduceIte, List.take_of_length_le, if_pos, if_neg, List.getElem?_set_self, List.set_set, getD_exs, cnE, cnV, Tryz.ntmps65, Tryz.results65,  hC.cn, c0'])
    refine hC.ret0 ⟨⟨z, l⟩, _, ?_, ?_, ?_, ?_, rfl⟩
    · dsimp only; omega
    · simp -implicitDefEqProofs only [selV_agg, List.map_cons, List.map_nil, selC_sl, selC_int, Go.Ev.gR_ge, selSl_none, hC.at', List.getElem?_cons_succ, List.getElem?_cons_zero, selF_ints]
    · omega
    · omega
  · have c0' : (ch == 0) = false := beq_f c0
    by_cases c1 : ch = 1
    · have c1' : (ch == 1) = true := beq_t c1
      have ea := fun (q : Int) (A A' D : Blk) => evApp_int (L := rL q ++ [A, A', stB l, D]) (b := n + 2) (n := l.length) (by' := 8) (q := l) (x := 1) (by rw [hC.at']; rfl) rfl (by omega) (by omega)
      have hl2 : (l ++ [1]).length = l.length + 1 := by simp
      repeat' (first | with_reducible first | refine kI (by kernel_rfl) ?_ | refine kN (by kernel_rfl) ?_ | (first | refine kB1 ?_ ?_ | refine kB2 ?_ ?_) <;> intro hp | (first | refine kD1 ?_ ?_ | refine kD2 ?_ ?_ | refine kS1 ?_ ?_ | refine kS2 ?_ ?_) <;> intro hp <;> try simp only [hp] | simp -implicitDefEqProofs (disch := omega) only [go_sem, Nat.reduceAdd, Nat.reduceSub, reduceCtorEq, Nat.reduceLT, Nat.reduceLeDiff, Nat.reduceEqDiff, Nat.reduceMul, Int.reduceToNat, ↓reduceIte, List.take_of_length_le, if_pos, if_neg, List.getElem?_set_self, List.set_set, getD_exs, cnE, cnV, Tryz.ntmps65, Tryz.results65,  hC.cn, c0', c1', ea])
      refine hC.ret0 ⟨⟨k, l ++ [1]⟩, _, ?_, ?_, ?_, ?_, rfl⟩
      · dsimp only; omega
      · simp -implicitDefEqProofs only [selV_agg, List.map_cons, List.map_nil, selC_sl, selC_int, Go.Ev.gR_ge, selSl_none, hC.at', List.getElem?_cons_succ, List.getElem?_cons_zero, ← hl2, selF_ints]
      · omega
      · omega
    · have c1' : (ch == 1) = false := beq_f c1
      by_cases c2 : ch = 2
      · have c2' : (ch == 2) = true := beq_t c2
        repeat' (first | with_reducible first | refine kI (by kernel_rfl) ?_ | (first | refine kB1 ?_ ?_ | refine kB2 ?_ ?_) <;> intro hp | (first | refine kD1 ?_ ?_ | refine kD2 ?_ ?_ | refine kS1 ?_ ?_ | refine kS2 ?_ ?_) <;> intro hp <;> try simp only [hp] | simp -implicitDefEqProofs (disch := omega) only [go_sem, Nat.reduceAdd, Nat.reduceSub, reduceCtorEq, Nat.reduceLT, Nat.reduceLeDiff, Nat.reduceEqDiff, Nat.reduceMul, Int.reduceToNat, ↓reduceIte, List.take_of_length_le, if_pos, if_neg, List.getElem?_set_self, List.set_set, getD_exs, cnE, cnV, Tryz.ntmps65, Tryz.results65,  hC.cn, c0', c1', c2'])
        refine DrawQ.any [([0, 1, 2, 3], 4), ([5], 6)] [] [0, 1] (by kernel_rfl) ?_
        repeat' (first | with_reducible first | refine kI (by kernel_rfl) ?_ | (first | refine kB1 ?_ ?_ | refine kB2 ?_ ?_) <;> intro hp | (first | refine kD1 ?_ ?_ | refine kD2 ?_ ?_ | refine kS1 ?_ ?_ | refine kS2 ?_ ?_) <;> intro hp <;> try simp only [hp] | simp -implicitDefEqProofs (disch := omega) only [go_sem, Nat.reduceAdd, Nat.reduceSub, reduceCtorEq, Nat.reduceLT, Nat.reduceLeDiff, Nat.reduceEqDiff, Nat.reduceMul, Int.reduceToNat, ↓reduceIte, List.take_of_length_le, if_pos, if_neg, List.getElem?_set_self, List.set_set, getD_exs, cnE, cnV, Tryz.ntmps65, Tryz.results65,  hC.cn, h1, opQ_none])
        refine InlK_intro rfl rfl can_one ((isp_one hS h0 (hC.app _) hb _ (by omega) 2 [-101, 101, -1, 100] (by decide)).mono ?_)
        rintro r L1 ⟨z, rfl, hz, rfl⟩
        repeat' (first | with_reducible first | refine kI (by kernel_rfl) ?_ | (first | refine kB1 ?_ ?_ | refine kB2 ?_ ?_) <;> intro hp | (first | refine kD1 ?_ ?_ | refine kD2 ?_ ?_ | refine kS1 ?_ ?_ | refine kS2 ?_ ?_) <;> intro hp <;> try simp only [hp] | simp -implicitDefEqProofs (disch := omega) only [go_sem, Nat.reduceAdd, Nat.reduceSub, reduceCtorEq, Nat.reduceLT, Nat.reduceLeDiff, Nat.reduceEqDiff, Nat.reduceMul, Int.reduceToNat, ↓reduceIte, List.take_of_length_le, if_pos, if_neg, List.getElem?_set_self, List.set_set, getD_exs, cnE, cnV, Tryz.ntmps65, Tryz.results65,  hC.cn, hl1])
        refine hC.ret0 ⟨⟨k, l.set 0 z⟩, _, ?_, ?_, ?_, ?_, rfl⟩
        · dsimp only; rw [List.length_set]; omega
        · have hl2 : (l.set 0 z).length = l.length := List.length_set
          simp -implicitDefEqProofs only [selV_agg, List.map_cons, List.map_nil, selC_sl, selC_int, Go.Ev.gR_ge, selSl_none, hC.at', List.getElem?_cons_succ, List.getElem?_cons_zero, ← hl2, selF_ints]
        · omega
        · omega
      · have c2' : (ch == 2) = false := beq_f c2
        repeat' (first | with_reducible first | refine kI (by kernel_rfl) ?_ | refine kN (by kernel_rfl) ?_ | (first | refine kB1 ?_ ?_ | refine kB2 ?_ ?_) <;> intro hp | (first | refine kD1 ?_ ?_ | refine kD2 ?_ ?_ | refine kS1 ?_ ?_ | refine kS2 ?_ ?_) <;> intro hp <;> try simp only [hp] | simp -implicitDefEqProofs (disch := omega) only [go_sem, Nat.reduceAdd, Nat.reduceSub, reduceCtorEq, Nat.reduceLT, Nat.reduceLeDiff, Nat.reduceEqDiff, Nat.reduceMul, Int.reduceToNat, ↓reduceIte, List.take_of_length_le, if_pos, if_neg, List.getElem?_set_self, List.set_set, getD_exs, cnE, cnV, Tryz.ntmps65, Tryz.results65,  hC.cn, c0', c1', c2'])
        refine hC.ret0 ⟨⟨k, l⟩, _, ?_, ?_, ?_, ?_, rfl⟩
        · dsimp only; omega
        · simp -implicitDefEqProofs only [selV_agg, List.map_cons, List.map_nil, selC_sl, selC_int, Go.Ev.gR_ge, selSl_none, hC.at', List.getElem?_cons_succ, List.getElem?_cons_zero, selF_ints]
        · omega
        · omega
def AnyAct : Prop := ∀ {bs : List UInt8} {b n : Nat} {rL : Int → List Blk} (hC : RC bs b n rL) (hb : bs.length ≤ 2000) (p : Int) (hp : 0 ≤ p ∧ p ≤ 700000000) (B : Bf) (hB : bfS B), ISpec Tryz.prog 65 [.ptr b 1 0 0, bfA 1 B] (rL p) fun r L' => ∃ (a : Ac) (p' : Int), a.n.length ≤ 5 ∧ r = acA 1 a ∧ p ≤ p' ∧ p' ≤ p + 12 ∧ L' = rL p'
end Go.Proofs.YtkmnepmnjpdpkaaGreatDoor
