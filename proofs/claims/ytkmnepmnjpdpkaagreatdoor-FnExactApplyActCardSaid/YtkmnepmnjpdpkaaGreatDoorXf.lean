/- Contracts of functions that the laws of this seat call. -/
import Derived.Test.YtkmnepmnjpdpkaaGreatDoorXe
set_option linter.all false
namespace Go.Proofs.YtkmnepmnjpdpkaaGreatDoor
open Go Go.Ev Go.RowKit Go.Ev.Enc Go.Pl

def doneKd (lo : Nat) (M : List Blk) (B : Bf) (a : Ac) (r : AV) (L : List Blk) : Prop :=
  match doneO B a with
  | none => ∃ x y Y, r = .tup [.agg [x, y], .bool false] ∧ (x.isCell = true ∧ y.isCell = true) ∧ L = M ++ Y
  | some B' => ∃ x Y, r = .tup [x, .bool true] ∧ L = M ++ Y ∧ (a.k = 6 → x = bfA 0 B) ∧ (a.k ≠ 6 → BR lo (M ++ Y) x B')
set_option maxHeartbeats 4000000 in
set_option maxRecDepth 100000 in
theorem isp_doneD {Sg : FuncId → Option (List AV → Option AV)} (hS : Sound Tryz.prog Sg) (ho : Sg 142 = some (F2 gOpnS)) (n_rsz : Sg 136 = none) (n_exv : Sg 137 = none) (n_exp : Sg 138 = none) (n_fil : Sg 139 = none) (n_cpy : Sg 140 = none) (n_rel : Sg 141 = none) (hq : SpB) (B : Bf) (hB : bufOK B = true) (a : Ac) (ha : actN a) (t : Nat) (lo : Nat) (M : List Blk) (hlo : lo ≤ M.length) : ISpec Tryz.prog 102 [bfA 0 B, .agg [i64 a.k, ints t a.n]] M (doneKd lo M B a) := by
  refine ISpec.intro Tryz.func102 rfl (vc3_sound Tryz.pf hS hS _ _ _ ?_)
  have hbb := bfB_of hB
  have htk : ∀ (Y : List Blk) (k : Nat), (M ++ Y).take (M.length + k) = M ++ Y.take k := fun Y k => List.take_length_add_append k
  obtain ⟨k, n⟩ := a
  obtain ⟨⟨k0, k7⟩, hn⟩ := ha
  simp only at k0 k7 hn
  unfold doneKd
  dsimp only
  by_cases hk0 : k = 0
  · subst hk0
    obtain ⟨n0, rfl⟩ := list1 hn
    have ho' : doneO B ⟨0, [n0]⟩ = rszXO B n0 := rfl
    rw [ho']
    have hc := hq.rsz B n0 hbb
    cases e : rszXO B n0 with
    | none =>
      rw [e] at hc
      repeat' (first | with_reducible first | refine kI (by kernel_rfl) ?_ | (first | refine kB1 ?_ ?_ | refine kB2 ?_ ?_) <;> intro hp | (first | refine kD1 ?_ ?_ | refine kD2 ?_ ?_ | refine kS1 ?_ ?_ | refine kS2 ?_ ?_) <;> intro hp <;> try simp only [hp] | simp -implicitDefEqProofs (disch := omega) only [go_sem, Nat.reduceAdd, Nat.reduceSub, reduceCtorEq, Nat.reduceLT, Nat.reduceLeDiff, Nat.reduceEqDiff, Nat.reduceMul, Int.reduceToNat, ↓reduceIte, List.take_of_length_le, if_pos, if_neg, List.getElem?_set_self, List.set_set, getD_exs, cnE, cnV, Tryz.ntmps102, Tryz.results102])
      refine DrawQ.any [([0, 1, 2, 3], 4), ([5, 6], 7)] [8] [] (by kernel_rfl) ?_
      repeat' (first | with_reducible first | refine kI (by kernel_rfl) ?_ | (first | refine kB1 ?_ ?_ | refine kB2 ?_ ?_) <;> intro hp | (first | refine kD1 ?_ ?_ | refine kD2 ?_ ?_ | refine kS1 ?_ ?_ | refine kS2 ?_ ?_) <;> intro hp <;> try simp only [hp] | simp -implicitDefEqProofs (disch := omega) only [go_sem, Nat.reduceAdd, Nat.reduceSub, reduceCtorEq, Nat.reduceLT, Nat.reduceLeDiff, Nat.reduceEqDiff, Nat.reduceMul, Int.reduceToNat, ↓reduceIte, List.take_of_length_le, if_pos, if_neg, List.getElem?_set_self, List.set_set, getD_exs, cnE, cnV, Tryz.ntmps102, Tryz.results102,  n_rsz, opQ_none])
      refine InlK_intro rfl rfl can_ResizeBufferS (hc.call (by simp -implicitDefEqProofs (disch := omega) only [go_sem, ints, flipS, List.take_of_length_le]) ?_)
      simp only [bbR, bbN]
      repeat' (first | with_reducible first | refine kI (by kernel_rfl) ?_ | (first | refine kB1 ?_ ?_ | refine kB2 ?_ ?_) <;> intro hp | (first | refine kD1 ?_ ?_ | refine kD2 ?_ ?_ | refine kS1 ?_ ?_ | refine kS2 ?_ ?_) <;> intro hp <;> try simp only [hp] | simp -implicitDefEqProofs (disch := omega) only [go_sem, Nat.reduceAdd, Nat.reduceSub, reduceCtorEq, Nat.reduceLT, Nat.reduceLeDiff, Nat.reduceEqDiff, Nat.reduceMul, Int.reduceToNat, ↓reduceIte, List.take_of_length_le, if_pos, if_neg, List.getElem?_set_self, List.set_set, getD_exs, cnE, cnV, Tryz.ntmps102, Tryz.results102])
      exact ⟨_, _, _, rfl, ⟨rfl, rfl⟩, rfl⟩
    | some B' =>
      rw [e] at hc
      repeat' (first | with_reducible first | refine kI (by kernel_rfl) ?_ | (first | refine kB1 ?_ ?_ | refine kB2 ?_ ?_) <;> intro hp | (first | refine kD1 ?_ ?_ | refine kD2 ?_ ?_ | refine kS1 ?_ ?_ | refine kS2 ?_ ?_) <;> intro hp <;> try simp only [hp] | simp -implicitDefEqProofs (disch := omega) only [go_sem, Nat.reduceAdd, Nat.reduceSub, reduceCtorEq, Nat.reduceLT, Nat.reduceLeDiff, Nat.reduceEqDiff, Nat.reduceMul, Int.reduceToNat, ↓reduceIte, List.take_of_length_le, if_pos, if_neg, List.getElem?_set_self, List.set_set, getD_exs, cnE, cnV, Tryz.ntmps102, Tryz.results102])
      refine DrawQ.any [([0, 1, 2, 3], 4), ([5, 6], 7)] [8] [] (by kernel_rfl) ?_
      repeat' (first | with_reducible first | refine kI (by kernel_rfl) ?_ | (first | refine kB1 ?_ ?_ | refine kB2 ?_ ?_) <;> intro hp | (first | refine kD1 ?_ ?_ | refine kD2 ?_ ?_ | refine kS1 ?_ ?_ | refine kS2 ?_ ?_) <;> intro hp <;> try simp only [hp] | simp -implicitDefEqProofs (disch := omega) only [go_sem, Nat.reduceAdd, Nat.reduceSub, reduceCtorEq, Nat.reduceLT, Nat.reduceLeDiff, Nat.reduceEqDiff, Nat.reduceMul, Int.reduceToNat, ↓reduceIte, List.take_of_length_le, if_pos, if_neg, List.getElem?_set_self, List.set_set, getD_exs, cnE, cnV, Tryz.ntmps102, Tryz.results102,  n_rsz, opQ_none])
      refine InlK_intro rfl rfl can_ResizeBufferS (hc.call (by simp -implicitDefEqProofs (disch := omega) only [go_sem, ints, flipS, List.take_of_length_le]) ?_)
      simp only [bbR, bbN]
      repeat' (first | with_reducible first | refine kI (by kernel_rfl) ?_ | (first | refine kB1 ?_ ?_ | refine kB2 ?_ ?_) <;> intro hp | (first | refine kD1 ?_ ?_ | refine kD2 ?_ ?_ | refine kS1 ?_ ?_ | refine kS2 ?_ ?_) <;> intro hp <;> try simp only [hp] | simp -implicitDefEqProofs (disch := omega) only [go_sem, Nat.reduceAdd, Nat.reduceSub, reduceCtorEq, Nat.reduceLT, Nat.reduceLeDiff, Nat.reduceEqDiff, Nat.reduceMul, Int.reduceToNat, ↓reduceIte, List.take_of_length_le, if_pos, if_neg, List.getElem?_set_self, List.set_set, getD_exs, cnE, cnV, Tryz.ntmps102, Tryz.results102])
      exact ⟨by omega, _, _, rfl, rfl, fun h => absurd h (by decide), fun _ => own_at M [_, _, _] B' hlo⟩
  by_cases hk1 : k = 1
  · subst hk1
    obtain ⟨n0, n1, n2, rfl⟩ := list3 hn
    have ho' : doneO B ⟨1, [n0, n1, n2]⟩ = expVO B ⟨n0, [n1], [n2]⟩ := rfl
    rw [ho']
    have hc := hq.exv B ⟨n0, [n1], [n2]⟩ ⟨hbb, (show 1 < 4294967296 by decide), (show 1 < 4294967296 by decide)⟩
    cases e : expVO B ⟨n0, [n1], [n2]⟩ with
    | none =>
      rw [e] at hc
      repeat' (first | with_reducible first | refine kI (by kernel_rfl) ?_ | (first | refine kB1 ?_ ?_ | refine kB2 ?_ ?_) <;> intro hp | (first | refine kD1 ?_ ?_ | refine kD2 ?_ ?_ | refine kS1 ?_ ?_ | refine kS2 ?_ ?_) <;> intro hp <;> try simp only [hp] | simp -implicitDefEqProofs (disch := omega) only [go_sem, Nat.reduceAdd, Nat.reduceSub, reduceCtorEq, Nat.reduceLT, Nat.reduceLeDiff, Nat.reduceEqDiff, Nat.reduceMul, Int.reduceToNat, ↓reduceIte, List.take_of_length_le, if_pos, if_neg, List.getElem?_set_self, List.set_set, getD_exs, cnE, cnV, Tryz.ntmps102, Tryz.results102])
      refine DrawQ.any [([0, 1, 2, 3, 4, 5, 6, 7, 8, 9, 10, 11, 12], 13), ([14, 15], 16)] [17] [] (by kernel_rfl) ?_
      repeat' (first | with_reducible first | refine kI (by kernel_rfl) ?_ | (first | refine kB1 ?_ ?_ | refine kB2 ?_ ?_) <;> intro hp | (first | refine kD1 ?_ ?_ | refine kD2 ?_ ?_ | refine kS1 ?_ ?_ | refine kS2 ?_ ?_) <;> intro hp <;> try simp only [hp] | simp -implicitDefEqProofs (disch := omega) only [go_sem, Nat.reduceAdd, Nat.reduceSub, reduceCtorEq, Nat.reduceLT, Nat.reduceLeDiff, Nat.reduceEqDiff, Nat.reduceMul, Int.reduceToNat, ↓reduceIte, List.take_of_length_le, if_pos, if_neg, List.getElem?_set_self, List.set_set, getD_exs, cnE, cnV, Tryz.ntmps102, Tryz.results102,  n_exv, opQ_none])
      refine InlK_intro rfl rfl can_ExportViewS (hc.call (by simp -implicitDefEqProofs (disch := omega) only [go_sem, ints, flipS, List.take_of_length_le]) ?_)
      simp only [bbR, bbN]
      repeat' (first | with_reducible first | refine kI (by kernel_rfl) ?_ | (first | refine kB1 ?_ ?_ | refine kB2 ?_ ?_) <;> intro hp | (first | refine kD1 ?_ ?_ | refine kD2 ?_ ?_ | refine kS1 ?_ ?_ | refine kS2 ?_ ?_) <;> intro hp <;> try simp only [hp] | simp -implicitDefEqProofs (disch := omega) only [go_sem, Nat.reduceAdd, Nat.reduceSub, reduceCtorEq, Nat.reduceLT, Nat.reduceLeDiff, Nat.reduceEqDiff, Nat.reduceMul, Int.reduceToNat, ↓reduceIte, List.take_of_length_le, if_pos, if_neg, List.getElem?_set_self, List.set_set, getD_exs, cnE, cnV, Tryz.ntmps102, Tryz.results102])
      exact ⟨_, _, _, rfl, ⟨rfl, rfl⟩, rfl⟩
    | some B' =>
      rw [e] at hc
      repeat' (first | with_reducible first | refine kI (by kernel_rfl) ?_ | (first | refine kB1 ?_ ?_ | refine kB2 ?_ ?_) <;> intro hp | (first | refine kD1 ?_ ?_ | refine kD2 ?_ ?_ | refine kS1 ?_ ?_ | refine kS2 ?_ ?_) <;> intro hp <;> try simp only [hp] | simp -implicitDefEqProofs (disch := omega) only [go_sem, Nat.reduceAdd, Nat.reduceSub, reduceCtorEq, Nat.reduceLT, Nat.reduceLeDiff, Nat.reduceEqDiff, Nat.reduceMul, Int.reduceToNat, ↓reduceIte, List.take_of_length_le, if_pos, if_neg, List.getElem?_set_self, List.set_set, getD_exs, cnE, cnV, Tryz.ntmps102, Tryz.results102])
      refine DrawQ.any [([0, 1, 2, 3, 4, 5, 6, 7, 8, 9, 10, 11, 12], 13), ([14, 15], 16)] [17] [] (by kernel_rfl) ?_
      repeat' (first | with_reducible first | refine kI (by kernel_rfl) ?_ | (first | refine kB1 ?_ ?_ | refine kB2 ?_ ?_) <;> intro hp | (first | refine kD1 ?_ ?_ | refine kD2 ?_ ?_ | refine kS1 ?_ ?_ | refine kS2 ?_ ?_) <;> intro hp <;> try simp only [hp] | simp -implicitDefEqProofs (disch := omega) only [go_sem, Nat.reduceAdd, Nat.reduceSub, reduceCtorEq, Nat.reduceLT, Nat.reduceLeDiff, Nat.reduceEqDiff, Nat.reduceMul, Int.reduceToNat, ↓reduceIte, List.take_of_length_le, if_pos, if_neg, List.getElem?_set_self, List.set_set, getD_exs, cnE, cnV, Tryz.ntmps102, Tryz.results102,  n_exv, opQ_none])
      refine InlK_intro rfl rfl can_ExportViewS (hc.call (by simp -implicitDefEqProofs (disch := omega) only [go_sem, ints, flipS, List.take_of_length_le]) ?_)
      simp only [bbR, bbN]
      repeat' (first | with_reducible first | refine kI (by kernel_rfl) ?_ | (first | refine kB1 ?_ ?_ | refine kB2 ?_ ?_) <;> intro hp | (first | refine kD1 ?_ ?_ | refine kD2 ?_ ?_ | refine kS1 ?_ ?_ | refine kS2 ?_ ?_) <;> intro hp <;> try simp only [hp] | simp -implicitDefEqProofs (disch := omega) only [go_sem, Nat.reduceAdd, Nat.reduceSub, reduceCtorEq, Nat.reduceLT, Nat.reduceLeDiff, Nat.reduceEqDiff, Nat.reduceMul, Int.reduceToNat, ↓reduceIte, List.take_of_length_le, if_pos, if_neg, List.getElem?_set_self, List.set_set, getD_exs, cnE, cnV, Tryz.ntmps102, Tryz.results102])
      exact ⟨by omega, _, _, rfl, rfl, fun h => absurd h (by decide), fun _ => own_at M [_, _, _] B' hlo⟩
  by_cases hk2 : k = 2
  · subst hk2
    obtain ⟨n0, n1, n2, n3, rfl⟩ := list4 hn
    have ho' : doneO B ⟨2, [n0, n1, n2, n3]⟩ = expPO B n0 0 ⟨n1, n2, n3, true, true⟩ := rfl
    rw [ho']
    have hc := hq.exp B n0 0 ⟨n1, n2, n3, true, true⟩ hbb
    cases e : expPO B n0 0 ⟨n1, n2, n3, true, true⟩ with
    | none =>
      rw [e] at hc
      repeat' (first | with_reducible first | refine kI (by kernel_rfl) ?_ | (first | refine kB1 ?_ ?_ | refine kB2 ?_ ?_) <;> intro hp | (first | refine kD1 ?_ ?_ | refine kD2 ?_ ?_ | refine kS1 ?_ ?_ | refine kS2 ?_ ?_) <;> intro hp <;> try simp only [hp] | simp -implicitDefEqProofs (disch := omega) only [go_sem, Nat.reduceAdd, Nat.reduceSub, reduceCtorEq, Nat.reduceLT, Nat.reduceLeDiff, Nat.reduceEqDiff, Nat.reduceMul, Int.reduceToNat, ↓reduceIte, List.take_of_length_le, if_pos, if_neg, List.getElem?_set_self, List.set_set, getD_exs, cnE, cnV, Tryz.ntmps102, Tryz.results102])
      refine DrawQ.any [([0, 1, 2, 3, 4, 5, 6, 7, 8, 9, 10, 11, 12, 13], 14), ([15, 16], 17)] [18] [] (by kernel_rfl) ?_
      repeat' (first | with_reducible first | refine kI (by kernel_rfl) ?_ | (first | refine kB1 ?_ ?_ | refine kB2 ?_ ?_) <;> intro hp | (first | refine kD1 ?_ ?_ | refine kD2 ?_ ?_ | refine kS1 ?_ ?_ | refine kS2 ?_ ?_) <;> intro hp <;> try simp only [hp] | simp -implicitDefEqProofs (disch := omega) only [go_sem, Nat.reduceAdd, Nat.reduceSub, reduceCtorEq, Nat.reduceLT, Nat.reduceLeDiff, Nat.reduceEqDiff, Nat.reduceMul, Int.reduceToNat, ↓reduceIte, List.take_of_length_le, if_pos, if_neg, List.getElem?_set_self, List.set_set, getD_exs, cnE, cnV, Tryz.ntmps102, Tryz.results102,  n_exp, opQ_none])
      refine InlK_intro rfl rfl can_ExportPartS (hc.call (by simp -implicitDefEqProofs (disch := omega) only [go_sem, ints, flipS, List.take_of_length_le]) ?_)
      simp only [bbR, bbN]
      repeat' (first | with_reducible first | refine kI (by kernel_rfl) ?_ | (first | refine kB1 ?_ ?_ | refine kB2 ?_ ?_) <;> intro hp | (first | refine kD1 ?_ ?_ | refine kD2 ?_ ?_ | refine kS1 ?_ ?_ | refine kS2 ?_ ?_) <;> intro hp <;> try simp only [hp] | simp -implicitDefEqProofs (disch := omega) only [go_sem, Nat.reduceAdd, Nat.reduceSub, reduceCtorEq, Nat.reduceLT, Nat.reduceLeDiff, Nat.reduceEqDiff, Nat.reduceMul, Int.reduceToNat, ↓reduceIte, List.take_of_length_le, if_pos, if_neg, List.getElem?_set_self, List.set_set, getD_exs, cnE, cnV, Tryz.ntmps102, Tryz.results102])
      exact ⟨_, _, _, rfl, ⟨rfl, rfl⟩, rfl⟩
    | some B' =>
      rw [e] at hc
      repeat' (first | with_reducible first | refine kI (by kernel_rfl) ?_ | (first | refine kB1 ?_ ?_ | refine kB2 ?_ ?_) <;> intro hp | (first | refine kD1 ?_ ?_ | refine kD2 ?_ ?_ | refine kS1 ?_ ?_ | refine kS2 ?_ ?_) <;> intro hp <;> try simp only [hp] | simp -implicitDefEqProofs (disch := omega) only [go_sem, Nat.reduceAdd, Nat.reduceSub, reduceCtorEq, Nat.reduceLT, Nat.reduceLeDiff, Nat.reduceEqDiff, Nat.reduceMul, Int.reduceToNat, ↓reduceIte, List.take_of_length_le, if_pos, if_neg, List.getElem?_set_self, List.set_set, getD_exs, cnE, cnV, Tryz.ntmps102, Tryz.results102])
      refine DrawQ.any [([0, 1, 2, 3, 4, 5, 6, 7, 8, 9, 10, 11, 12, 13], 14), ([15, 16], 17)] [18] [] (by kernel_rfl) ?_
      repeat' (first | with_reducible first | refine kI (by kernel_rfl) ?_ | (first | refine kB1 ?_ ?_ | refine kB2 ?_ ?_) <;> intro hp | (first | refine kD1 ?_ ?_ | refine kD2 ?_ ?_ | refine kS1 ?_ ?_ | refine kS2 ?_ ?_) <;> intro hp <;> try simp only [hp] | simp -implicitDefEqProofs (disch := omega) only [go_sem, Nat.reduceAdd, Nat.reduceSub, reduceCtorEq, Nat.reduceLT, Nat.reduceLeDiff, Nat.reduceEqDiff, Nat.reduceMul, Int.reduceToNat, ↓reduceIte, List.take_of_length_le, if_pos, if_neg, List.getElem?_set_self, List.set_set, getD_exs, cnE, cnV, Tryz.ntmps102, Tryz.results102,  n_exp, opQ_none])
      refine InlK_intro rfl rfl can_ExportPartS (hc.call (by simp -implicitDefEqProofs (disch := omega) only [go_sem, ints, flipS, List.take_of_length_le]) ?_)
      simp only [bbR, bbN]
      repeat' (first | with_reducible first | refine kI (by kernel_rfl) ?_ | (first | refine kB1 ?_ ?_ | refine kB2 ?_ ?_) <;> intro hp | (first | refine kD1 ?_ ?_ | refine kD2 ?_ ?_ | refine kS1 ?_ ?_ | refine kS2 ?_ ?_) <;> intro hp <;> try simp only [hp] | simp -implicitDefEqProofs (disch := omega) only [go_sem, Nat.reduceAdd, Nat.reduceSub, reduceCtorEq, Nat.reduceLT, Nat.reduceLeDiff, Nat.reduceEqDiff, Nat.reduceMul, Int.reduceToNat, ↓reduceIte, List.take_of_length_le, if_pos, if_neg, List.getElem?_set_self, List.set_set, getD_exs, cnE, cnV, Tryz.ntmps102, Tryz.results102])
      exact ⟨by omega, _, _, rfl, rfl, fun h => absurd h (by decide), fun _ => own_at M [_, _, _] B' hlo⟩
  by_cases hk3 : k = 3
  · subst hk3
    obtain ⟨n0, rfl⟩ := list1 hn
    have ho' : doneO B ⟨3, [n0]⟩ = expPO B n0 0 flipS := rfl
    rw [ho']
    have hc := hq.exp B n0 0 flipS hbb
    cases e : expPO B n0 0 flipS with
    | none =>
      rw [e] at hc
      repeat' (first | with_reducible first | refine kI (by kernel_rfl) ?_ | (first | refine kB1 ?_ ?_ | refine kB2 ?_ ?_) <;> intro hp | (first | refine kD1 ?_ ?_ | refine kD2 ?_ ?_ | refine kS1 ?_ ?_ | refine kS2 ?_ ?_) <;> intro hp <;> try simp only [hp] | simp -implicitDefEqProofs (disch := omega) only [go_sem, Nat.reduceAdd, Nat.reduceSub, reduceCtorEq, Nat.reduceLT, Nat.reduceLeDiff, Nat.reduceEqDiff, Nat.reduceMul, Int.reduceToNat, ↓reduceIte, List.take_of_length_le, if_pos, if_neg, List.getElem?_set_self, List.set_set, getD_exs, cnE, cnV, Tryz.ntmps102, Tryz.results102])
      refine DrawQ.any [([0, 1, 2, 3, 4], 5), ([6, 7], 8)] [9] [] (by kernel_rfl) ?_
      repeat' (first | with_reducible first | refine kI (by kernel_rfl) ?_ | (first | refine kB1 ?_ ?_ | refine kB2 ?_ ?_) <;> intro hp | (first | refine kD1 ?_ ?_ | refine kD2 ?_ ?_ | refine kS1 ?_ ?_ | refine kS2 ?_ ?_) <;> intro hp <;> try simp only [hp] | simp -implicitDefEqProofs (disch := omega) only [go_sem, Nat.reduceAdd, Nat.reduceSub, reduceCtorEq, Nat.reduceLT, Nat.reduceLeDiff, Nat.reduceEqDiff, Nat.reduceMul, Int.reduceToNat, ↓reduceIte, List.take_of_length_le, if_pos, if_neg, List.getElem?_set_self, List.set_set, getD_exs, cnE, cnV, Tryz.ntmps102, Tryz.results102,  n_exp, opQ_none])
      refine InlK_intro rfl rfl can_ExportPartS (hc.call (by simp -implicitDefEqProofs (disch := omega) only [go_sem, ints, flipS, List.take_of_length_le]) ?_)
      simp only [bbR, bbN]
      repeat' (first | with_reducible first | refine kI (by kernel_rfl) ?_ | (first | refine kB1 ?_ ?_ | refine kB2 ?_ ?_) <;> intro hp | (first | refine kD1 ?_ ?_ | refine kD2 ?_ ?_ | refine kS1 ?_ ?_ | refine kS2 ?_ ?_) <;> intro hp <;> try simp only [hp] | simp -implicitDefEqProofs (disch := omega) only [go_sem, Nat.reduceAdd, Nat.reduceSub, reduceCtorEq, Nat.reduceLT, Nat.reduceLeDiff, Nat.reduceEqDiff, Nat.reduceMul, Int.reduceToNat, ↓reduceIte, List.take_of_length_le, if_pos, if_neg, List.getElem?_set_self, List.set_set, getD_exs, cnE, cnV, Tryz.ntmps102, Tryz.results102])
      exact ⟨_, _, _, rfl, ⟨rfl, rfl⟩, rfl⟩
    | some B' =>
      rw [e] at hc
      repeat' (first | with_reducible first | refine kI (by kernel_rfl) ?_ | (first | refine kB1 ?_ ?_ | refine kB2 ?_ ?_) <;> intro hp | (first | refine kD1 ?_ ?_ | refine kD2 ?_ ?_ | refine kS1 ?_ ?_ | refine kS2 ?_ ?_) <;> intro hp <;> try simp only [hp] | simp -implicitDefEqProofs (disch := omega) only [go_sem, Nat.reduceAdd, Nat.reduceSub, reduceCtorEq, Nat.reduceLT, Nat.reduceLeDiff, Nat.reduceEqDiff, Nat.reduceMul, Int.reduceToNat, ↓reduceIte, List.take_of_length_le, if_pos, if_neg, List.getElem?_set_self, List.set_set, getD_exs, cnE, cnV, Tryz.ntmps102, Tryz.results102])
      refine DrawQ.any [([0, 1, 2, 3, 4], 5), ([6, 7], 8)] [9] [] (by kernel_rfl) ?_
      repeat' (first | with_reducible first | refine kI (by kernel_rfl) ?_ | (first | refine kB1 ?_ ?_ | refine kB2 ?_ ?_) <;> intro hp | (first | refine kD1 ?_ ?_ | refine kD2 ?_ ?_ | refine kS1 ?_ ?_ | refine kS2 ?_ ?_) <;> intro hp <;> try simp only [hp] | simp -implicitDefEqProofs (disch := omega) only [go_sem, Nat.reduceAdd, Nat.reduceSub, reduceCtorEq, Nat.reduceLT, Nat.reduceLeDiff, Nat.reduceEqDiff, Nat.reduceMul, Int.reduceToNat, ↓reduceIte, List.take_of_length_le, if_pos, if_neg, List.getElem?_set_self, List.set_set, getD_exs, cnE, cnV, Tryz.ntmps102, Tryz.results102,  n_exp, opQ_none])
      refine InlK_intro rfl rfl can_ExportPartS (hc.call (by simp -implicitDefEqProofs (disch := omega) only [go_sem, ints, flipS, List.take_of_length_le]) ?_)
      simp only [bbR, bbN]
      repeat' (first | with_reducible first | refine kI (by kernel_rfl) ?_ | (first | refine kB1 ?_ ?_ | refine kB2 ?_ ?_) <;> intro hp | (first | refine kD1 ?_ ?_ | refine kD2 ?_ ?_ | refine kS1 ?_ ?_ | refine kS2 ?_ ?_) <;> intro hp <;> try simp only [hp] | simp -implicitDefEqProofs (disch := omega) only [go_sem, Nat.reduceAdd, Nat.reduceSub, reduceCtorEq, Nat.reduceLT, Nat.reduceLeDiff, Nat.reduceEqDiff, Nat.reduceMul, Int.reduceToNat, ↓reduceIte, List.take_of_length_le, if_pos, if_neg, List.getElem?_set_self, List.set_set, getD_exs, cnE, cnV, Tryz.ntmps102, Tryz.results102])
      exact ⟨by omega, _, _, rfl, rfl, fun h => absurd h (by decide), fun _ => own_at M [_, _, _] B' hlo⟩
  by_cases hk4 : k = 4
  · subst hk4
    obtain ⟨n0, n1, rfl⟩ := list2 hn
    have ho' : doneO B ⟨4, [n0, n1]⟩ = filXO B n0 n1 := rfl
    rw [ho']
    have hc := hq.fil B n0 n1 hbb
    cases e : filXO B n0 n1 with
    | none =>
      rw [e] at hc
      repeat' (first | with_reducible first | refine kI (by kernel_rfl) ?_ | (first | refine kB1 ?_ ?_ | refine kB2 ?_ ?_) <;> intro hp | (first | refine kD1 ?_ ?_ | refine kD2 ?_ ?_ | refine kS1 ?_ ?_ | refine kS2 ?_ ?_) <;> intro hp <;> try simp only [hp] | simp -implicitDefEqProofs (disch := omega) only [go_sem, Nat.reduceAdd, Nat.reduceSub, reduceCtorEq, Nat.reduceLT, Nat.reduceLeDiff, Nat.reduceEqDiff, Nat.reduceMul, Int.reduceToNat, ↓reduceIte, List.take_of_length_le, if_pos, if_neg, List.getElem?_set_self, List.set_set, getD_exs, cnE, cnV, Tryz.ntmps102, Tryz.results102])
      refine DrawQ.any [([0, 1, 2, 3, 4, 5, 6], 7), ([8, 9], 10)] [11] [] (by kernel_rfl) ?_
      repeat' (first | with_reducible first | refine kI (by kernel_rfl) ?_ | (first | refine kB1 ?_ ?_ | refine kB2 ?_ ?_) <;> intro hp | (first | refine kD1 ?_ ?_ | refine kD2 ?_ ?_ | refine kS1 ?_ ?_ | refine kS2 ?_ ?_) <;> intro hp <;> try simp only [hp] | simp -implicitDefEqProofs (disch := omega) only [go_sem, Nat.reduceAdd, Nat.reduceSub, reduceCtorEq, Nat.reduceLT, Nat.reduceLeDiff, Nat.reduceEqDiff, Nat.reduceMul, Int.reduceToNat, ↓reduceIte, List.take_of_length_le, if_pos, if_neg, List.getElem?_set_self, List.set_set, getD_exs, cnE, cnV, Tryz.ntmps102, Tryz.results102,  n_fil, opQ_none])
      refine InlK_intro rfl rfl can_FillExportS (hc.call (by simp -implicitDefEqProofs (disch := omega) only [go_sem, ints, flipS, List.take_of_length_le]) ?_)
      simp only [bbR, bbN]
      repeat' (first | with_reducible first | refine kI (by kernel_rfl) ?_ | (first | refine kB1 ?_ ?_ | refine kB2 ?_ ?_) <;> intro hp | (first | refine kD1 ?_ ?_ | refine kD2 ?_ ?_ | refine kS1 ?_ ?_ | refine kS2 ?_ ?_) <;> intro hp <;> try simp only [hp] | simp -implicitDefEqProofs (disch := omega) only [go_sem, Nat.reduceAdd, Nat.reduceSub, reduceCtorEq, Nat.reduceLT, Nat.reduceLeDiff, Nat.reduceEqDiff, Nat.reduceMul, Int.reduceToNat, ↓reduceIte, List.take_of_length_le, if_pos, if_neg, List.getElem?_set_self, List.set_set, getD_exs, cnE, cnV, Tryz.ntmps102, Tryz.results102])
      exact ⟨_, _, _, rfl, ⟨rfl, rfl⟩, rfl⟩
    | some B' =>
      rw [e] at hc
      repeat' (first | with_reducible first | refine kI (by kernel_rfl) ?_ | (first | refine kB1 ?_ ?_ | refine kB2 ?_ ?_) <;> intro hp | (first | refine kD1 ?_ ?_ | refine kD2 ?_ ?_ | refine kS1 ?_ ?_ | refine kS2 ?_ ?_) <;> intro hp <;> try simp only [hp] | simp -implicitDefEqProofs (disch := omega) only [go_sem, Nat.reduceAdd, Nat.reduceSub, reduceCtorEq, Nat.reduceLT, Nat.reduceLeDiff, Nat.reduceEqDiff, Nat.reduceMul, Int.reduceToNat, ↓reduceIte, List.take_of_length_le, if_pos, if_neg, List.getElem?_set_self, List.set_set, getD_exs, cnE, cnV, Tryz.ntmps102, Tryz.results102])
      refine DrawQ.any [([0, 1, 2, 3, 4, 5, 6], 7), ([8, 9], 10)] [11] [] (by kernel_rfl) ?_
      repeat' (first | with_reducible first | refine kI (by kernel_rfl) ?_ | (first | refine kB1 ?_ ?_ | refine kB2 ?_ ?_) <;> intro hp | (first | refine kD1 ?_ ?_ | refine kD2 ?_ ?_ | refine kS1 ?_ ?_ | refine kS2 ?_ ?_) <;> intro hp <;> try simp only [hp] | simp -implicitDefEqProofs (disch := omega) only [go_sem, Nat.reduceAdd, Nat.reduceSub, reduceCtorEq, Nat.reduceLT, Nat.reduceLeDiff, Nat.reduceEqDiff, Nat.reduceMul, Int.reduceToNat, ↓reduceIte, List.take_of_length_le, if_pos, if_neg, List.getElem?_set_self, List.set_set, getD_exs, cnE, cnV, Tryz.ntmps102, Tryz.results102,  n_fil, opQ_none])
      refine InlK_intro rfl rfl can_FillExportS (hc.call (by simp -implicitDefEqProofs (disch := omega) only [go_sem, ints, flipS, List.take_of_length_le]) ?_)
      simp only [bbR, bbN]
      repeat' (first | with_reducible first | refine kI (by kernel_rfl) ?_ | (first | refine kB1 ?_ ?_ | refine kB2 ?_ ?_) <;> intro hp | (first | refine kD1 ?_ ?_ | refine kD2 ?_ ?_ | refine kS1 ?_ ?_ | refine kS2 ?_ ?_) <;> intro hp <;> try simp only [hp] | simp -implicitDefEqProofs (disch := omega) only [go_sem, Nat.reduceAdd, Nat.reduceSub, reduceCtorEq, Nat.reduceLT, Nat.reduceLeDiff, Nat.reduceEqDiff, Nat.reduceMul, Int.reduceToNat, ↓reduceIte, List.take_of_length_le, if_pos, if_neg, List.getElem?_set_self, List.set_set, getD_exs, cnE, cnV, Tryz.ntmps102, Tryz.results102])
      exact ⟨by omega, _, _, rfl, rfl, fun h => absurd h (by decide), fun _ => own_at M [_, _, _] B' hlo⟩
  by_cases hk5 : k = 5
  · subst hk5
    obtain ⟨n0, n1, rfl⟩ := list2 hn
    have ho' : doneO B ⟨5, [n0, n1]⟩ = cpyXO B n0 n1 := rfl
    rw [ho']
    have hc := hq.cpy B n0 n1 hbb
    cases e : cpyXO B n0 n1 with
    | none =>
      rw [e] at hc
      repeat' (first | with_reducible first | refine kI (by kernel_rfl) ?_ | (first | refine kB1 ?_ ?_ | refine kB2 ?_ ?_) <;> intro hp | (first | refine kD1 ?_ ?_ | refine kD2 ?_ ?_ | refine kS1 ?_ ?_ | refine kS2 ?_ ?_) <;> intro hp <;> try simp only [hp] | simp -implicitDefEqProofs (disch := omega) only [go_sem, Nat.reduceAdd, Nat.reduceSub, reduceCtorEq, Nat.reduceLT, Nat.reduceLeDiff, Nat.reduceEqDiff, Nat.reduceMul, Int.reduceToNat, ↓reduceIte, List.take_of_length_le, if_pos, if_neg, List.getElem?_set_self, List.set_set, getD_exs, cnE, cnV, Tryz.ntmps102, Tryz.results102])
      refine DrawQ.any [([0, 1, 2, 3, 4, 5, 6], 7), ([8, 9], 10)] [11] [] (by kernel_rfl) ?_
      repeat' (first | with_reducible first | refine kI (by kernel_rfl) ?_ | (first | refine kB1 ?_ ?_ | refine kB2 ?_ ?_) <;> intro hp | (first | refine kD1 ?_ ?_ | refine kD2 ?_ ?_ | refine kS1 ?_ ?_ | refine kS2 ?_ ?_) <;> intro hp <;> try simp only [hp] | simp -implicitDefEqProofs (disch := omega) only [go_sem, Nat.reduceAdd, Nat.reduceSub, reduceCtorEq, Nat.reduceLT, Nat.reduceLeDiff, Nat.reduceEqDiff, Nat.reduceMul, Int.reduceToNat, ↓reduceIte, List.take_of_length_le, if_pos, if_neg, List.getElem?_set_self, List.set_set, getD_exs, cnE, cnV, Tryz.ntmps102, Tryz.results102,  n_cpy, opQ_none])
      refine InlK_intro rfl rfl can_CopyExportS (hc.call (by simp -implicitDefEqProofs (disch := omega) only [go_sem, ints, flipS, List.take_of_length_le]) ?_)
      simp only [bbR, bbN]
      repeat' (first | with_reducible first | refine kI (by kernel_rfl) ?_ | (first | refine kB1 ?_ ?_ | refine kB2 ?_ ?_) <;> intro hp | (first | refine kD1 ?_ ?_ | refine kD2 ?_ ?_ | refine kS1 ?_ ?_ | refine kS2 ?_ ?_) <;> intro hp <;> try simp only [hp] | simp -implicitDefEqProofs (disch := omega) only [go_sem, Nat.reduceAdd, Nat.reduceSub, reduceCtorEq, Nat.reduceLT, Nat.reduceLeDiff, Nat.reduceEqDiff, Nat.reduceMul, Int.reduceToNat, ↓reduceIte, List.take_of_length_le, if_pos, if_neg, List.getElem?_set_self, List.set_set, getD_exs, cnE, cnV, Tryz.ntmps102, Tryz.results102])
      exact ⟨_, _, _, rfl, ⟨rfl, rfl⟩, rfl⟩
    | some B' =>
      rw [e] at hc
      repeat' (first | with_reducible first | refine kI (by kernel_rfl) ?_ | (first | refine kB1 ?_ ?_ | refine kB2 ?_ ?_) <;> intro hp | (first | refine kD1 ?_ ?_ | refine kD2 ?_ ?_ | refine kS1 ?_ ?_ | refine kS2 ?_ ?_) <;> intro hp <;> try simp only [hp] | simp -implicitDefEqProofs (disch := omega) only [go_sem, Nat.reduceAdd, Nat.reduceSub, reduceCtorEq, Nat.reduceLT, Nat.reduceLeDiff, Nat.reduceEqDiff, Nat.reduceMul, Int.reduceToNat, ↓reduceIte, List.take_of_length_le, if_pos, if_neg, List.getElem?_set_self, List.set_set, getD_exs, cnE, cnV, Tryz.ntmps102, Tryz.results102])
      refine DrawQ.any [([0, 1, 2, 3, 4, 5, 6], 7), ([8, 9], 10)] [11] [] (by kernel_rfl) ?_
      repeat' (first | with_reducible first | refine kI (by kernel_rfl) ?_ | (first | refine kB1 ?_ ?_ | refine kB2 ?_ ?_) <;> intro hp | (first | refine kD1 ?_ ?_ | refine kD2 ?_ ?_ | refine kS1 ?_ ?_ | refine kS2 ?_ ?_) <;> intro hp <;> try simp only [hp] | simp -implicitDefEqProofs (disch := omega) only [go_sem, Nat.reduceAdd, Nat.reduceSub, reduceCtorEq, Nat.reduceLT, Nat.reduceLeDiff, Nat.reduceEqDiff, Nat.reduceMul, Int.reduceToNat, ↓reduceIte, List.take_of_length_le, if_pos, if_neg, List.getElem?_set_self, List.set_set, getD_exs, cnE, cnV, Tryz.ntmps102, Tryz.results102,  n_cpy, opQ_none])
      refine InlK_intro rfl rfl can_CopyExportS (hc.call (by simp -implicitDefEqProofs (disch := omega) only [go_sem, ints, flipS, List.take_of_length_le]) ?_)
      simp only [bbR, bbN]
      repeat' (first | with_reducible first | refine kI (by kernel_rfl) ?_ | (first | refine kB1 ?_ ?_ | refine kB2 ?_ ?_) <;> intro hp | (first | refine kD1 ?_ ?_ | refine kD2 ?_ ?_ | refine kS1 ?_ ?_ | refine kS2 ?_ ?_) <;> intro hp <;> try simp only [hp] | simp -implicitDefEqProofs (disch := omega) only [go_sem, Nat.reduceAdd, Nat.reduceSub, reduceCtorEq, Nat.reduceLT, Nat.reduceLeDiff, Nat.reduceEqDiff, Nat.reduceMul, Int.reduceToNat, ↓reduceIte, List.take_of_length_le, if_pos, if_neg, List.getElem?_set_self, List.set_set, getD_exs, cnE, cnV, Tryz.ntmps102, Tryz.results102])
      exact ⟨by omega, _, _, rfl, rfl, fun h => absurd h (by decide), fun _ => own_at M [_, _, _] B' hlo⟩
  by_cases hk7 : k = 7
  · subst hk7
    obtain ⟨n0, rfl⟩ := list1 hn
    have ho' : doneO B ⟨7, [n0]⟩ = relXO B n0 := rfl
    rw [ho']
    have hc := hq.rel B n0 hbb
    cases e : relXO B n0 with
    | none =>
      rw [e] at hc
      repeat' (first | with_reducible first | refine kI (by kernel_rfl) ?_ | (first | refine kB1 ?_ ?_ | refine kB2 ?_ ?_) <;> intro hp | (first | refine kD1 ?_ ?_ | refine kD2 ?_ ?_ | refine kS1 ?_ ?_ | refine kS2 ?_ ?_) <;> intro hp <;> try simp only [hp] | simp -implicitDefEqProofs (disch := omega) only [go_sem, Nat.reduceAdd, Nat.reduceSub, reduceCtorEq, Nat.reduceLT, Nat.reduceLeDiff, Nat.reduceEqDiff, Nat.reduceMul, Int.reduceToNat, ↓reduceIte, List.take_of_length_le, if_pos, if_neg, List.getElem?_set_self, List.set_set, getD_exs, cnE, cnV, Tryz.ntmps102, Tryz.results102])
      refine DrawQ.any [([0, 1, 2, 3], 4), ([5, 6], 7)] [8] [] (by kernel_rfl) ?_
      repeat' (first | with_reducible first | refine kI (by kernel_rfl) ?_ | (first | refine kB1 ?_ ?_ | refine kB2 ?_ ?_) <;> intro hp | (first | refine kD1 ?_ ?_ | refine kD2 ?_ ?_ | refine kS1 ?_ ?_ | refine kS2 ?_ ?_) <;> intro hp <;> try simp only [hp] | simp -implicitDefEqProofs (disch := omega) only [go_sem, Nat.reduceAdd, Nat.reduceSub, reduceCtorEq, Nat.reduceLT, Nat.reduceLeDiff, Nat.reduceEqDiff, Nat.reduceMul, Int.reduceToNat, ↓reduceIte, List.take_of_length_le, if_pos, if_neg, List.getElem?_set_self, List.set_set, getD_exs, cnE, cnV, Tryz.ntmps102, Tryz.results102,  n_rel, opQ_none])
      refine InlK_intro rfl rfl can_ReleaseExportS (hc.call (by simp -implicitDefEqProofs (disch := omega) only [go_sem, ints, flipS, List.take_of_length_le]) ?_)
      simp only [bbR, bbN]
      repeat' (first | with_reducible first | refine kI (by kernel_rfl) ?_ | (first | refine kB1 ?_ ?_ | refine kB2 ?_ ?_) <;> intro hp | (first | refine kD1 ?_ ?_ | refine kD2 ?_ ?_ | refine kS1 ?_ ?_ | refine kS2 ?_ ?_) <;> intro hp <;> try simp only [hp] | simp -implicitDefEqProofs (disch := omega) only [go_sem, Nat.reduceAdd, Nat.reduceSub, reduceCtorEq, Nat.reduceLT, Nat.reduceLeDiff, Nat.reduceEqDiff, Nat.reduceMul, Int.reduceToNat, ↓reduceIte, List.take_of_length_le, if_pos, if_neg, List.getElem?_set_self, List.set_set, getD_exs, cnE, cnV, Tryz.ntmps102, Tryz.results102])
      exact ⟨_, _, _, rfl, ⟨rfl, rfl⟩, rfl⟩
    | some B' =>
      rw [e] at hc
      repeat' (first | with_reducible first | refine kI (by kernel_rfl) ?_ | (first | refine kB1 ?_ ?_ | refine kB2 ?_ ?_) <;> intro hp | (first | refine kD1 ?_ ?_ | refine kD2 ?_ ?_ | refine kS1 ?_ ?_ | refine kS2 ?_ ?_) <;> intro hp <;> try simp only [hp] | simp -implicitDefEqProofs (disch := omega) only [go_sem, Nat.reduceAdd, Nat.reduceSub, reduceCtorEq, Nat.reduceLT, Nat.reduceLeDiff, Nat.reduceEqDiff, Nat.reduceMul, Int.reduceToNat, ↓reduceIte, List.take_of_length_le, if_pos, if_neg, List.getElem?_set_self, List.set_set, getD_exs, cnE, cnV, Tryz.ntmps102, Tryz.results102])
      refine DrawQ.any [([0, 1, 2, 3], 4), ([5, 6], 7)] [8] [] (by kernel_rfl) ?_
      repeat' (first | with_reducible first | refine kI (by kernel_rfl) ?_ | (first | refine kB1 ?_ ?_ | refine kB2 ?_ ?_) <;> intro hp | (first | refine kD1 ?_ ?_ | refine kD2 ?_ ?_ | refine kS1 ?_ ?_ | refine kS2 ?_ ?_) <;> intro hp <;> try simp only [hp] | simp -implicitDefEqProofs (disch := omega) only [go_sem, Nat.reduceAdd, Nat.reduceSub, reduceCtorEq, Nat.reduceLT, Nat.reduceLeDiff, Nat.reduceEqDiff, Nat.reduceMul, Int.reduceToNat, ↓reduceIte, List.take_of_length_le, if_pos, if_neg, List.getElem?_set_self, List.set_set, getD_exs, cnE, cnV, Tryz.ntmps102, Tryz.results102,  n_rel, opQ_none])
      refine InlK_intro rfl rfl can_ReleaseExportS (hc.call (by simp -implicitDefEqProofs (disch := omega) only [go_sem, ints, flipS, List.take_of_length_le]) ?_)
      simp only [bbR, bbN]
      repeat' (first | with_reducible first | refine kI (by kernel_rfl) ?_ | (first | refine kB1 ?_ ?_ | refine kB2 ?_ ?_) <;> intro hp | (first | refine kD1 ?_ ?_ | refine kD2 ?_ ?_ | refine kS1 ?_ ?_ | refine kS2 ?_ ?_) <;> intro hp <;> try simp only [hp] | simp -implicitDefEqProofs (disch := omega) only [go_sem, Nat.reduceAdd, Nat.reduceSub, reduceCtorEq, Nat.reduceLT, Nat.reduceLeDiff, Nat.reduceEqDiff, Nat.reduceMul, Int.reduceToNat, ↓reduceIte, List.take_of_length_le, if_pos, if_neg, List.getElem?_set_self, List.set_set, getD_exs, cnE, cnV, Tryz.ntmps102, Tryz.results102])
      exact ⟨by omega, _, _, rfl, rfl, fun h => absurd h (by decide), fun _ => own_at M [_, _, _] B' hlo⟩
  obtain rfl : k = 6 := by omega
  obtain ⟨n0, rfl⟩ := list1 hn
  have ho' : doneO B ⟨6, [n0]⟩ = opt (opnB B n0 = true) B := rfl
  rw [ho']
  have q1 := gOpnS_eq hbb n0
  cases e : opnB B n0 with
  | false =>
    rw [e] at q1
    rw [opt_f (by simp)]
    repeat' (first | with_reducible first | refine kI (by kernel_rfl) ?_ | (first | refine kB1 ?_ ?_ | refine kB2 ?_ ?_) <;> intro hp | (first | refine kD1 ?_ ?_ | refine kD2 ?_ ?_ | refine kS1 ?_ ?_ | refine kS2 ?_ ?_) <;> intro hp <;> try simp only [hp] | simp -implicitDefEqProofs (disch := omega) only [go_sem, Nat.reduceAdd, Nat.reduceSub, reduceCtorEq, Nat.reduceLT, Nat.reduceLeDiff, Nat.reduceEqDiff, Nat.reduceMul, Int.reduceToNat, ↓reduceIte, List.take_of_length_le, if_pos, if_neg, List.getElem?_set_self, List.set_set, getD_exs, cnE, cnV, Tryz.ntmps102, Tryz.results102])
    refine DrawQ.any [([0, 1, 2, 3, 4, 5], 6)] [7] [] (by kernel_rfl) ?_
    repeat' (first | with_reducible first | refine kI (by kernel_rfl) ?_ | (first | refine kB1 ?_ ?_ | refine kB2 ?_ ?_) <;> intro hp | (first | refine kD1 ?_ ?_ | refine kD2 ?_ ?_ | refine kS1 ?_ ?_ | refine kS2 ?_ ?_) <;> intro hp <;> try simp only [hp] | simp -implicitDefEqProofs (disch := omega) only [go_sem, Nat.reduceAdd, Nat.reduceSub, reduceCtorEq, Nat.reduceLT, Nat.reduceLeDiff, Nat.reduceEqDiff, Nat.reduceMul, Int.reduceToNat, ↓reduceIte, List.take_of_length_le, if_pos, if_neg, List.getElem?_set_self, List.set_set, getD_exs, cnE, cnV, Tryz.ntmps102, Tryz.results102,  ho, q1, htk])
    exact ⟨_, _, _, rfl, ⟨rfl, rfl⟩, rfl⟩
  | true =>
    rw [e] at q1
    rw [opt_t rfl]
    repeat' (first | with_reducible first | refine kI (by kernel_rfl) ?_ | (first | refine kB1 ?_ ?_ | refine kB2 ?_ ?_) <;> intro hp | (first | refine kD1 ?_ ?_ | refine kD2 ?_ ?_ | refine kS1 ?_ ?_ | refine kS2 ?_ ?_) <;> intro hp <;> try simp only [hp] | simp -implicitDefEqProofs (disch := omega) only [go_sem, Nat.reduceAdd, Nat.reduceSub, reduceCtorEq, Nat.reduceLT, Nat.reduceLeDiff, Nat.reduceEqDiff, Nat.reduceMul, Int.reduceToNat, ↓reduceIte, List.take_of_length_le, if_pos, if_neg, List.getElem?_set_self, List.set_set, getD_exs, cnE, cnV, Tryz.ntmps102, Tryz.results102])
    refine DrawQ.any [([0, 1, 2, 3, 4, 5], 6)] [7] [] (by kernel_rfl) ?_
    repeat' (first | with_reducible first | refine kI (by kernel_rfl) ?_ | (first | refine kB1 ?_ ?_ | refine kB2 ?_ ?_) <;> intro hp | (first | refine kD1 ?_ ?_ | refine kD2 ?_ ?_ | refine kS1 ?_ ?_ | refine kS2 ?_ ?_) <;> intro hp <;> try simp only [hp] | simp -implicitDefEqProofs (disch := omega) only [go_sem, Nat.reduceAdd, Nat.reduceSub, reduceCtorEq, Nat.reduceLT, Nat.reduceLeDiff, Nat.reduceEqDiff, Nat.reduceMul, Int.reduceToNat, ↓reduceIte, List.take_of_length_le, if_pos, if_neg, List.getElem?_set_self, List.set_set, getD_exs, cnE, cnV, Tryz.ntmps102, Tryz.results102,  ho, q1, htk])
    exact ⟨_, _, rfl, rfl, fun _ => rfl, fun h => absurd rfl h⟩
def appKd (lo : Nat) (M : List Blk) (B : Bf) (a : Ac) (r : AV) (L : List Blk) : Prop := ∃ x Y, r = .tup [x, .str (appF B a).2] ∧ L = M ++ Y ∧ (x = bfA 0 B ∧ (appF B a).1 = B ∨ BR lo (M ++ Y) x (appF B a).1)
set_option maxHeartbeats 4000000 in
set_option maxRecDepth 100000 in
theorem isp_applyD {Sg : FuncId → Option (List AV → Option AV)} (hS : Sound Tryz.prog Sg) (n1 : Sg 102 = none) (hl : Sg 103 = some (F2 gLoadI)) (hn : Sg 72 = some (F1 gNums)) (hu : Sg 104 = some (F1 gNum)) (hq : SpB) (B : Bf) (hB : bufOK B = true) (a : Ac) (ha : actN a) (t : Nat) (lo : Nat) (M : List Blk) (hlo : lo ≤ M.length) (hdo : ∀ M, lo ≤ M.length → ISpec Tryz.prog 102 [bfA 0 B, .agg [i64 a.k, ints t a.n]] M (doneKd lo M B a)) : ISpec Tryz.prog 58 [bfA 0 B, .agg [i64 a.k, ints t a.n]] M (appKd lo M B a) := by
  refine ISpec.intro Tryz.func58 rfl (vc3_sound Tryz.pf hS hS _ _ _ ?_)
  have hml : ∀ (Y : List Blk), (M ++ Y).length = M.length + Y.length := fun Y => List.length_append
  repeat' (first | with_reducible first | refine kI (by kernel_rfl) ?_ | (first | refine kB1 ?_ ?_ | refine kB2 ?_ ?_) <;> intro hp | (first | refine kD1 ?_ ?_ | refine kD2 ?_ ?_ | refine kS1 ?_ ?_ | refine kS2 ?_ ?_) <;> intro hp <;> try simp only [hp] | simp -implicitDefEqProofs (disch := omega) only [go_sem, Nat.reduceAdd, Nat.reduceSub, reduceCtorEq, Nat.reduceLT, Nat.reduceLeDiff, Nat.reduceEqDiff, Nat.reduceMul, Int.reduceToNat, ↓reduceIte, List.take_of_length_le, if_pos, if_neg, List.getElem?_set_self, List.set_set, getD_exs, cnE, cnV, Tryz.ntmps58, Tryz.results58,  n1, opQ_none])
  refine InlK_intro rfl rfl can_doneS ((hdo _ (by rw [hml]; omega)).mono ?_)
  intro r L1 hk
  unfold doneKd at hk
  unfold appKd appF
  cases e : doneO B a with
  | none =>
    rw [e] at hk
    obtain ⟨x, y, Y, rfl, ⟨hx, hy⟩, rfl⟩ := hk
    dsimp only
    repeat' (first | with_reducible first | refine kI (by kernel_rfl) ?_ | (first | refine kB1 ?_ ?_ | refine kB2 ?_ ?_) <;> intro hp | (first | refine kD1 ?_ ?_ | refine kD2 ?_ ?_ | refine kS1 ?_ ?_ | refine kS2 ?_ ?_) <;> intro hp <;> try simp only [hp] | simp -implicitDefEqProofs (disch := omega) only [go_sem, Nat.reduceAdd, Nat.reduceSub, reduceCtorEq, Nat.reduceLT, Nat.reduceLeDiff, Nat.reduceEqDiff, Nat.reduceMul, Int.reduceToNat, ↓reduceIte, List.take_of_length_le, if_pos, if_neg, List.getElem?_set_self, List.set_set, getD_exs, cnE, cnV, Tryz.ntmps58, Tryz.results58,  hx, hy])
    first | exact ⟨_, _, rfl, rfl, .inl ⟨rfl, rfl⟩⟩ | exact ⟨_, _, rfl, rfl, .inl rfl⟩
  | some B' =>
    rw [e] at hk
    obtain ⟨x, Y, rfl, rfl, hd6, hbr⟩ := hk
    dsimp only
    by_cases k6 : a.k = 6
    · have k6' : (a.k == 6) = true := beq_t k6
      rw [if_pos k6]
      obtain rfl := hd6 k6
      obtain ⟨ho, rfl⟩ := done_6 e k6
      obtain ⟨k, n⟩ := a
      simp only at k6 ho
      subst k6
      obtain ⟨⟨-, -⟩, hnl⟩ := ha
      obtain ⟨n0, rfl⟩ := list1 (l := n) hnl
      simp only [List.getD_cons_zero] at ho ⊢
      obtain ⟨m, rfl, hm, hmo⟩ := opnB_iff.1 ho
      have hge := getD_exs (t := 0) hm
      have hold := opn_hold hB hm hmo
      have q1 := gLoadI_eq hold
      have h60 := offF_60 (vOK (fit_in hold).2.1).1
      have htl := tkn_len B.c (offF (B.e.getD m ex0).v)
      have htv := tkn_val (bufOK_iff.1 hB).1 (fit_in hold).2.2
      have hvw : vwB B (m : Int) = (B.e.getD m ex0).v := rfl
      rw [hvw]
      have q2 := gNums_eq (l := tkn B.c (offF (B.e.getD m ex0).v)) ⟨by omega, fun x hx => by have := htv x hx; unfold i64R; omega⟩
      have hnl := numsB_len (tkn B.c (offF (B.e.getD m ex0).v)) fun x hx => by have := htv x hx; unfold i64R; omega
      generalize tkn B.c (offF (B.e.getD m ex0).v) = T at *
      generalize numsB T = S at *
      have w1 : cHas.size + S.size ≤ 9223372036854775807 := by rw [z_has]; omega
      have htk : ∀ (Y : List Blk) (k : Nat), (M ++ Y).take (M.length + k) = M ++ Y.take k := fun Y k => List.take_length_add_append k
      repeat' (first | with_reducible first | refine kI (by kernel_rfl) ?_ | (first | refine kB1 ?_ ?_ | refine kB2 ?_ ?_) <;> intro hp | (first | refine kD1 ?_ ?_ | refine kD2 ?_ ?_ | refine kS1 ?_ ?_ | refine kS2 ?_ ?_) <;> intro hp <;> try simp only [hp] | simp -implicitDefEqProofs (disch := omega) only [go_sem, Nat.reduceAdd, Nat.reduceSub, reduceCtorEq, Nat.reduceLT, Nat.reduceLeDiff, Nat.reduceEqDiff, Nat.reduceMul, Int.reduceToNat, ↓reduceIte, List.take_of_length_le, if_pos, if_neg, List.getElem?_set_self, List.set_set, getD_exs, cnE, cnV, Tryz.ntmps58, Tryz.results58])
      refine DrawQ.any [([0, 1, 2, 3, 4, 5, 6, 7, 8, 9, 10, 11, 12, 13, 14], 15)] [16] [14] (by kernel_rfl) ?_
      repeat' (first | with_reducible first | refine kI (by kernel_rfl) ?_ | (first | refine kB1 ?_ ?_ | refine kB2 ?_ ?_) <;> intro hp | (first | refine kD1 ?_ ?_ | refine kD2 ?_ ?_ | refine kS1 ?_ ?_ | refine kS2 ?_ ?_) <;> intro hp <;> try simp only [hp] | simp -implicitDefEqProofs (disch := omega) only [go_sem, Nat.reduceAdd, Nat.reduceSub, reduceCtorEq, Nat.reduceLT, Nat.reduceLeDiff, Nat.reduceEqDiff, Nat.reduceMul, Int.reduceToNat, ↓reduceIte, List.take_of_length_le, if_pos, if_neg, List.getElem?_set_self, List.set_set, getD_exs, cnE, cnV, Tryz.ntmps58, Tryz.results58,  hge, htk, hl, q1, hn, q2, w1])
      first | exact ⟨_, _, rfl, rfl, .inl ⟨rfl, rfl⟩⟩ | exact ⟨_, _, rfl, rfl, .inl rfl⟩
    · have k6' : (a.k == 6) = false := beq_f k6
      rw [if_neg k6]
      have hbr := hbr k6
      have hbr0 := hbr
      obtain ⟨i2, be2, rfl, g1, g2, hlw2⟩ := hbr
      have hbe2 := exAt_cell g2
      by_cases k1 : a.k = 1 ∨ a.k = 2 ∨ a.k = 3
      · rw [if_pos k1]
        have hne := done_ne e k1
        have h8 := (bufOK_iff.1 (ok_done hB e)).2.1
        obtain ⟨-, j2, rfl, hj2⟩ := g2.resolve_left fun h => hne h.1
        have hw : IntKind.i64.wrap ((B'.e.length : Int) - 1) = (B'.e.length : Int) - 1 := wrap_in (by omega)
        have q3 := gNum_eq (n := (B'.e.length : Int) - 1) (by unfold i64R; omega)
        have hnb := numB_len (n := (B'.e.length : Int) - 1) (by unfold i64R; omega)
        have w1 : cAt.size + (numB ((B'.e.length : Int) - 1)).size ≤ 9223372036854775807 := by rw [z_at]; omega
        generalize numB ((B'.e.length : Int) - 1) = S at *
        have hj3 := fun z => get_ext hj2 [z]
        simp only [List.append_assoc, List.cons_append, List.nil_append] at hj3
        rcases k1 with k1 | k1 | k1
        all_goals
          rw [k1] at hj3 hbr0 ⊢
          repeat' (first | with_reducible first | refine kI (by kernel_rfl) ?_ | (first | refine kB1 ?_ ?_ | refine kB2 ?_ ?_) <;> intro hp | (first | refine kD1 ?_ ?_ | refine kD2 ?_ ?_ | refine kS1 ?_ ?_ | refine kS2 ?_ ?_) <;> intro hp <;> try simp only [hp] | simp -implicitDefEqProofs (disch := omega) only [go_sem, Nat.reduceAdd, Nat.reduceSub, reduceCtorEq, Nat.reduceLT, Nat.reduceLeDiff, Nat.reduceEqDiff, Nat.reduceMul, Int.reduceToNat, ↓reduceIte, List.take_of_length_le, if_pos, if_neg, List.getElem?_set_self, List.set_set, getD_exs, cnE, cnV, Tryz.ntmps58, Tryz.results58,  k1])
          refine DrawQ.any [([0, 1, 2, 3, 4, 5, 6], 7)] [8] [6] (by kernel_rfl) ?_
          repeat' (first | with_reducible first | refine kI (by kernel_rfl) ?_ | (first | refine kB1 ?_ ?_ | refine kB2 ?_ ?_) <;> intro hp | (first | refine kD1 ?_ ?_ | refine kD2 ?_ ?_ | refine kS1 ?_ ?_ | refine kS2 ?_ ?_) <;> intro hp <;> try simp only [hp] | simp -implicitDefEqProofs (disch := omega) only [go_sem, Nat.reduceAdd, Nat.reduceSub, reduceCtorEq, Nat.reduceLT, Nat.reduceLeDiff, Nat.reduceEqDiff, Nat.reduceMul, Int.reduceToNat, ↓reduceIte, List.take_of_length_le, if_pos, if_neg, List.getElem?_set_self, List.set_set, getD_exs, cnE, cnV, Tryz.ntmps58, Tryz.results58,  hj3, len_exs, hw, hu, q3, w1])
          exact ⟨_, _, rfl, rfl, .inr (BR_mid hbr0 rfl)⟩
      · have e1 : (a.k == 1) = false := beq_f (by omega)
        have e2 : (a.k == 2) = false := beq_f (by omega)
        have e3 : (a.k == 3) = false := beq_f (by omega)
        rw [if_neg k1]
        repeat' (first | with_reducible first | refine kI (by kernel_rfl) ?_ | (first | refine kB1 ?_ ?_ | refine kB2 ?_ ?_) <;> intro hp | (first | refine kD1 ?_ ?_ | refine kD2 ?_ ?_ | refine kS1 ?_ ?_ | refine kS2 ?_ ?_) <;> intro hp <;> try simp only [hp] | simp -implicitDefEqProofs (disch := omega) only [go_sem, Nat.reduceAdd, Nat.reduceSub, reduceCtorEq, Nat.reduceLT, Nat.reduceLeDiff, Nat.reduceEqDiff, Nat.reduceMul, Int.reduceToNat, ↓reduceIte, List.take_of_length_le, if_pos, if_neg, List.getElem?_set_self, List.set_set, getD_exs, cnE, cnV, Tryz.ntmps58, Tryz.results58,  hbe2, k6', e1, e2, e3])
        exact ⟨_, _, rfl, rfl, .inr (BR_mid hbr0 rfl)⟩
def btR (o : Option (Bf × ByteArray)) (n : Nat) : AV := match o with
  | some p => .tup [bfR p.1 n, .str p.2]
  | none => .tup [.agg [.nilS, .nilS], .str ⟨#[]⟩]
def btN (o : Option (Bf × ByteArray)) (n : Nat) : List Blk := match o with
  | some p => bfN p.1 n
  | none => []
def btP (o : Option (Bf × ByteArray)) : Bf × ByteArray := match o with
  | some p => p
  | none => (⟨[], []⟩, ⟨#[]⟩)
theorem exp_bt (o : Option (Bf × ByteArray)) : exp 1 (btN o 0) (btR o 0) = enc 1 (btP o) := by
  cases o with
  | none => rfl
  | some p =>
    show exp 1 (bfN p.1 0) (.tup [bfR p.1 0, .str p.2]) = .tup [enc 1 p.1, .str p.2]
    rw [← exp_bfR p.1, exp_tup]
    rfl
theorem ret_BT {L0 : List Blk} {B : Bf} {s : ByteArray} {k n : Nat} (hk : L0.length = k) :
    RetQ [] (fun v L' => (∀ n, ownV n v = btR (some (B, s)) n) ∧ ∀ n, L'.map (ownB n) = btN (some (B, s)) n) (.tup [bfR B k, .str s]) (L0 ++ bfN B n) := by
  subst hk
  have hi : (L0 ++ bfN B n)[L0.length]? = some (stB B.c) := get_app_len _ _
  have he : exAt (L0 ++ bfN B n) (exR (L0.length + 1) B.e) B.e := by
    cases he : B.e with
    | nil => exact .inl ⟨rfl, by simp [exR]⟩
    | cons x l => exact .inr ⟨by simp, _, rfl, by rw [get_app_add L0 _ 1]; simp [bfN, he, exN]⟩
  obtain ⟨sel, h1, h2, h3⟩ := ret_bf hi he (by
    intro j v o n c hj
    cases he : B.e with
    | nil => rw [he] at hj; simp [exR] at hj
    | cons x l => rw [he] at hj; simp [exR] at hj; omega) (P := fun v N => (∀ n, ownV n (.tup [v, .str s]) = btR (some (B, s)) n) ∧ ∀ n, N.map (ownB n) = btN (some (B, s)) n) (fun v N a b ⟨g, c⟩ => ⟨fun n => by
    have := a n
    subst c
    simp only [ownV, List.map_cons, List.map_nil, btR]
    rw [← this]; rfl, b⟩)
  exact ⟨sel, h1, h2, Nat.zero_le _, fun b hb => absurd hb (Nat.not_lt_zero _), by simpa [selV, expE, selC, selStep] using h3⟩
theorem ret_BT0 {L : List Blk} : RetQ [] (fun v L' => (∀ n, ownV n v = btR none n) ∧ ∀ n, L'.map (ownB n) = btN none n) (.tup [.agg [.nilS, .nilS], .str ⟨#[]⟩]) L :=
  ⟨[], by simp, by simp, Nat.zero_le _, fun b hb => absurd hb (Nat.not_lt_zero _), fun n => by simp [selV, expE, selC, selStep, ownV, ownC, ownStep, btR], fun n => rfl⟩
def appO (B : Bf) (a : Ac) : Option (Bf × ByteArray) := if bufOK B = true ∧ actB a = true then some (appF B a) else none
def gAppX (B : Bf) (a : Ac) : Option (Bf × ByteArray) := gd (bfB B ∧ a.n.length < 4294967296) (btP (appO B a))
theorem gAppX_eq {B : Bf} {a : Ac} (h : bfB B ∧ a.n.length < 4294967296) : gAppX B a = some (btP (appO B a)) := gd_eq h
def AppD : Prop := ∀ (B : Bf), bufOK B = true → ∀ (a : Ac), actN a → ∀ (M : List Blk), ISpec Tryz.prog 58 [bfA 0 B, .agg [i64 a.k, ints 0 a.n]] M (appKd 0 M B a)
theorem bf_call {L : List Blk} {v : AV} {B : Bf} (h : v = bfA 0 B ∨ BR 0 L v B) : [exp 0 L v] = [bfA 0 B] := by
  rcases h with rfl | ⟨i, be, rfl, h1, h2, -⟩
  · simp [exp, expE, expC, stepC, ints, Function.comp_def]
  · have e2 := exAt_exp h2 []
    rw [List.append_nil] at e2
    have e1 : expC 0 L (.sl i B.c.length 0 B.c.length B.c.length) = ints 0 B.c := by
      rw [ec_sl, ee_sl, h1]
      simp [expS, expE, stepC, Function.comp_def, List.take_of_length_le]
    show [AV.agg [expC 0 L _, expC 0 L be]] = _
    rw [e1, e2]
set_option maxHeartbeats 4000000 in
set_option maxRecDepth 100000 in
theorem o_ApplyActS {Sg : FuncId → Option (List AV → Option AV)} (hS : Sound Tryz.prog Sg) (hb : Sg 66 = some (F1 gBuf)) (ha : Sg 67 = some (F1 gActB)) (n1 : Sg 58 = none) (n2 : Sg 59 = none) (B : Bf) (a : Ac) (h : bfB B ∧ a.n.length < 4294967296) (happ : AppD) (hcb : CpBS) : OSpec Tryz.prog 29 [bfA 0 B, .agg [i64 a.k, ints 0 a.n]] (btR (appO B a)) (btN (appO B a)) := by
  refine OSpec.ofR Tryz.func29 rfl (vc3_sound Tryz.pf hS hS _ _ _ ?_)
  obtain ⟨h1, h2⟩ := h
  have q1 := gBuf_eq h1
  have q2 := gActB_eq h2
  unfold appO
  obtain ⟨k, n⟩ := a
  cases e1 : bufOK B with
  | false =>
    rw [e1] at q1
    rw [if_neg (by simp)]
    repeat' (first | with_reducible first | refine kI (by kernel_rfl) ?_ | refine kN (by kernel_rfl) ?_ | (first | refine kB1 ?_ ?_ | refine kB2 ?_ ?_) <;> intro hp | (first | refine kD1 ?_ ?_ | refine kD2 ?_ ?_ | refine kS1 ?_ ?_ | refine kS2 ?_ ?_) <;> intro hp <;> try simp only [hp] | simp -implicitDefEqProofs (disch := omega) only [go_sem, Nat.reduceAdd, Nat.reduceSub, reduceCtorEq, Nat.reduceLT, Nat.reduceLeDiff, Nat.reduceEqDiff, Nat.reduceMul, Int.reduceToNat, ↓reduceIte, List.take_of_length_le, if_pos, if_neg, List.getElem?_set_self, List.set_set, getD_exs, cnE, cnV, Tryz.ntmps29, Tryz.results29,  hb, q1])
    exact ret_BT0
  | true =>
    rw [e1] at q1
    cases e2 : actB ⟨k, n⟩ with
    | false =>
      rw [e2] at q2
      rw [if_neg (by simp)]
      repeat' (first | with_reducible first | refine kI (by kernel_rfl) ?_ | refine kN (by kernel_rfl) ?_ | (first | refine kB1 ?_ ?_ | refine kB2 ?_ ?_) <;> intro hp | (first | refine kD1 ?_ ?_ | refine kD2 ?_ ?_ | refine kS1 ?_ ?_ | refine kS2 ?_ ?_) <;> intro hp <;> try simp only [hp] | simp -implicitDefEqProofs (disch := omega) only [go_sem, Nat.reduceAdd, Nat.reduceSub, reduceCtorEq, Nat.reduceLT, Nat.reduceLeDiff, Nat.reduceEqDiff, Nat.reduceMul, Int.reduceToNat, ↓reduceIte, List.take_of_length_le, if_pos, if_neg, List.getElem?_set_self, List.set_set, getD_exs, cnE, cnV, Tryz.ntmps29, Tryz.results29,  hb, q1, ha, q2])
      exact ret_BT0
    | true =>
      rw [e2] at q2
      rw [if_pos ⟨rfl, rfl⟩]
      have hok := app_ok (a := ⟨k, n⟩) e1
      repeat' (first | with_reducible first | refine kI (by kernel_rfl) ?_ | (first | refine kB1 ?_ ?_ | refine kB2 ?_ ?_) <;> intro hp | (first | refine kD1 ?_ ?_ | refine kD2 ?_ ?_ | refine kS1 ?_ ?_ | refine kS2 ?_ ?_) <;> intro hp <;> try simp only [hp] | simp -implicitDefEqProofs (disch := omega) only [go_sem, Nat.reduceAdd, Nat.reduceSub, reduceCtorEq, Nat.reduceLT, Nat.reduceLeDiff, Nat.reduceEqDiff, Nat.reduceMul, Int.reduceToNat, ↓reduceIte, List.take_of_length_le, if_pos, if_neg, List.getElem?_set_self, List.set_set, getD_exs, cnE, cnV, Tryz.ntmps29, Tryz.results29,  hb, q1, ha, q2, n1, opQ_none])
      refine InlK_intro rfl rfl can_applyS ((happ B e1 ⟨k, n⟩ (actB_iff.1 e2).1 _).mono ?_)
      rintro r L1 ⟨x, Y, rfl, rfl, hx⟩
      generalize appF B ⟨k, n⟩ = p at *
      obtain ⟨B', s⟩ := p
      dsimp only at hx hok
      have hxc : ∃ c d, x = .agg [c, d] ∧ c.isCell = true ∧ d.isCell = true := by
        rcases hx with ⟨rfl, -⟩ | hx
        · exact ⟨_, _, rfl, rfl, rfl⟩
        · exact BR_cells hx
      obtain ⟨c, d, rfl, hc1, hd1⟩ := hxc
      repeat' (first | with_reducible first | refine kI (by kernel_rfl) ?_ | (first | refine kB1 ?_ ?_ | refine kB2 ?_ ?_) <;> intro hp | (first | refine kD1 ?_ ?_ | refine kD2 ?_ ?_ | refine kS1 ?_ ?_ | refine kS2 ?_ ?_) <;> intro hp <;> try simp only [hp] | simp -implicitDefEqProofs (disch := omega) only [go_sem, Nat.reduceAdd, Nat.reduceSub, reduceCtorEq, Nat.reduceLT, Nat.reduceLeDiff, Nat.reduceEqDiff, Nat.reduceMul, Int.reduceToNat, ↓reduceIte, List.take_of_length_le, if_pos, if_neg, List.getElem?_set_self, List.set_set, getD_exs, cnE, cnV, Tryz.ntmps29, Tryz.results29,  hc1, hd1, n2, opQ_none])
      refine InlK_intro rfl rfl can_copyBufferS ((hcb B' (bfM_of hok)).call (bf_call (hx.imp (fun h => by rw [h.2]; exact h.1) fun h => BR.ext h _)) ?_)
      repeat' (first | with_reducible first | refine kI (by kernel_rfl) ?_ | (first | refine kB1 ?_ ?_ | refine kB2 ?_ ?_) <;> intro hp | (first | refine kD1 ?_ ?_ | refine kD2 ?_ ?_ | refine kS1 ?_ ?_ | refine kS2 ?_ ?_) <;> intro hp <;> try simp only [hp] | simp -implicitDefEqProofs (disch := omega) only [go_sem, Nat.reduceAdd, Nat.reduceSub, reduceCtorEq, Nat.reduceLT, Nat.reduceLeDiff, Nat.reduceEqDiff, Nat.reduceMul, Int.reduceToNat, ↓reduceIte, List.take_of_length_le, if_pos, if_neg, List.getElem?_set_self, List.set_set, getD_exs, cnE, cnV, Tryz.ntmps29, Tryz.results29])
      have hap : ∀ (z : Blk) (N : List Blk), Y ++ z :: N = (Y ++ [z]) ++ N := fun z N => by simp
      rw [hap]
      exact ret_BT (L0 := _ :: _ :: _ :: (Y ++ [_])) (by simp)
end Go.Proofs.YtkmnepmnjpdpkaaGreatDoor
