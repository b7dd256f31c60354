/- Contracts of functions that the laws of this seat call. -/
import Derived.Test.YtgpflkmelindfaaVh
set_option linter.all false
namespace Go.Proofs.Ytgpflkmelindfaa
open Go Go.Ev Go.RowKit Go.Ev.Enc Go.Pl

theorem frz_md {f : FuncId} {args : List AV} {o : Option Vi} (h : OSpec Try.prog f args (mdR o) (mdN o)) (L : List Blk) (xs : List AV) (hx : xs.map (exp 0 L) = args) :
    ISpec Try.prog f xs L fun r L' => (o = none ∧ r = .tup [.agg [i64 0, .nilS, .nilS], .bool false] ∧ L' = L) ∨ ∃ v, o = some v ∧ r = .tup [viS L.length v, .bool true] ∧ L' = L ++ [stB v.st] := by
  refine ISpec.fin ((h L xs hx).mono ?_)
  rintro r L' ⟨rfl, rfl⟩
  cases o with
  | none => exact RetQ.top (X := []) (.inl ⟨rfl, rfl, rfl⟩)
  | some v =>
    refine RetQ.one (X := viN v) 1 (by simp) (.inr ⟨v, rfl, ?_, congrArg (fun k => L ++ [k]) (selB_ints _ _ _)⟩)
    show selV _ _ (.tup [viA L.length (L.length + 1) v, .bool true]) = _
    have e0 : gR L.length [L.length + 1] L.length = none := by simp [gR, List.idxOf?_cons]
    have e1 := selC_ints (g := gR L.length [L.length + 1]) (L := L ++ viN v) (b := L.length) (l := v.sh) e0 (by simp)
    rw [selV_tup]
    simp only [List.map_cons, List.map_nil, expE, selC_keep gR_one, e1]
    rfl
theorem frz_cv {f : FuncId} {args : List AV} {v : Vi} (h : OSpec Try.prog f args (fun n => viA n (n + 1) v) (fun _ => viN v)) (L : List Blk) (xs : List AV) (hx : xs.map (exp 0 L) = args) :
    ISpec Try.prog f xs L fun r L' => r = viS L.length v ∧ L' = L ++ [stB v.st] := by
  refine ISpec.fin ((h L xs hx).mono ?_)
  rintro r L' ⟨rfl, rfl⟩
  refine RetQ.one (X := viN v) 1 (by simp) ⟨?_, congrArg (fun k => L ++ [k]) (selB_ints _ _ _)⟩
  have e0 : gR L.length [L.length + 1] L.length = none := by simp [gR, List.idxOf?_cons]
  have e1 := selC_ints (g := gR L.length [L.length + 1]) (L := L ++ viN v) (b := L.length) (l := v.sh) e0 (by simp)
  rw [selV_agg]
  simp only [List.map_cons, List.map_nil, selC_keep gR_one, e1]
  rfl
theorem can_someSlice : CanCall Try.prog 89 := ⟨_, Try.func89, rfl, rfl⟩
set_option maxHeartbeats 4000000 in
set_option maxRecDepth 100000 in
theorem isp_someSlice {Sg : FuncId → Option (List AV → Option AV)} (hS : Sound Try.prog Sg) (h0 : Sg 81 = none) (h1 : Sg 56 = none) {bs : List UInt8} {b n : Nat} {rL : Int → List Blk} (hC : RC bs b n rL) (hb : bs.length ≤ 2000) (p : Int) (hp : 0 ≤ p ∧ p ≤ 900000000) : ISpec Try.prog 89 [.ptr b 1 0 0] (rL p) (fun r L' => ∃ (s : Sl) (p' : Int), r = slA s ∧ slB s ∧ p ≤ p' ∧ p' ≤ p + 20 ∧ L' = rL p') := by
  refine ISpec.ret Try.func89 rfl (vc3_sound Try.pf hS hS _ _ _ ?_)
  repeat' (first | with_reducible first | refine kI (by kernel_rfl) ?_ | refine kN (by kernel_rfl) ?_ | (first | refine kB1 ?_ ?_ | refine kB2 ?_ ?_) <;> intro hp | (first | refine kD1 ?_ ?_ | refine kD2 ?_ ?_ | refine kS1 ?_ ?_ | refine kS2 ?_ ?_) <;> intro hp <;> try simp only [hp] | simp -implicitDefEqProofs (disch := omega) only [go_sem, Nat.reduceAdd, Nat.reduceSub, reduceCtorEq, Nat.reduceLT, Nat.reduceLeDiff, Nat.reduceEqDiff, Nat.reduceMul, Int.reduceToNat, ↓reduceIte, List.take_of_length_le, if_pos, if_neg, List.getElem?_set_self, List.set_set, cnE, cnV, Try.ntmps89, Try.results89,  hC.cn, h1, opQ_none])
  refine InlK_intro rfl rfl can_one ((isp_one hS h0 (hC.app _) hb p (by omega) 2 [1, 2, -1, 3, -2, 1, 5] (by decide)).mono ?_)
  rintro r L1 ⟨v0, rfl, m0, rfl⟩
  have hv0 : -500 ≤ v0 ∧ v0 ≤ 500 := by simp at m0; omega
  clear m0
  repeat' (first | with_reducible first | refine kI (by kernel_rfl) ?_ | refine kN (by kernel_rfl) ?_ | (first | refine kB1 ?_ ?_ | refine kB2 ?_ ?_) <;> intro hp | (first | refine kD1 ?_ ?_ | refine kD2 ?_ ?_ | refine kS1 ?_ ?_ | refine kS2 ?_ ?_) <;> intro hp <;> try simp only [hp] | simp -implicitDefEqProofs (disch := omega) only [go_sem, Nat.reduceAdd, Nat.reduceSub, reduceCtorEq, Nat.reduceLT, Nat.reduceLeDiff, Nat.reduceEqDiff, Nat.reduceMul, Int.reduceToNat, ↓reduceIte, List.take_of_length_le, if_pos, if_neg, List.getElem?_set_self, List.set_set, cnE, cnV, Try.ntmps89, Try.results89,  hC.cn, h0, opQ_none])
  refine InlK_intro rfl rfl can_pick ((isp_pick hS (hC.app _) hb (p + 1) (by omega) 2 (by omega)).mono ?_)
  rintro r L1 ⟨x1, rfl, -, -, rfl⟩
  repeat' (first | with_reducible first | refine kI (by kernel_rfl) ?_ | refine kN (by kernel_rfl) ?_ | (first | refine kB1 ?_ ?_ | refine kB2 ?_ ?_) <;> intro hp | (first | refine kD1 ?_ ?_ | refine kD2 ?_ ?_ | refine kS1 ?_ ?_ | refine kS2 ?_ ?_) <;> intro hp <;> try simp only [hp] | simp -implicitDefEqProofs (disch := omega) only [go_sem, Nat.reduceAdd, Nat.reduceSub, reduceCtorEq, Nat.reduceLT, Nat.reduceLeDiff, Nat.reduceEqDiff, Nat.reduceMul, Int.reduceToNat, ↓reduceIte, List.take_of_length_le, if_pos, if_neg, List.getElem?_set_self, List.set_set, cnE, cnV, Try.ntmps89, Try.results89,  hC.cn, h0, opQ_none])
  all_goals
    try
      refine InlK_intro rfl rfl can_pick ((isp_pick hS (hC.app _) hb _ (by omega) 12 (by omega)).mono ?_)
      rintro r L1 ⟨y1, rfl, k1, k2, rfl⟩
      repeat' (first | with_reducible first | refine kI (by kernel_rfl) ?_ | refine kN (by kernel_rfl) ?_ | (first | refine kB1 ?_ ?_ | refine kB2 ?_ ?_) <;> intro hp | (first | refine kD1 ?_ ?_ | refine kD2 ?_ ?_ | refine kS1 ?_ ?_ | refine kS2 ?_ ?_) <;> intro hp <;> try simp only [hp] | simp -implicitDefEqProofs (disch := omega) only [go_sem, Nat.reduceAdd, Nat.reduceSub, reduceCtorEq, Nat.reduceLT, Nat.reduceLeDiff, Nat.reduceEqDiff, Nat.reduceMul, Int.reduceToNat, ↓reduceIte, List.take_of_length_le, if_pos, if_neg, List.getElem?_set_self, List.set_set, cnE, cnV, Try.ntmps89, Try.results89,  hC.cn, h1, opQ_none])
      refine InlK_intro rfl rfl can_one ((isp_one hS h0 (hC.app _) hb _ (by omega) 2 [1, 2, 0, -1, -3, y1, 30, -30] (by simp)).mono ?_)
      rintro r L1 ⟨v1, rfl, m1, rfl⟩
      have hv1 : -500 ≤ v1 ∧ v1 ≤ 500 := by simp at m1; omega
      clear m1
      repeat' (first | with_reducible first | refine kI (by kernel_rfl) ?_ | refine kN (by kernel_rfl) ?_ | (first | refine kB1 ?_ ?_ | refine kB2 ?_ ?_) <;> intro hp | (first | refine kD1 ?_ ?_ | refine kD2 ?_ ?_ | refine kS1 ?_ ?_ | refine kS2 ?_ ?_) <;> intro hp <;> try simp only [hp] | simp -implicitDefEqProofs (disch := omega) only [go_sem, Nat.reduceAdd, Nat.reduceSub, reduceCtorEq, Nat.reduceLT, Nat.reduceLeDiff, Nat.reduceEqDiff, Nat.reduceMul, Int.reduceToNat, ↓reduceIte, List.take_of_length_le, if_pos, if_neg, List.getElem?_set_self, List.set_set, cnE, cnV, Try.ntmps89, Try.results89,  hC.cn, h0, opQ_none])
  all_goals
    refine InlK_intro rfl rfl can_pick ((isp_pick hS (hC.app _) hb _ (by omega) 2 (by omega)).mono ?_)
    rintro r L1 ⟨x2, rfl, -, -, rfl⟩
    repeat' (first | with_reducible first | refine kI (by kernel_rfl) ?_ | refine kN (by kernel_rfl) ?_ | (first | refine kB1 ?_ ?_ | refine kB2 ?_ ?_) <;> intro hp | (first | refine kD1 ?_ ?_ | refine kD2 ?_ ?_ | refine kS1 ?_ ?_ | refine kS2 ?_ ?_) <;> intro hp <;> try simp only [hp] | simp -implicitDefEqProofs (disch := omega) only [go_sem, Nat.reduceAdd, Nat.reduceSub, reduceCtorEq, Nat.reduceLT, Nat.reduceLeDiff, Nat.reduceEqDiff, Nat.reduceMul, Int.reduceToNat, ↓reduceIte, List.take_of_length_le, if_pos, if_neg, List.getElem?_set_self, List.set_set, cnE, cnV, Try.ntmps89, Try.results89,  hC.cn, h0, opQ_none])
  all_goals
    try
      refine InlK_intro rfl rfl can_pick ((isp_pick hS (hC.app _) hb _ (by omega) 12 (by omega)).mono ?_)
      rintro r L1 ⟨y2, rfl, k1, k2, rfl⟩
      repeat' (first | with_reducible first | refine kI (by kernel_rfl) ?_ | refine kN (by kernel_rfl) ?_ | (first | refine kB1 ?_ ?_ | refine kB2 ?_ ?_) <;> intro hp | (first | refine kD1 ?_ ?_ | refine kD2 ?_ ?_ | refine kS1 ?_ ?_ | refine kS2 ?_ ?_) <;> intro hp <;> try simp only [hp] | simp -implicitDefEqProofs (disch := omega) only [go_sem, Nat.reduceAdd, Nat.reduceSub, reduceCtorEq, Nat.reduceLT, Nat.reduceLeDiff, Nat.reduceEqDiff, Nat.reduceMul, Int.reduceToNat, ↓reduceIte, List.take_of_length_le, if_pos, if_neg, List.getElem?_set_self, List.set_set, cnE, cnV, Try.ntmps89, Try.results89,  hC.cn, h1, opQ_none])
      refine InlK_intro rfl rfl can_one ((isp_one hS h0 (hC.app _) hb _ (by omega) 2 [4, 3, -1, -2, 0, y2, 30, -30] (by simp)).mono ?_)
      rintro r L1 ⟨v2, rfl, m2, rfl⟩
      have hv2 : -500 ≤ v2 ∧ v2 ≤ 500 := by simp at m2; omega
      clear m2
      repeat' (first | with_reducible first | refine kI (by kernel_rfl) ?_ | refine kN (by kernel_rfl) ?_ | (first | refine kB1 ?_ ?_ | refine kB2 ?_ ?_) <;> intro hp | (first | refine kD1 ?_ ?_ | refine kD2 ?_ ?_ | refine kS1 ?_ ?_ | refine kS2 ?_ ?_) <;> intro hp <;> try simp only [hp] | simp -implicitDefEqProofs (disch := omega) only [go_sem, Nat.reduceAdd, Nat.reduceSub, reduceCtorEq, Nat.reduceLT, Nat.reduceLeDiff, Nat.reduceEqDiff, Nat.reduceMul, Int.reduceToNat, ↓reduceIte, List.take_of_length_le, if_pos, if_neg, List.getElem?_set_self, List.set_set, cnE, cnV, Try.ntmps89, Try.results89,  hC.cn, h0, opQ_none])
  all_goals
    refine InlK_intro rfl rfl can_pick ((isp_pick hS (hC.app _) hb _ (by omega) 24 (by omega)).mono ?_)
    rintro r L1 ⟨x3, rfl, -, -, rfl⟩
    repeat' (first | with_reducible first | refine kI (by kernel_rfl) ?_ | refine kN (by kernel_rfl) ?_ | (first | refine kB1 ?_ ?_ | refine kB2 ?_ ?_) <;> intro hp | (first | refine kD1 ?_ ?_ | refine kD2 ?_ ?_ | refine kS1 ?_ ?_ | refine kS2 ?_ ?_) <;> intro hp <;> try simp only [hp] | simp -implicitDefEqProofs (disch := omega) only [go_sem, Nat.reduceAdd, Nat.reduceSub, reduceCtorEq, Nat.reduceLT, Nat.reduceLeDiff, Nat.reduceEqDiff, Nat.reduceMul, Int.reduceToNat, ↓reduceIte, List.take_of_length_le, if_pos, if_neg, List.getElem?_set_self, List.set_set, cnE, cnV, Try.ntmps89, Try.results89,  hC.cn, h1, opQ_none])
  all_goals
    try
      refine InlK_intro rfl rfl can_one ((isp_one hS h0 (hC.app _) hb _ (by omega) 2 [0, 201] (by decide)).mono ?_)
      rintro r L1 ⟨v3, rfl, m3, rfl⟩
      have hv3 : -500 ≤ v3 ∧ v3 ≤ 500 := by simp at m3; omega
      clear m3
      repeat' (first | with_reducible first | refine kI (by kernel_rfl) ?_ | refine kN (by kernel_rfl) ?_ | (first | refine kB1 ?_ ?_ | refine kB2 ?_ ?_) <;> intro hp | (first | refine kD1 ?_ ?_ | refine kD2 ?_ ?_ | refine kS1 ?_ ?_ | refine kS2 ?_ ?_) <;> intro hp <;> try simp only [hp] | simp -implicitDefEqProofs (disch := omega) only [go_sem, Nat.reduceAdd, Nat.reduceSub, reduceCtorEq, Nat.reduceLT, Nat.reduceLeDiff, Nat.reduceEqDiff, Nat.reduceMul, Int.reduceToNat, ↓reduceIte, List.take_of_length_le, if_pos, if_neg, List.getElem?_set_self, List.set_set, cnE, cnV, Try.ntmps89, Try.results89,  hC.cn])
  all_goals
    try
      refine InlK_intro rfl rfl can_one ((isp_one hS h0 (hC.app _) hb _ (by omega) 2 [1, -101] (by decide)).mono ?_)
      rintro r L1 ⟨v3, rfl, m3, rfl⟩
      have hv3 : -500 ≤ v3 ∧ v3 ≤ 500 := by simp at m3; omega
      clear m3
      repeat' (first | with_reducible first | refine kI (by kernel_rfl) ?_ | refine kN (by kernel_rfl) ?_ | (first | refine kB1 ?_ ?_ | refine kB2 ?_ ?_) <;> intro hp | (first | refine kD1 ?_ ?_ | refine kD2 ?_ ?_ | refine kS1 ?_ ?_ | refine kS2 ?_ ?_) <;> intro hp <;> try simp only [hp] | simp -implicitDefEqProofs (disch := omega) only [go_sem, Nat.reduceAdd, Nat.reduceSub, reduceCtorEq, Nat.reduceLT, Nat.reduceLeDiff, Nat.reduceEqDiff, Nat.reduceMul, Int.reduceToNat, ↓reduceIte, List.take_of_length_le, if_pos, if_neg, List.getElem?_set_self, List.set_set, cnE, cnV, Try.ntmps89, Try.results89,  hC.cn])
  all_goals
    refine hC.ret0 ⟨⟨_, _, _, _, _⟩, _, rfl, ?_, ?_, ?_, rfl⟩
    · unfold slB
      dsimp only
      omega
    · omega
    · omega
end Go.Proofs.Ytgpflkmelindfaa
