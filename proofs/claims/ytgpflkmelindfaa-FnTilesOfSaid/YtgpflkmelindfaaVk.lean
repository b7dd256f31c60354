/- Contracts of functions that the laws of this seat call. -/
import Derived.Test.YtgpflkmelindfaaVj
set_option linter.all false
namespace Go.Proofs.Ytgpflkmelindfaa
open Go Go.Ev Go.RowKit Go.Ev.Enc Go.Pl

/-- a view that is data -/
abbrev viD (v : Vi) : AV := .agg [i64 v.b, ints 1 v.sh, ints 1 v.st]
theorem gR_ge {n k : Nat} (h : n ≤ k) : gR n [] k = none := by
  unfold gR
  rw [if_neg (by omega)]; rfl
theorem fr_vi {L : List Blk} {n k : Nat} {v : Vi} (hk : n ≤ k) {m : Nat} (hm : v.st.length = m) (h : L[k]? = some (stB v.st)) : selV (gR n []) L (.agg [i64 v.b, ints 1 v.sh, .sl k m 0 m m]) = viD v := by
  subst hm
  rw [selV_agg]
  simp only [List.map_cons, List.map_nil, selC_ints (gR_ge hk) h, selC_d, selC_int]
theorem evApp_rcI {bs : List UInt8} {b n : Nat} {rL : Int → List Blk} (hC : RC bs b n rL) (p : Int) (A : Blk) (X : List Blk) {by' k : Nat} {q : List Int} {x : Int} (hk : q.length = k) (h1 : (k + 1) * by' ≤ 140737488355328) (h2 : k + 1 ≤ 9223372036854775807) :
    evApp (rL p ++ (A :: ⟨1, q.map fun n => .int .i64 n⟩ :: X)) (.sl (n + 1) k 0 k k) [.int .i64 x] 1 by' = some (.sl (n + 1) (k + 1) 0 (k + 1) (k + 1), rL p ++ (A :: ⟨1, (q ++ [x]).map fun n => .int .i64 n⟩ :: X)) := by
  rw [evApp_int (q := q) (by rw [hC.at']; rfl) hk h1 h2, hC.sat']; rfl
set_option maxHeartbeats 4000000 in
set_option maxRecDepth 100000 in
theorem isp_someView {Sg : FuncId → Option (List AV → Option AV)} (hS : Sound Try.prog Sg) (h0 : Sg 81 = none) (h1 : Sg 56 = none) (h2 : Sg 120 = none) {bs : List UInt8} {b n : Nat} {rL : Int → List Blk} (hC : RC bs b n rL) (hb : bs.length ≤ 2000) (p : Int) (hp : 0 ≤ p ∧ p ≤ 800000000) (hgv : ∀ {b n : Nat} {rL : Int → List Blk} (hC : RC bs b n rL) (p : Int) (hp : 0 ≤ p ∧ p ≤ 800000000), ISpec Try.prog 120 [.ptr b 1 0 0] (rL p) fun r L' => ∃ (v : Vi) (p' : Int), v.sh.length ≤ 4 ∧ v.st.length = v.sh.length ∧ r = viS n v ∧ p ≤ p' ∧ p' ≤ p + 200 ∧ L' = rL p' ++ [stB v.st]) : ISpec Try.prog 82 [.ptr b 1 0 0] (rL p) (fun r L' => ∃ (v : Vi) (p' : Int), v.sh.length ≤ 4 ∧ v.st.length ≤ 5 ∧ r = viD v ∧ p ≤ p' ∧ p' ≤ p + 210 ∧ L' = rL p') := by
  refine ISpec.ret Try.func82 rfl (vc3_sound Try.pf hS hS _ _ _ ?_)
  repeat' (first | with_reducible first | refine kI (by kernel_rfl) ?_ | (first | refine kB1 ?_ ?_ | refine kB2 ?_ ?_) <;> intro hp | (first | refine kD1 ?_ ?_ | refine kD2 ?_ ?_ | refine kS1 ?_ ?_ | refine kS2 ?_ ?_) <;> intro hp <;> try simp only [hp] | simp -implicitDefEqProofs (disch := omega) only [go_sem, Nat.reduceAdd, Nat.reduceSub, reduceCtorEq, Nat.reduceLT, Nat.reduceLeDiff, Nat.reduceEqDiff, Nat.reduceMul, Int.reduceToNat, ↓reduceIte, List.take_of_length_le, if_pos, if_neg, List.getElem?_set_self, List.set_set, cnE, cnV, Try.ntmps82, Try.results82,  hC.cn, h2, opQ_none])
  refine InlK_intro rfl rfl can_goodView ((hgv (hC.app [_]) p (by omega)).mono ?_)
  rintro r L1 ⟨v, p1, k1, k2, rfl, k3, k4, rfl⟩
  have hA := fun p X => evApp_rcI hC p ⟨3, [.agg [i64 0, .nilS, .nilS]]⟩ X (by' := 8) (k := v.st.length) (q := v.st) (x := 1) rfl (by omega) (by omega)
  repeat' (first | with_reducible first | refine kI (by kernel_rfl) ?_ | (first | refine kB1 ?_ ?_ | refine kB2 ?_ ?_) <;> intro hp | (first | refine kD1 ?_ ?_ | refine kD2 ?_ ?_ | refine kS1 ?_ ?_ | refine kS2 ?_ ?_) <;> intro hp <;> try simp only [hp] | simp -implicitDefEqProofs (disch := omega) only [go_sem, Nat.reduceAdd, Nat.reduceSub, reduceCtorEq, Nat.reduceLT, Nat.reduceLeDiff, Nat.reduceEqDiff, Nat.reduceMul, Int.reduceToNat, ↓reduceIte, List.take_of_length_le, if_pos, if_neg, List.getElem?_set_self, List.set_set, cnE, cnV, Try.ntmps82, Try.results82,  hC.cn, h0, opQ_none])
  refine InlK_intro rfl rfl can_pick ((isp_pick hS (hC.app _) hb _ (by omega) 24 (by omega)).mono ?_)
  rintro r L1 ⟨ch, rfl, -, -, rfl⟩
  have fin : ∀ (p2 b' : Int) (A B : Blk) (st' : List Int) (m : Nat), p ≤ p2 → p2 ≤ p + 210 → st'.length ≤ 5 → st'.length = m → RetQ (rL p) (fun r L' => ∃ (v : Vi) (p' : Int), v.sh.length ≤ 4 ∧ v.st.length ≤ 5 ∧ r = viD v ∧ p ≤ p' ∧ p' ≤ p + 210 ∧ L' = rL p') (.agg [i64 b', ints 1 v.sh, .sl (n + 1) m 0 m m]) (rL p2 ++ [A, stB st', B]) := fun p2 b' A B st' m w1 w2 w3 w4 =>
    hC.ret0 ⟨⟨b', v.sh, st'⟩, p2, k1, w3, fr_vi (v := ⟨b', v.sh, st'⟩) (by omega) w4 (by rw [hC.at']; rfl), w1, w2, rfl⟩
  repeat' (first | with_reducible first | refine kI (by kernel_rfl) ?_ | (first | refine kB1 ?_ ?_ | refine kB2 ?_ ?_) <;> intro hp | (first | refine kD1 ?_ ?_ | refine kD2 ?_ ?_ | refine kS1 ?_ ?_ | refine kS2 ?_ ?_) <;> intro hp <;> try simp only [hp] | simp -implicitDefEqProofs (disch := omega) only [go_sem, Nat.reduceAdd, Nat.reduceSub, reduceCtorEq, Nat.reduceLT, Nat.reduceLeDiff, Nat.reduceEqDiff, Nat.reduceMul, Int.reduceToNat, ↓reduceIte, List.take_of_length_le, if_pos, if_neg, List.getElem?_set_self, List.set_set, cnE, cnV, Try.ntmps82, Try.results82,  hC.cn, h1, opQ_none, hA])
  · refine InlK_intro rfl rfl can_one ((isp_one hS h0 (hC.app _) hb _ (by omega) 2 [-1, 60, 61] (by decide)).mono ?_)
    rintro r L1 ⟨x, rfl, -, rfl⟩
    repeat' (first | with_reducible first | refine kI (by kernel_rfl) ?_ | (first | refine kB1 ?_ ?_ | refine kB2 ?_ ?_) <;> intro hp | (first | refine kD1 ?_ ?_ | refine kD2 ?_ ?_ | refine kS1 ?_ ?_ | refine kS2 ?_ ?_) <;> intro hp <;> try simp only [hp] | simp -implicitDefEqProofs (disch := omega) only [go_sem, Nat.reduceAdd, Nat.reduceSub, reduceCtorEq, Nat.reduceLT, Nat.reduceLeDiff, Nat.reduceEqDiff, Nat.reduceMul, Int.reduceToNat, ↓reduceIte, List.take_of_length_le, if_pos, if_neg, List.getElem?_set_self, List.set_set, cnE, cnV, Try.ntmps82, Try.results82,  hC.cn])
    exact fin _ _ _ _ _ _ (by omega) (by omega) (by omega) rfl
  · exact fin _ _ _ _ (v.st ++ [1]) _ (by omega) (by omega) (by rw [List.length_append]; simp only [List.length_cons, List.length_nil]; omega) (by simp)
  · refine DrawQ.any [([0, 1, 2, 3], 4), ([5], 6)] [] [0, 1] (by kernel_rfl) ?_
    repeat' (first | with_reducible first | refine kI (by kernel_rfl) ?_ | (first | refine kB1 ?_ ?_ | refine kB2 ?_ ?_) <;> intro hp | (first | refine kD1 ?_ ?_ | refine kD2 ?_ ?_ | refine kS1 ?_ ?_ | refine kS2 ?_ ?_) <;> intro hp <;> try simp only [hp] | simp -implicitDefEqProofs (disch := omega) only [go_sem, Nat.reduceAdd, Nat.reduceSub, reduceCtorEq, Nat.reduceLT, Nat.reduceLeDiff, Nat.reduceEqDiff, Nat.reduceMul, Int.reduceToNat, ↓reduceIte, List.take_of_length_le, if_pos, if_neg, List.getElem?_set_self, List.set_set, cnE, cnV, Try.ntmps82, Try.results82,  hC.cn, h1, opQ_none])
    refine InlK_intro rfl rfl can_one ((isp_one hS h0 (hC.app _) hb _ (by omega) 2 [61, -61, 60] (by decide)).mono ?_)
    rintro r L1 ⟨x, rfl, -, rfl⟩
    have htk2 : List.take v.st.length (v.st.set 0 x) = v.st.set 0 x := List.take_of_length_le (by simp)
    repeat' (first | with_reducible first | refine kI (by kernel_rfl) ?_ | (first | refine kB1 ?_ ?_ | refine kB2 ?_ ?_) <;> intro hp | (first | refine kD1 ?_ ?_ | refine kD2 ?_ ?_ | refine kS1 ?_ ?_ | refine kS2 ?_ ?_) <;> intro hp <;> try simp only [hp] | simp -implicitDefEqProofs (disch := omega) only [go_sem, Nat.reduceAdd, Nat.reduceSub, reduceCtorEq, Nat.reduceLT, Nat.reduceLeDiff, Nat.reduceEqDiff, Nat.reduceMul, Int.reduceToNat, ↓reduceIte, List.take_of_length_le, if_pos, if_neg, List.getElem?_set_self, List.set_set, cnE, cnV, Try.ntmps82, Try.results82,  hC.cn, map_setI, htk2])
    exact fin _ _ _ _ (v.st.set 0 x) _ (by omega) (by omega) (by rw [List.length_set]; omega) List.length_set
  · exact fin _ _ _ _ _ _ (by omega) (by omega) (by omega) rfl
  · exact fin _ _ _ _ _ _ (by omega) (by omega) (by omega) rfl
end Go.Proofs.Ytgpflkmelindfaa
