/- Contracts of functions that the laws of this seat call. -/
import Derived.Test.YtgpflkmelindfaaVg
set_option linter.all false
namespace Go.Proofs.Ytgpflkmelindfaa
open Go Go.Ev Go.RowKit Go.Ev.Enc Go.Pl

theorem can_permuted : CanCall Try.prog 154 := ⟨_, Try.func154, rfl, rfl⟩
def PerV : Prop := ∀ (v : Vi) (o : List Int), v.sh.length ≤ 4 ∧ v.st.length = v.sh.length → 0 < o.length ∧ o.length ≤ 1000 → (∀ x ∈ o, 0 ≤ x ∧ x < v.sh.length) → OSpec Try.prog 154 [.agg [i64 v.b, ints 0 v.sh, ints 0 v.st], ints 0 o] (fun n => viA n (n + 1) (perF v o)) (fun _ => viN (perF v o))
def perD (v : Vi) (o : List Int) : Option Vi := if viewOK v = true ∧ ordOK o v.sh.length = true then madeF (perF v o) else none
set_option maxHeartbeats 4000000 in
set_option maxRecDepth 100000 in
theorem o_PermuteDims {Sg : FuncId → Option (List AV → Option AV)} (hS : Sound Try.prog Sg) (hv : Sg 69 = some (F1 gValidV)) (hi : Sg 153 = some (F2 gOrd)) (n1 : Sg 154 = none) (n2 : Sg 93 = none) (v : Vi) (o : List Int) (h : v.sh.length ≤ 4 ∧ v.st.length ≤ 5) (hd : 0 < v.sh.length) (ho : o.length ≤ 1000) (hper : PerV) (hmade : MadeV) : OSpec Try.prog 134 [.agg [i64 v.b, ints 0 v.sh, ints 0 v.st], ints 0 o] (mdR (perD v o)) (mdN (perD v o)) := by
  refine OSpec.intro Try.func134 rfl (vc3_sound Try.pf hS hS _ _ _ ?_)
  have q1 := gValidV_eq (v := v) ⟨by omega, by omega⟩
  have q2 := gOrd_eq (o := o) (n := v.sh.length) ⟨by omega, by omega, by omega⟩
  unfold perD
  cases e1 : viewOK v with
  | false =>
    rw [e1] at q1
    repeat' (first | with_reducible first | refine kI (by kernel_rfl) ?_ | (first | refine kB1 ?_ ?_ | refine kB2 ?_ ?_) <;> intro hp | (first | refine kD1 ?_ ?_ | refine kD2 ?_ ?_ | refine kS1 ?_ ?_ | refine kS2 ?_ ?_) <;> intro hp <;> try simp only [hp] | simp -implicitDefEqProofs (disch := omega) only [go_sem, Nat.reduceAdd, Nat.reduceSub, reduceCtorEq, Nat.reduceLT, Nat.reduceLeDiff, Nat.reduceEqDiff, Nat.reduceMul, Int.reduceToNat, ↓reduceIte, List.take_of_length_le, if_pos, if_neg, List.getElem?_set_self, List.set_set, cnE, cnV, Try.ntmps134, Try.results134,  hv, q1])
    exact own_md0
  | true =>
    rw [e1] at q1
    cases e2 : ordOK o v.sh.length with
    | false =>
      rw [e2] at q2
      repeat' (first | with_reducible first | refine kI (by kernel_rfl) ?_ | (first | refine kB1 ?_ ?_ | refine kB2 ?_ ?_) <;> intro hp | (first | refine kD1 ?_ ?_ | refine kD2 ?_ ?_ | refine kS1 ?_ ?_ | refine kS2 ?_ ?_) <;> intro hp <;> try simp only [hp] | simp -implicitDefEqProofs (disch := omega) only [go_sem, Nat.reduceAdd, Nat.reduceSub, reduceCtorEq, Nat.reduceLT, Nat.reduceLeDiff, Nat.reduceEqDiff, Nat.reduceMul, Int.reduceToNat, ↓reduceIte, List.take_of_length_le, if_pos, if_neg, List.getElem?_set_self, List.set_set, cnE, cnV, Try.ntmps134, Try.results134,  hv, q1, hi, q2])
      exact own_md0
    | true =>
      rw [e2] at q2
      obtain ⟨k1, k2, _⟩ := viewOK_iff.1 e1
      unfold ordOK at e2
      simp only [Bool.and_eq_true, beq_iff_eq, List.all_eq_true] at e2
      repeat' (first | with_reducible first | refine kI (by kernel_rfl) ?_ | (first | refine kB1 ?_ ?_ | refine kB2 ?_ ?_) <;> intro hp | (first | refine kD1 ?_ ?_ | refine kD2 ?_ ?_ | refine kS1 ?_ ?_ | refine kS2 ?_ ?_) <;> intro hp <;> try simp only [hp] | simp -implicitDefEqProofs (disch := omega) only [go_sem, Nat.reduceAdd, Nat.reduceSub, reduceCtorEq, Nat.reduceLT, Nat.reduceLeDiff, Nat.reduceEqDiff, Nat.reduceMul, Int.reduceToNat, ↓reduceIte, List.take_of_length_le, if_pos, if_neg, List.getElem?_set_self, List.set_set, cnE, cnV, Try.ntmps134, Try.results134,  hv, q1, hi, q2, n1, opQ_none])
      refine InlK_intro rfl rfl can_permuted ((hper v o ⟨by omega, k2⟩ ⟨by omega, ho⟩ (fun x hx => by have := e2.2.1 x hx; unfold inR at this; simp only [Bool.and_eq_true, decide_eq_true_eq] at this; omega)).call (by simp only [go_sem, ints]) ?_)
      repeat' (first | with_reducible first | refine kI (by kernel_rfl) ?_ | (first | refine kB1 ?_ ?_ | refine kB2 ?_ ?_) <;> intro hp | (first | refine kD1 ?_ ?_ | refine kD2 ?_ ?_ | refine kS1 ?_ ?_ | refine kS2 ?_ ?_) <;> intro hp <;> try simp only [hp] | simp -implicitDefEqProofs (disch := omega) only [go_sem, Nat.reduceAdd, Nat.reduceSub, reduceCtorEq, Nat.reduceLT, Nat.reduceLeDiff, Nat.reduceEqDiff, Nat.reduceMul, Int.reduceToNat, ↓reduceIte, List.take_of_length_le, if_pos, if_neg, List.getElem?_set_self, List.set_set, cnE, cnV, Try.ntmps134, Try.results134,  n2, opQ_none])
      have hl1 := pkF_len v.sh o
      have hl2 := pkF_len v.st o
      obtain ⟨w, hw⟩ : ∃ w, perF v o = w := ⟨_, rfl⟩
      have hw1 : w.sh.length = o.length := by rw [← hw]; exact hl1
      have hw2 : w.st.length = o.length := by rw [← hw]; exact hl2
      rw [hw]
      refine InlK_intro rfl rfl can_made ((hmade w ⟨by omega, by omega⟩).call (by simp only [go_sem, ints]) ?_)
      cases e3 : madeF w with
      | none =>
        repeat' (first | with_reducible first | refine kI (by kernel_rfl) ?_ | (first | refine kB1 ?_ ?_ | refine kB2 ?_ ?_) <;> intro hp | (first | refine kD1 ?_ ?_ | refine kD2 ?_ ?_ | refine kS1 ?_ ?_ | refine kS2 ?_ ?_) <;> intro hp <;> try simp only [hp] | simp -implicitDefEqProofs (disch := omega) only [go_sem, Nat.reduceAdd, Nat.reduceSub, reduceCtorEq, Nat.reduceLT, Nat.reduceLeDiff, Nat.reduceEqDiff, Nat.reduceMul, Int.reduceToNat, ↓reduceIte, List.take_of_length_le, if_pos, if_neg, List.getElem?_set_self, List.set_set, cnE, cnV, Try.ntmps134, Try.results134,  mdR, mdN])
        exact own_md0
      | some u =>
        repeat' (first | with_reducible first | refine kI (by kernel_rfl) ?_ | (first | refine kB1 ?_ ?_ | refine kB2 ?_ ?_) <;> intro hp | (first | refine kD1 ?_ ?_ | refine kD2 ?_ ?_ | refine kS1 ?_ ?_ | refine kS2 ?_ ?_) <;> intro hp <;> try simp only [hp] | simp -implicitDefEqProofs (disch := omega) only [go_sem, Nat.reduceAdd, Nat.reduceSub, reduceCtorEq, Nat.reduceLT, Nat.reduceLeDiff, Nat.reduceEqDiff, Nat.reduceMul, Int.reduceToNat, ↓reduceIte, List.take_of_length_le, if_pos, if_neg, List.getElem?_set_self, List.set_set, cnE, cnV, Try.ntmps134, Try.results134,  mdR, mdN])
        exact own_md (b := 4) (c := 5) rfl rfl (by decide)
/-! ### windows -/
def winG (v : Vi) (d : Nat) (k : Int) : Vi := ⟨v.b, v.sh.set d (IntKind.i64.wrap (IntKind.i64.wrap (v.sh.getD d 0 - k) + 1)) ++ [k], v.st ++ [v.st.getD d 0]⟩
def winF (v : Vi) (d : Nat) (k : Int) : Option Vi := if viewOK v = true ∧ inR k 1 (v.sh.getD d 0) = true then madeF (winG v d k) else none
set_option maxHeartbeats 4000000 in
set_option maxRecDepth 100000 in
theorem o_WindowsOf {Sg : FuncId → Option (List AV → Option AV)} (hS : Sound Try.prog Sg) (hv : Sg 69 = some (F1 gValidV)) (hi : Sg 91 = some (F2 gIsDim)) (hr : Sg 60 = some (F3 gInRange)) (n1 : Sg 114 = none) (n2 : Sg 93 = none) (v : Vi) (d : Nat) (k : Int) (h : v.sh.length ≤ 4 ∧ v.st.length ≤ 5) (hd : d < v.sh.length) (hcv : CopyVi) (hmade : MadeV) : OSpec Try.prog 137 [.agg [i64 v.b, ints 0 v.sh, ints 0 v.st], i64 (d : Nat), i64 k] (mdR (winF v d k)) (mdN (winF v d k)) := by
  refine OSpec.intro Try.func137 rfl (vc3_sound Try.pf hS hS _ _ _ ?_)
  have q1 := gValidV_eq (v := v) ⟨by omega, by omega⟩
  have q2 := gIsDim_eq (v := v) (by omega) (d : Int)
  have hir : inR (d : Int) 0 (v.sh.length - 1) = true := by unfold inR; simp only [Bool.and_eq_true, decide_eq_true_eq]; omega
  rw [hir] at q2
  have q3 := gInRange_eq k 1 (v.sh.getD d 0)
  unfold winF
  cases e1 : viewOK v with
  | false =>
    rw [e1] at q1
    repeat' (first | with_reducible first | refine kI (by kernel_rfl) ?_ | (first | refine kB1 ?_ ?_ | refine kB2 ?_ ?_) <;> intro hp | (first | refine kD1 ?_ ?_ | refine kD2 ?_ ?_ | refine kS1 ?_ ?_ | refine kS2 ?_ ?_) <;> intro hp <;> try simp only [hp] | simp -implicitDefEqProofs (disch := omega) only [go_sem, Nat.reduceAdd, Nat.reduceSub, reduceCtorEq, Nat.reduceLT, Nat.reduceLeDiff, Nat.reduceEqDiff, Nat.reduceMul, Int.reduceToNat, ↓reduceIte, List.take_of_length_le, if_pos, if_neg, List.getElem?_set_self, List.set_set, cnE, cnV, Try.ntmps137, Try.results137,  hv, q1])
    exact own_md0
  | true =>
    rw [e1] at q1
    cases e2 : inR k 1 (v.sh.getD d 0) with
    | false =>
      rw [e2] at q3
      repeat' (first | with_reducible first | refine kI (by kernel_rfl) ?_ | (first | refine kB1 ?_ ?_ | refine kB2 ?_ ?_) <;> intro hp | (first | refine kD1 ?_ ?_ | refine kD2 ?_ ?_ | refine kS1 ?_ ?_ | refine kS2 ?_ ?_) <;> intro hp <;> try simp only [hp] | simp -implicitDefEqProofs (disch := omega) only [go_sem, Nat.reduceAdd, Nat.reduceSub, reduceCtorEq, Nat.reduceLT, Nat.reduceLeDiff, Nat.reduceEqDiff, Nat.reduceMul, Int.reduceToNat, ↓reduceIte, List.take_of_length_le, if_pos, if_neg, List.getElem?_set_self, List.set_set, cnE, cnV, Try.ntmps137, Try.results137,  hv, q1, hi, q2, hr, q3])
      exact own_md0
    | true =>
      rw [e2] at q3
      obtain ⟨k1, k2, _⟩ := viewOK_iff.1 e1
      have hds : d < v.st.length := by omega
      repeat' (first | with_reducible first | refine kI (by kernel_rfl) ?_ | (first | refine kB1 ?_ ?_ | refine kB2 ?_ ?_) <;> intro hp | (first | refine kD1 ?_ ?_ | refine kD2 ?_ ?_ | refine kS1 ?_ ?_ | refine kS2 ?_ ?_) <;> intro hp <;> try simp only [hp] | simp -implicitDefEqProofs (disch := omega) only [go_sem, Nat.reduceAdd, Nat.reduceSub, reduceCtorEq, Nat.reduceLT, Nat.reduceLeDiff, Nat.reduceEqDiff, Nat.reduceMul, Int.reduceToNat, ↓reduceIte, List.take_of_length_le, if_pos, if_neg, List.getElem?_set_self, List.set_set, cnE, cnV, Try.ntmps137, Try.results137,  hv, q1, hi, q2, hr, q3, n1, opQ_none])
      refine InlK_intro rfl rfl can_copyView ((hcv v ⟨by omega, by omega⟩).call (by simp only [go_sem, ints]) ?_)
      repeat' (first | with_reducible first | refine kI (by kernel_rfl) ?_ | (first | refine kB1 ?_ ?_ | refine kB2 ?_ ?_) <;> intro hp | (first | refine kD1 ?_ ?_ | refine kD2 ?_ ?_ | refine kS1 ?_ ?_ | refine kS2 ?_ ?_) <;> intro hp <;> try simp only [hp] | simp -implicitDefEqProofs (disch := omega) only [go_sem, Nat.reduceAdd, Nat.reduceSub, reduceCtorEq, Nat.reduceLT, Nat.reduceLeDiff, Nat.reduceEqDiff, Nat.reduceMul, Int.reduceToNat, ↓reduceIte, List.take_of_length_le, if_pos, if_neg, List.getElem?_set_self, List.set_set, cnE, cnV, Try.ntmps137, Try.results137])
      refine DrawQ.any [([0, 1, 2, 3, 4, 5, 6, 7, 8, 9, 10, 11], 12)] [] [] (by kernel_rfl) ?_
      have hls : (v.sh.set d (IntKind.i64.wrap (IntKind.i64.wrap (v.sh.getD d 0 - k) + 1))).length = v.sh.length := List.length_set
      repeat' (first | with_reducible first | refine kI (by kernel_rfl) ?_ | (first | refine kB1 ?_ ?_ | refine kB2 ?_ ?_) <;> intro hp | (first | refine kD1 ?_ ?_ | refine kD2 ?_ ?_ | refine kS1 ?_ ?_ | refine kS2 ?_ ?_) <;> intro hp <;> try simp only [hp] | simp -implicitDefEqProofs (disch := omega) only [go_sem, Nat.reduceAdd, Nat.reduceSub, reduceCtorEq, Nat.reduceLT, Nat.reduceLeDiff, Nat.reduceEqDiff, Nat.reduceMul, Int.reduceToNat, ↓reduceIte, List.take_of_length_le, if_pos, if_neg, List.getElem?_set_self, List.set_set, cnE, cnV, Try.ntmps137, Try.results137,  map_setI, hls])
      refine DrawQ.any [([0, 1, 2, 3, 4, 5, 6, 7, 8, 9], 10)] [] [] (by kernel_rfl) ?_
      repeat' (first | with_reducible first | refine kI (by kernel_rfl) ?_ | (first | refine kB1 ?_ ?_ | refine kB2 ?_ ?_) <;> intro hp | (first | refine kD1 ?_ ?_ | refine kD2 ?_ ?_ | refine kS1 ?_ ?_ | refine kS2 ?_ ?_) <;> intro hp <;> try simp only [hp] | simp -implicitDefEqProofs (disch := omega) only [go_sem, Nat.reduceAdd, Nat.reduceSub, reduceCtorEq, Nat.reduceLT, Nat.reduceLeDiff, Nat.reduceEqDiff, Nat.reduceMul, Int.reduceToNat, ↓reduceIte, List.take_of_length_le, if_pos, if_neg, List.getElem?_set_self, List.set_set, cnE, cnV, Try.ntmps137, Try.results137,  n2, opQ_none])
      have hw1 : (winG v d k).sh.length = v.sh.length + 1 := by unfold winG; simp
      have hw2 : (winG v d k).st.length = v.st.length + 1 := by unfold winG; simp
      refine InlK_intro rfl rfl can_made ((hmade (winG v d k) ⟨by omega, by omega⟩).call (by
        have t1 : List.take (v.sh.length + 1) (v.sh.set d (IntKind.i64.wrap (IntKind.i64.wrap (v.sh.getD d 0 - k) + 1)) ++ [k]) = v.sh.set d (IntKind.i64.wrap (IntKind.i64.wrap (v.sh.getD d 0 - k) + 1)) ++ [k] := List.take_of_length_le (by simp)
        have t2 : List.take (v.st.length + 1) (v.st ++ [v.st.getD d 0]) = v.st ++ [v.st.getD d 0] := List.take_of_length_le (by simp)
        simp only [go_sem, ints, winG, hls, t1, t2]) ?_)
      cases e3 : madeF (winG v d k) with
      | none =>
        repeat' (first | with_reducible first | refine kI (by kernel_rfl) ?_ | (first | refine kB1 ?_ ?_ | refine kB2 ?_ ?_) <;> intro hp | (first | refine kD1 ?_ ?_ | refine kD2 ?_ ?_ | refine kS1 ?_ ?_ | refine kS2 ?_ ?_) <;> intro hp <;> try simp only [hp] | simp -implicitDefEqProofs (disch := omega) only [go_sem, Nat.reduceAdd, Nat.reduceSub, reduceCtorEq, Nat.reduceLT, Nat.reduceLeDiff, Nat.reduceEqDiff, Nat.reduceMul, Int.reduceToNat, ↓reduceIte, List.take_of_length_le, if_pos, if_neg, List.getElem?_set_self, List.set_set, cnE, cnV, Try.ntmps137, Try.results137,  mdR, mdN])
        exact own_md0
      | some u =>
        repeat' (first | with_reducible first | refine kI (by kernel_rfl) ?_ | (first | refine kB1 ?_ ?_ | refine kB2 ?_ ?_) <;> intro hp | (first | refine kD1 ?_ ?_ | refine kD2 ?_ ?_ | refine kS1 ?_ ?_ | refine kS2 ?_ ?_) <;> intro hp <;> try simp only [hp] | simp -implicitDefEqProofs (disch := omega) only [go_sem, Nat.reduceAdd, Nat.reduceSub, reduceCtorEq, Nat.reduceLT, Nat.reduceLeDiff, Nat.reduceEqDiff, Nat.reduceMul, Int.reduceToNat, ↓reduceIte, List.take_of_length_le, if_pos, if_neg, List.getElem?_set_self, List.set_set, cnE, cnV, Try.ntmps137, Try.results137,  mdR, mdN])
        exact own_md (b := 5) (c := 6) rfl rfl (by decide)
/-! ### one more dimension -/
def InsV : Prop := ∀ (l : List Int) (a : Nat) (x : Int), l.length ≤ 1048576 → a ≤ l.length → OSpec Try.prog 155 [ints 0 l, i64 (a : Nat), i64 x] (fun n => .sl n (l.length + 1) 0 (l.length + 1) (l.length + 1)) (fun _ => [⟨1, (insF l a x).map fun n => .int .i64 n⟩])
def addG (v : Vi) (d : Nat) : Vi := ⟨v.b, insF v.sh d 1, insF v.st d 0⟩
def addF (v : Vi) (d : Nat) : Option Vi := if viewOK v = true ∧ ¬ v.sh.length = 4 then madeF (addG v d) else none
set_option maxHeartbeats 4000000 in
set_option maxRecDepth 100000 in
theorem o_AddDim {Sg : FuncId → Option (List AV → Option AV)} (hS : Sound Try.prog Sg) (hv : Sg 69 = some (F1 gValidV)) (hr : Sg 60 = some (F3 gInRange)) (n1 : Sg 155 = none) (n2 : Sg 93 = none) (v : Vi) (d : Nat) (h : v.sh.length ≤ 4 ∧ v.st.length ≤ 5) (hd : d < v.sh.length) (hins : InsV) (hmade : MadeV) : OSpec Try.prog 138 [.agg [i64 v.b, ints 0 v.sh, ints 0 v.st], i64 (d : Nat)] (mdR (addF v d)) (mdN (addF v d)) := by
  refine OSpec.intro Try.func138 rfl (vc3_sound Try.pf hS hS _ _ _ ?_)
  have q1 := gValidV_eq (v := v) ⟨by omega, by omega⟩
  have q3 := gInRange_eq (d : Int) 0 (v.sh.length : Nat)
  have hir : inR (d : Int) 0 (v.sh.length : Nat) = true := by unfold inR; simp only [Bool.and_eq_true, decide_eq_true_eq]; omega
  rw [hir] at q3
  unfold addF
  cases e1 : viewOK v with
  | false =>
    rw [e1] at q1
    repeat' (first | with_reducible first | refine kI (by kernel_rfl) ?_ | (first | refine kB1 ?_ ?_ | refine kB2 ?_ ?_) <;> intro hp | (first | refine kD1 ?_ ?_ | refine kD2 ?_ ?_ | refine kS1 ?_ ?_ | refine kS2 ?_ ?_) <;> intro hp <;> try simp only [hp] | simp -implicitDefEqProofs (disch := omega) only [go_sem, Nat.reduceAdd, Nat.reduceSub, reduceCtorEq, Nat.reduceLT, Nat.reduceLeDiff, Nat.reduceEqDiff, Nat.reduceMul, Int.reduceToNat, ↓reduceIte, List.take_of_length_le, if_pos, if_neg, List.getElem?_set_self, List.set_set, cnE, cnV, Try.ntmps138, Try.results138,  hv, q1])
    exact own_md0
  | true =>
    rw [e1] at q1
    by_cases e2 : v.sh.length = 4
    · have e2' : ((v.sh.length : Int) == 4) = true := beq_t (by omega)
      rw [if_neg (by simp [e2])]
      repeat' (first | with_reducible first | refine kI (by kernel_rfl) ?_ | (first | refine kB1 ?_ ?_ | refine kB2 ?_ ?_) <;> intro hp | (first | refine kD1 ?_ ?_ | refine kD2 ?_ ?_ | refine kS1 ?_ ?_ | refine kS2 ?_ ?_) <;> intro hp <;> try simp only [hp] | simp -implicitDefEqProofs (disch := omega) only [go_sem, Nat.reduceAdd, Nat.reduceSub, reduceCtorEq, Nat.reduceLT, Nat.reduceLeDiff, Nat.reduceEqDiff, Nat.reduceMul, Int.reduceToNat, ↓reduceIte, List.take_of_length_le, if_pos, if_neg, List.getElem?_set_self, List.set_set, cnE, cnV, Try.ntmps138, Try.results138,  hv, q1, hr, q3, e2'])
      exact own_md0
    · have e2' : ((v.sh.length : Int) == 4) = false := beq_f (by omega)
      rw [if_pos ⟨rfl, e2⟩]
      obtain ⟨k1, k2, _⟩ := viewOK_iff.1 e1
      repeat' (first | with_reducible first | refine kI (by kernel_rfl) ?_ | (first | refine kB1 ?_ ?_ | refine kB2 ?_ ?_) <;> intro hp | (first | refine kD1 ?_ ?_ | refine kD2 ?_ ?_ | refine kS1 ?_ ?_ | refine kS2 ?_ ?_) <;> intro hp <;> try simp only [hp] | simp -implicitDefEqProofs (disch := omega) only [go_sem, Nat.reduceAdd, Nat.reduceSub, reduceCtorEq, Nat.reduceLT, Nat.reduceLeDiff, Nat.reduceEqDiff, Nat.reduceMul, Int.reduceToNat, ↓reduceIte, List.take_of_length_le, if_pos, if_neg, List.getElem?_set_self, List.set_set, cnE, cnV, Try.ntmps138, Try.results138,  hv, q1, hr, q3, e2'])
      refine DrawQ.any [([0, 1, 2, 3, 4, 6, 7, 8], 5), ([], 9), ([10], 11), ([12, 13], 14)] [15] [0, 1, 6, 7, 8] (by kernel_rfl) ?_
      repeat' (first | with_reducible first | refine kI (by kernel_rfl) ?_ | (first | refine kB1 ?_ ?_ | refine kB2 ?_ ?_) <;> intro hp | (first | refine kD1 ?_ ?_ | refine kD2 ?_ ?_ | refine kS1 ?_ ?_ | refine kS2 ?_ ?_) <;> intro hp <;> try simp only [hp] | simp -implicitDefEqProofs (disch := omega) only [go_sem, Nat.reduceAdd, Nat.reduceSub, reduceCtorEq, Nat.reduceLT, Nat.reduceLeDiff, Nat.reduceEqDiff, Nat.reduceMul, Int.reduceToNat, ↓reduceIte, List.take_of_length_le, if_pos, if_neg, List.getElem?_set_self, List.set_set, cnE, cnV, Try.ntmps138, Try.results138,  n1, opQ_none])
      refine InlK_intro rfl rfl can_insert ((hins v.sh d 1 (by omega) (by omega)).call (by simp only [go_sem, ints]) ?_)
      repeat' (first | with_reducible first | refine kI (by kernel_rfl) ?_ | (first | refine kB1 ?_ ?_ | refine kB2 ?_ ?_) <;> intro hp | (first | refine kD1 ?_ ?_ | refine kD2 ?_ ?_ | refine kS1 ?_ ?_ | refine kS2 ?_ ?_) <;> intro hp <;> try simp only [hp] | simp -implicitDefEqProofs (disch := omega) only [go_sem, Nat.reduceAdd, Nat.reduceSub, reduceCtorEq, Nat.reduceLT, Nat.reduceLeDiff, Nat.reduceEqDiff, Nat.reduceMul, Int.reduceToNat, ↓reduceIte, List.take_of_length_le, if_pos, if_neg, List.getElem?_set_self, List.set_set, cnE, cnV, Try.ntmps138, Try.results138,  n1, opQ_none])
      refine InlK_intro rfl rfl can_insert ((hins v.st d 0 (by omega) (by omega)).call (by simp only [go_sem, ints]) ?_)
      repeat' (first | with_reducible first | refine kI (by kernel_rfl) ?_ | (first | refine kB1 ?_ ?_ | refine kB2 ?_ ?_) <;> intro hp | (first | refine kD1 ?_ ?_ | refine kD2 ?_ ?_ | refine kS1 ?_ ?_ | refine kS2 ?_ ?_) <;> intro hp <;> try simp only [hp] | simp -implicitDefEqProofs (disch := omega) only [go_sem, Nat.reduceAdd, Nat.reduceSub, reduceCtorEq, Nat.reduceLT, Nat.reduceLeDiff, Nat.reduceEqDiff, Nat.reduceMul, Int.reduceToNat, ↓reduceIte, List.take_of_length_le, if_pos, if_neg, List.getElem?_set_self, List.set_set, cnE, cnV, Try.ntmps138, Try.results138,  n2, opQ_none])
      have hw1 : (addG v d).sh.length = v.sh.length + 1 := insF_len (by omega)
      have hw2 : (addG v d).st.length = v.st.length + 1 := insF_len (by omega)
      refine InlK_intro rfl rfl can_made ((hmade (addG v d) ⟨by omega, by omega⟩).call (by
        have t1 : List.take (v.sh.length + 1) (insF v.sh d 1) = insF v.sh d 1 := List.take_of_length_le (by exact Nat.le_of_eq hw1)
        have t2 : List.take (v.st.length + 1) (insF v.st d 0) = insF v.st d 0 := List.take_of_length_le (by exact Nat.le_of_eq hw2)
        have t3 : (insF v.sh d 1).length = v.sh.length + 1 := hw1
        have t4 : (insF v.st d 0).length = v.st.length + 1 := hw2
        simp only [go_sem, ints, addG, t1, t2, t3, t4]) ?_)
      cases e3 : madeF (addG v d) with
      | none =>
        repeat' (first | with_reducible first | refine kI (by kernel_rfl) ?_ | (first | refine kB1 ?_ ?_ | refine kB2 ?_ ?_) <;> intro hp | (first | refine kD1 ?_ ?_ | refine kD2 ?_ ?_ | refine kS1 ?_ ?_ | refine kS2 ?_ ?_) <;> intro hp <;> try simp only [hp] | simp -implicitDefEqProofs (disch := omega) only [go_sem, Nat.reduceAdd, Nat.reduceSub, reduceCtorEq, Nat.reduceLT, Nat.reduceLeDiff, Nat.reduceEqDiff, Nat.reduceMul, Int.reduceToNat, ↓reduceIte, List.take_of_length_le, if_pos, if_neg, List.getElem?_set_self, List.set_set, cnE, cnV, Try.ntmps138, Try.results138,  mdR, mdN])
        exact own_md0
      | some u =>
        repeat' (first | with_reducible first | refine kI (by kernel_rfl) ?_ | (first | refine kB1 ?_ ?_ | refine kB2 ?_ ?_) <;> intro hp | (first | refine kD1 ?_ ?_ | refine kD2 ?_ ?_ | refine kS1 ?_ ?_ | refine kS2 ?_ ?_) <;> intro hp <;> try simp only [hp] | simp -implicitDefEqProofs (disch := omega) only [go_sem, Nat.reduceAdd, Nat.reduceSub, reduceCtorEq, Nat.reduceLT, Nat.reduceLeDiff, Nat.reduceEqDiff, Nat.reduceMul, Int.reduceToNat, ↓reduceIte, List.take_of_length_le, if_pos, if_neg, List.getElem?_set_self, List.set_set, cnE, cnV, Try.ntmps138, Try.results138,  mdR, mdN])
        exact own_md (b := 4) (c := 5) rfl rfl (by decide)
end Go.Proofs.Ytgpflkmelindfaa
