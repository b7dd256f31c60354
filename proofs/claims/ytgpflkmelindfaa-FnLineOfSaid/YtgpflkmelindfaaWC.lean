/- Contracts of functions on views and memories that the laws of this seat call. -/
import Derived.Test.YtgpflkmelindfaaWB
set_option linter.all false
namespace Go.Proofs.Ytgpflkmelindfaa
open Go Go.Ev Go.RowKit Go.Ev.Enc Go.Pl

set_option maxHeartbeats 4000000 in
set_option maxRecDepth 100000 in
theorem spec_isRange {Sg : FuncId → Option (List AV → Option AV)} (hS : Sound Try.prog Sg) : ∀ a r, F1 gRgOK a = some r → CSpec Try.prog 87 a r := by
  refine F1_spec ?_
  intro g r hr0
  obtain ⟨-, rfl⟩ := gd_some hr0
  refine CSpec.intro Try.func87 rfl (own _) (vc3_sound Try.pf hS hS _ _ _ ?_)
  repeat' (first | with_reducible first | refine kI (by kernel_rfl) ?_ | refine kN (by kernel_rfl) ?_ | (first | refine kB1 ?_ ?_ | refine kB2 ?_ ?_) <;> intro hp | (first | refine kD1 ?_ ?_ | refine kD2 ?_ ?_ | refine kS1 ?_ ?_ | refine kS2 ?_ ?_) <;> intro hp <;> try simp only [hp] | simp -implicitDefEqProofs (disch := omega) only [go_sem, Nat.reduceAdd, Nat.reduceSub, reduceCtorEq, Nat.reduceLT, Nat.reduceLeDiff, Nat.reduceEqDiff, Nat.reduceMul, Int.reduceToNat, ↓reduceIte, List.take_of_length_le, if_pos, if_neg, List.getElem?_set_self, List.set_set, cnE, cnV, Try.ntmps87, Try.results87])
  all_goals (unfold rgOK inR; first | (simp_all; done) | (simp_all; omega))
set_option maxHeartbeats 4000000 in
set_option maxRecDepth 100000 in
theorem spec_normalOf {Sg : FuncId → Option (List AV → Option AV)} (hS : Sound Try.prog Sg) : ∀ a r, F1 gNormal a = some r → CSpec Try.prog 84 a r := by
  refine F1_spec ?_
  intro l r hr
  obtain ⟨⟨h1, h2⟩, rfl⟩ := gd_some hr
  refine CSpec.intro Try.func84 rfl (own _) (vc3_sound Try.pf hS hS _ _ _ ?_)
  unfold nrmF
  by_cases c0 : l.length = 0
  · rw [if_pos c0]
    have c0' : ((l.length : Int) == 0) = true := beq_t (by omega)
    repeat' (first | with_reducible first | refine kI (by kernel_rfl) ?_ | refine kN (by kernel_rfl) ?_ | (first | refine kB1 ?_ ?_ | refine kB2 ?_ ?_) <;> intro hp | (first | refine kD1 ?_ ?_ | refine kD2 ?_ ?_ | refine kS1 ?_ ?_ | refine kS2 ?_ ?_) <;> intro hp <;> try simp only [hp] | simp -implicitDefEqProofs (disch := omega) only [go_sem, Nat.reduceAdd, Nat.reduceSub, reduceCtorEq, Nat.reduceLT, Nat.reduceLeDiff, Nat.reduceEqDiff, Nat.reduceMul, Int.reduceToNat, ↓reduceIte, List.take_of_length_le, if_pos, if_neg, List.getElem?_set_self, List.set_set, cnE, cnV, Try.ntmps84, Try.results84,  c0'])
  · rw [if_neg c0]
    have c0' : ((l.length : Int) == 0) = false := beq_f (by omega)
    by_cases c1 : l.length = 1
    · rw [if_pos c1]
      have c1' : ((l.length : Int) == 1) = true := beq_t (by omega)
      have hb := smallL_at h2 (k := 0) (by omega)
      have w1 : IntKind.i64.wrap (l.getD 0 0 + 1) = l.getD 0 0 + 1 := wrap_in (by omega)
      repeat' (first | with_reducible first | refine kI (by kernel_rfl) ?_ | refine kN (by kernel_rfl) ?_ | (first | refine kB1 ?_ ?_ | refine kB2 ?_ ?_) <;> intro hp | (first | refine kD1 ?_ ?_ | refine kD2 ?_ ?_ | refine kS1 ?_ ?_ | refine kS2 ?_ ?_) <;> intro hp <;> try simp only [hp] | simp -implicitDefEqProofs (disch := omega) only [go_sem, Nat.reduceAdd, Nat.reduceSub, reduceCtorEq, Nat.reduceLT, Nat.reduceLeDiff, Nat.reduceEqDiff, Nat.reduceMul, Int.reduceToNat, ↓reduceIte, List.take_of_length_le, if_pos, if_neg, List.getElem?_set_self, List.set_set, cnE, cnV, Try.ntmps84, Try.results84,  c0', c1', w1])
    · rw [if_neg c1]
      have c1' : ((l.length : Int) == 1) = false := beq_f (by omega)
      have b0 := smallL_at h2 (k := 0) (by omega)
      have b1 := smallL_at h2 (k := 1) (by omega)
      have b2 := smallL_at h2 (k := l.length - 1) (by omega)
      have w1 : IntKind.i64.wrap (l.getD 1 0 - l.getD 0 0) = l.getD 1 0 - l.getD 0 0 := wrap_in (by omega)
      have w2 : IntKind.i64.wrap (l.getD (l.length - 1) 0 + 1) = l.getD (l.length - 1) 0 + 1 := wrap_in (by omega)
      have w3 : IntKind.i64.wrap (l.getD (l.length - 1) 0 + 1 - 2) = l.getD (l.length - 1) 0 - 1 := by rw [wrap_in (by omega)]; omega
      obtain ⟨n, hn⟩ : ∃ n : Nat, l.length = n + 1 := ⟨l.length - 1, by omega⟩
      have w4 : IntKind.i64.wrap ((l.length : Int) - 1) = ((l.length - 1 : Nat) : Int) := by rw [wrap_in (by omega)]; omega
      by_cases c2 : l.getD 1 0 - l.getD 0 0 < 0
      · rw [if_pos c2]
        repeat' (first | with_reducible first | refine kI (by kernel_rfl) ?_ | refine kN (by kernel_rfl) ?_ | (first | refine kB1 ?_ ?_ | refine kB2 ?_ ?_) <;> intro hp | (first | refine kD1 ?_ ?_ | refine kD2 ?_ ?_ | refine kS1 ?_ ?_ | refine kS2 ?_ ?_) <;> intro hp <;> try simp only [hp] | simp -implicitDefEqProofs (disch := omega) only [go_sem, Nat.reduceAdd, Nat.reduceSub, reduceCtorEq, Nat.reduceLT, Nat.reduceLeDiff, Nat.reduceEqDiff, Nat.reduceMul, Int.reduceToNat, ↓reduceIte, List.take_of_length_le, if_pos, if_neg, List.getElem?_set_self, List.set_set, cnE, cnV, Try.ntmps84, Try.results84,  c0', c1', w1, w2, w3, w4, c2])
      · rw [if_neg c2]
        repeat' (first | with_reducible first | refine kI (by kernel_rfl) ?_ | refine kN (by kernel_rfl) ?_ | (first | refine kB1 ?_ ?_ | refine kB2 ?_ ?_) <;> intro hp | (first | refine kD1 ?_ ?_ | refine kD2 ?_ ?_ | refine kS1 ?_ ?_ | refine kS2 ?_ ?_) <;> intro hp <;> try simp only [hp] | simp -implicitDefEqProofs (disch := omega) only [go_sem, Nat.reduceAdd, Nat.reduceSub, reduceCtorEq, Nat.reduceLT, Nat.reduceLeDiff, Nat.reduceEqDiff, Nat.reduceMul, Int.reduceToNat, ↓reduceIte, List.take_of_length_le, if_pos, if_neg, List.getElem?_set_self, List.set_set, cnE, cnV, Try.ntmps84, Try.results84,  c0', c1', w1, w2, w3, w4, c2])
def gNumT (r : Rg) : Option (List Int) := gd True (if rgOK r = true then numF r else [])
theorem gNumT_eq (r : Rg) : gNumT r = some (if rgOK r = true then numF r else []) := rfl
set_option maxHeartbeats 4000000 in
set_option maxRecDepth 100000 in
theorem spec_NumbersOf {Sg : FuncId → Option (List AV → Option AV)} (hS : Sound Try.prog Sg) (hr : Sg 87 = some (F1 gRgOK)) (hn : Sg 88 = some (F1 gNumbers)) : ∀ a r, F1 gNumT a = some r → CSpec Try.prog 36 a r := by
  refine F1_spec ?_
  intro g r hr0
  obtain ⟨-, rfl⟩ := gd_some hr0
  refine CSpec.intro Try.func36 rfl (own _) (vc3_sound Try.pf hS hS _ _ _ ?_)
  have q1 := gRgOK_eq g
  cases e : rgOK g with
  | false =>
    rw [e] at q1
    rw [if_neg (by simp)]
    repeat' (first | with_reducible first | refine kI (by kernel_rfl) ?_ | refine kN (by kernel_rfl) ?_ | (first | refine kB1 ?_ ?_ | refine kB2 ?_ ?_) <;> intro hp | (first | refine kD1 ?_ ?_ | refine kD2 ?_ ?_ | refine kS1 ?_ ?_ | refine kS2 ?_ ?_) <;> intro hp <;> try simp only [hp] | simp -implicitDefEqProofs (disch := omega) only [go_sem, Nat.reduceAdd, Nat.reduceSub, reduceCtorEq, Nat.reduceLT, Nat.reduceLeDiff, Nat.reduceEqDiff, Nat.reduceMul, Int.reduceToNat, ↓reduceIte, List.take_of_length_le, if_pos, if_neg, List.getElem?_set_self, List.set_set, cnE, cnV, Try.ntmps36, Try.results36,  hr, q1])
  | true =>
    rw [e] at q1
    rw [if_pos rfl]
    have q2 := gNumbers_eq (rgOK_b e)
    repeat' (first | with_reducible first | refine kI (by kernel_rfl) ?_ | refine kN (by kernel_rfl) ?_ | (first | refine kB1 ?_ ?_ | refine kB2 ?_ ?_) <;> intro hp | (first | refine kD1 ?_ ?_ | refine kD2 ?_ ?_ | refine kS1 ?_ ?_ | refine kS2 ?_ ?_) <;> intro hp <;> try simp only [hp] | simp -implicitDefEqProofs (disch := omega) only [go_sem, Nat.reduceAdd, Nat.reduceSub, reduceCtorEq, Nat.reduceLT, Nat.reduceLeDiff, Nat.reduceEqDiff, Nat.reduceMul, Int.reduceToNat, ↓reduceIte, List.take_of_length_le, if_pos, if_neg, List.getElem?_set_self, List.set_set, cnE, cnV, Try.ntmps36, Try.results36,  hr, q1, hn, q2])
/-- what two lists have, in the order of the first -/
def meetT (A B : List Int) (k : Nat) : List Int := (A.take k).filter fun x => B.contains x
theorem meetT_s {A B : List Int} {k : Nat} (h : k < A.length) : meetT A B (k + 1) = if B.contains (A.getD k 0) = true then meetT A B k ++ [A.getD k 0] else meetT A B k := by
  unfold meetT
  rw [take_snocI h, List.filter_append]
  simp only [List.filter_cons, List.filter_nil]
  split
  · rfl
  · simp
theorem meetT_len (A B : List Int) (k : Nat) : (meetT A B k).length ≤ k :=
  Nat.le_trans (List.length_filter_le _ _) (by rw [List.length_take]; omega)
def meetF (a b : Rg) : List Int := (numF a).filter fun x => (numF b).contains x
def gMeetR (a b : Rg) : Option Rg := gd True (if rgOK a = true ∧ rgOK b = true then nrmF (msr (meetF a b)) else ⟨0, 0, 0⟩)
theorem gMeetR_eq (a b : Rg) : gMeetR a b = some (if rgOK a = true ∧ rgOK b = true then nrmF (msr (meetF a b)) else ⟨0, 0, 0⟩) := rfl
set_option maxHeartbeats 4000000 in
set_option maxRecDepth 100000 in
theorem spec_MeetRanges {Sg : FuncId → Option (List AV → Option AV)} (hS : Sound Try.prog Sg) (hr : Sg 87 = some (F1 gRgOK)) (hn : Sg 88 = some (F1 gNumbers)) (hc : Sg 67 = some (F2 gContains)) (hm : Sg 84 = some (F1 gNormal)) (hs : Sg 77 = none) : ∀ a r, F2 gMeetR a = some r → CSpec Try.prog 37 a r := by
  refine F2_spec ?_
  intro a b r hr0
  obtain ⟨-, rfl⟩ := gd_some hr0
  refine CSpec.intro Try.func37 rfl (own _) (vc3_sound Try.pf hS hS _ _ _ ?_)
  have q1 := gRgOK_eq a
  have q2 := gRgOK_eq b
  cases e1 : rgOK a with
  | false =>
    rw [e1] at q1
    rw [if_neg (by simp)]
    repeat' (first | with_reducible first | refine kI (by kernel_rfl) ?_ | refine kN (by kernel_rfl) ?_ | (first | refine kB1 ?_ ?_ | refine kB2 ?_ ?_) <;> intro hp | (first | refine kD1 ?_ ?_ | refine kD2 ?_ ?_ | refine kS1 ?_ ?_ | refine kS2 ?_ ?_) <;> intro hp <;> try simp only [hp] | simp -implicitDefEqProofs (disch := omega) only [go_sem, Nat.reduceAdd, Nat.reduceSub, reduceCtorEq, Nat.reduceLT, Nat.reduceLeDiff, Nat.reduceEqDiff, Nat.reduceMul, Int.reduceToNat, ↓reduceIte, List.take_of_length_le, if_pos, if_neg, List.getElem?_set_self, List.set_set, cnE, cnV, Try.ntmps37, Try.results37,  hr, q1])
  | true =>
    rw [e1] at q1
    cases e2 : rgOK b with
    | false =>
      rw [e2] at q2
      rw [if_neg (by simp)]
      repeat' (first | with_reducible first | refine kI (by kernel_rfl) ?_ | refine kN (by kernel_rfl) ?_ | (first | refine kB1 ?_ ?_ | refine kB2 ?_ ?_) <;> intro hp | (first | refine kD1 ?_ ?_ | refine kD2 ?_ ?_ | refine kS1 ?_ ?_ | refine kS2 ?_ ?_) <;> intro hp <;> try simp only [hp] | simp -implicitDefEqProofs (disch := omega) only [go_sem, Nat.reduceAdd, Nat.reduceSub, reduceCtorEq, Nat.reduceLT, Nat.reduceLeDiff, Nat.reduceEqDiff, Nat.reduceMul, Int.reduceToNat, ↓reduceIte, List.take_of_length_le, if_pos, if_neg, List.getElem?_set_self, List.set_set, cnE, cnV, Try.ntmps37, Try.results37,  hr, q1, q2])
    | true =>
      rw [e2] at q2
      rw [if_pos ⟨rfl, rfl⟩]
      have q3 := gNumbers_eq (rgOK_b e1)
      have q4 := gNumbers_eq (rgOK_b e2)
      have l1 := numF_len (rgOK_b e1)
      have l2 := numF_len (rgOK_b e2)
      have s1 := numF_small (rgOK_b e1)
      unfold meetF
      repeat' (first | with_reducible first | refine kI (by kernel_rfl) ?_ | refine kN (by kernel_rfl) ?_ | (first | refine kB1 ?_ ?_ | refine kB2 ?_ ?_) <;> intro hp | (first | refine kD1 ?_ ?_ | refine kD2 ?_ ?_ | refine kS1 ?_ ?_ | refine kS2 ?_ ?_) <;> intro hp <;> try simp only [hp] | simp -implicitDefEqProofs (disch := omega) only [go_sem, Nat.reduceAdd, Nat.reduceSub, reduceCtorEq, Nat.reduceLT, Nat.reduceLeDiff, Nat.reduceEqDiff, Nat.reduceMul, Int.reduceToNat, ↓reduceIte, List.take_of_length_le, if_pos, if_neg, List.getElem?_set_self, List.set_set, cnE, cnV, Try.ntmps37, Try.results37,  hr, q1, q2, hn, q3, q4])
      generalize numF a = A at *
      generalize numF b = B at *
      refine LoopQ.mix (fun t0 L0 nn ss => ∃ (k : Nat) (c : Nat) (q : List Int) (_ : Unit), (∃ x : Nat → AV, ss = ⟨mixL 0 (.k :: .k :: .k :: .k :: .k :: .k :: .v (.sl 3 c 0 c c) :: .k :: .s :: .k :: .k :: .k :: .k :: .k :: .k :: .k :: .k :: .k :: .k :: .k :: .k :: .k :: .k :: .k :: .v (i64 (k : Nat)) :: .s :: .s :: .s :: .s :: .s :: .s :: .s :: .s :: .s :: .s :: .s :: .k :: .k :: .k :: .k :: []) t0 x, [⟨3, [.agg [i64 a.a, i64 a.z, i64 a.s]]⟩, ⟨3, [.agg [i64 b.a, i64 b.z, i64 b.s]]⟩, ⟨3, [.agg [.int .i64 0, .int .i64 0, .int .i64 0]]⟩, ⟨1, q.map fun n => .int .i64 n⟩]⟩) ∧ (k ≤ A.length) ∧ (q.length = c ∧ c ≤ k) ∧ (q = meetT A B k) ∧ nn = A.length - k) ?_ ?_
      · exact ⟨_, ⟨0, 0, [], (), mixI rfl, Nat.zero_le _, ⟨rfl, Nat.zero_le _⟩, rfl, rfl⟩⟩
      · rintro I0 hI0 nn s ⟨k, c, q, _, ⟨x, rfl⟩, g1, ⟨g2, g2'⟩, g3, rfl⟩
        by_cases hk : k < A.length
        · have hki : (k : Int) < (A.length : Int) := by omega
          have p1 := gContains_eq (l := B) (by omega) (A.getD k 0)
          have hs1 := meetT_s (B := B) hk
          cases eb : B.contains (A.getD k 0) with
          | true =>
            rw [eb] at p1
            rw [eb, if_pos rfl, ← g3] at hs1
            repeat' (first | with_reducible first | refine kI (by kernel_rfl) ?_ | refine kN (by kernel_rfl) ?_ | (first | refine kB1 ?_ ?_ | refine kB2 ?_ ?_) <;> intro hp | (first | refine kD1 ?_ ?_ | refine kD2 ?_ ?_ | refine kS1 ?_ ?_ | refine kS2 ?_ ?_) <;> intro hp <;> try simp only [hp] | simp -implicitDefEqProofs (disch := omega) only [go_sem, Nat.reduceAdd, Nat.reduceSub, reduceCtorEq, Nat.reduceLT, Nat.reduceLeDiff, Nat.reduceEqDiff, Nat.reduceMul, Int.reduceToNat, ↓reduceIte, List.take_of_length_le, if_pos, if_neg, List.getElem?_set_self, List.set_set, cnE, cnV, Try.ntmps37, Try.results37,  hki, getD_ints hk, hc, p1])
            exact ⟨A.length - (k + 1), by omega, hI0 _ _ ⟨k + 1, c + 1, q ++ [A.getD k 0], (), mixI rfl, hk, ⟨by simp [g2], by omega⟩, hs1.symm, rfl⟩⟩
          | false =>
            rw [eb] at p1
            rw [eb, if_neg (by simp), ← g3] at hs1
            repeat' (first | with_reducible first | refine kI (by kernel_rfl) ?_ | refine kN (by kernel_rfl) ?_ | (first | refine kB1 ?_ ?_ | refine kB2 ?_ ?_) <;> intro hp | (first | refine kD1 ?_ ?_ | refine kD2 ?_ ?_ | refine kS1 ?_ ?_ | refine kS2 ?_ ?_) <;> intro hp <;> try simp only [hp] | simp -implicitDefEqProofs (disch := omega) only [go_sem, Nat.reduceAdd, Nat.reduceSub, reduceCtorEq, Nat.reduceLT, Nat.reduceLeDiff, Nat.reduceEqDiff, Nat.reduceMul, Int.reduceToNat, ↓reduceIte, List.take_of_length_le, if_pos, if_neg, List.getElem?_set_self, List.set_set, cnE, cnV, Try.ntmps37, Try.results37,  hki, getD_ints hk, hc, p1])
            exact ⟨A.length - (k + 1), by omega, hI0 _ _ ⟨k + 1, c, q, (), mixI rfl, hk, ⟨g2, by omega⟩, hs1.symm, rfl⟩⟩
        · obtain rfl : k = A.length := by omega
          have hq : q = A.filter fun x => B.contains x := by rw [g3]; unfold meetT; rw [List.take_length]
          rw [← hq]
          repeat' (first | with_reducible first | refine kI (by kernel_rfl) ?_ | (first | refine kB1 ?_ ?_ | refine kB2 ?_ ?_) <;> intro hp | (first | refine kD1 ?_ ?_ | refine kD2 ?_ ?_ | refine kS1 ?_ ?_ | refine kS2 ?_ ?_) <;> intro hp <;> try simp only [hp] | simp -implicitDefEqProofs (disch := omega) only [go_sem, Nat.reduceAdd, Nat.reduceSub, reduceCtorEq, Nat.reduceLT, Nat.reduceLeDiff, Nat.reduceEqDiff, Nat.reduceMul, Int.reduceToNat, ↓reduceIte, List.take_of_length_le, if_pos, if_neg, List.getElem?_set_self, List.set_set, cnE, cnV, Try.ntmps37, Try.results37,  hs, opQ_none])
          refine InlK_intro rfl rfl can_sort ((isp_sort (q := q) rfl g2 (by omega)).mono ?_)
          rintro r L' ⟨rfl, rfl⟩
          have hms : (msr q).length = c := by rw [List.length_mergeSort]; exact g2
          have hsm : smallL 100000 (msr q) := fun x hx => by
            rw [List.mem_mergeSort, hq] at hx
            have := s1 x (List.mem_filter.1 hx).1
            omega
          obtain ⟨M, hM⟩ : ∃ M, msr q = M := ⟨_, rfl⟩
          rw [hM] at hms hsm ⊢
          rw [show (q.mergeSort fun x y => decide (x ≤ y)) = M from hM]
          have q5 := gNormal_eq (l := M) ⟨by omega, hsm⟩
          have htk : List.take c M = M := List.take_of_length_le (by omega)
          repeat' (first | with_reducible first | refine kI (by kernel_rfl) ?_ | refine kN (by kernel_rfl) ?_ | (first | refine kB1 ?_ ?_ | refine kB2 ?_ ?_) <;> intro hp | (first | refine kD1 ?_ ?_ | refine kD2 ?_ ?_ | refine kS1 ?_ ?_ | refine kS2 ?_ ?_) <;> intro hp <;> try simp only [hp] | simp -implicitDefEqProofs (disch := omega) only [go_sem, Nat.reduceAdd, Nat.reduceSub, reduceCtorEq, Nat.reduceLT, Nat.reduceLeDiff, Nat.reduceEqDiff, Nat.reduceMul, Int.reduceToNat, ↓reduceIte, List.take_of_length_le, if_pos, if_neg, List.getElem?_set_self, List.set_set, cnE, cnV, Try.ntmps37, Try.results37,  hms, hm, htk, q5])
def lineR (v : Vi) : Rg := if viewOK v = true ∧ v.sh.length = 1 then nrmF (srt (offF v)) else ⟨0, 0, 0⟩
def gLine (v : Vi) : Option Rg := gd (viB v) (lineR v)
theorem gLine_eq {v : Vi} (h : viB v) : gLine v = some (lineR v) := gd_eq h
theorem srt_small {v : Vi} (h : viewOK v = true) : smallL 100000 (srt (offF v)) := fun x hx => by
  have := offF_in h x ((srt_mem _ _).1 hx)
  omega
set_option maxHeartbeats 4000000 in
set_option maxRecDepth 100000 in
theorem spec_LineOfS {Sg : FuncId → Option (List AV → Option AV)} (hS : Sound Try.prog Sg) (hv : Sg 69 = some (F1 gValidV)) (hc : Sg 86 = some (F1 gUsed)) (hm : Sg 85 = some (F1 gNormal)) : ∀ a r, F1 gLine a = some r → CSpec Try.prog 35 a r := by
  refine F1_spec ?_
  intro v r hr0
  obtain ⟨h, rfl⟩ := gd_some hr0
  refine CSpec.intro Try.func35 rfl (own _) (vc3_sound Try.pf hS hS _ _ _ ?_)
  have q1 := gValidV_eq h
  unfold lineR
  cases e : viewOK v with
  | false =>
    rw [e] at q1
    rw [if_neg (by simp)]
    repeat' (first | with_reducible first | refine kI (by kernel_rfl) ?_ | refine kN (by kernel_rfl) ?_ | (first | refine kB1 ?_ ?_ | refine kB2 ?_ ?_) <;> intro hp | (first | refine kD1 ?_ ?_ | refine kD2 ?_ ?_ | refine kS1 ?_ ?_ | refine kS2 ?_ ?_) <;> intro hp <;> try simp only [hp] | simp -implicitDefEqProofs (disch := omega) only [go_sem, Nat.reduceAdd, Nat.reduceSub, reduceCtorEq, Nat.reduceLT, Nat.reduceLeDiff, Nat.reduceEqDiff, Nat.reduceMul, Int.reduceToNat, ↓reduceIte, List.take_of_length_le, if_pos, if_neg, List.getElem?_set_self, List.set_set, cnE, cnV, Try.ntmps35, Try.results35,  hv, q1])
  | true =>
    rw [e] at q1
    by_cases l1 : v.sh.length = 1
    · rw [if_pos ⟨rfl, l1⟩]
      have l1' : ((v.sh.length : Int) == 1) = true := beq_t (by omega)
      have q2 := gUsed_eq (vOK e)
      rw [← srt_both (offF_in e)] at q2
      have h6 := offF_60 (vOK e).1
      have hsl := srt_len (offF v)
      have q3 := gNormal_eq (l := srt (offF v)) ⟨by omega, srt_small e⟩
      repeat' (first | with_reducible first | refine kI (by kernel_rfl) ?_ | refine kN (by kernel_rfl) ?_ | (first | refine kB1 ?_ ?_ | refine kB2 ?_ ?_) <;> intro hp | (first | refine kD1 ?_ ?_ | refine kD2 ?_ ?_ | refine kS1 ?_ ?_ | refine kS2 ?_ ?_) <;> intro hp <;> try simp only [hp] | simp -implicitDefEqProofs (disch := omega) only [go_sem, Nat.reduceAdd, Nat.reduceSub, reduceCtorEq, Nat.reduceLT, Nat.reduceLeDiff, Nat.reduceEqDiff, Nat.reduceMul, Int.reduceToNat, ↓reduceIte, List.take_of_length_le, if_pos, if_neg, List.getElem?_set_self, List.set_set, cnE, cnV, Try.ntmps35, Try.results35,  hv, q1, l1', hc, q2, hm, q3])
    · rw [if_neg (fun h => l1 h.2)]
      have l1' : ((v.sh.length : Int) == 1) = false := beq_f (by omega)
      repeat' (first | with_reducible first | refine kI (by kernel_rfl) ?_ | refine kN (by kernel_rfl) ?_ | (first | refine kB1 ?_ ?_ | refine kB2 ?_ ?_) <;> intro hp | (first | refine kD1 ?_ ?_ | refine kD2 ?_ ?_ | refine kS1 ?_ ?_ | refine kS2 ?_ ?_) <;> intro hp <;> try simp only [hp] | simp -implicitDefEqProofs (disch := omega) only [go_sem, Nat.reduceAdd, Nat.reduceSub, reduceCtorEq, Nat.reduceLT, Nat.reduceLeDiff, Nat.reduceEqDiff, Nat.reduceMul, Int.reduceToNat, ↓reduceIte, List.take_of_length_le, if_pos, if_neg, List.getElem?_set_self, List.set_set, cnE, cnV, Try.ntmps35, Try.results35,  hv, q1, l1'])
set_option maxHeartbeats 4000000 in
set_option maxRecDepth 100000 in
theorem spec_LineOfI {Sg : FuncId → Option (List AV → Option AV)} (hS : Sound Try.prog Sg) (hv : Sg 51 = some (F1 gValidV)) (hc : Sg 54 = some (F1 gCells)) (hm : Sg 84 = some (F1 gNormal)) : ∀ a r, F1 gLine a = some r → CSpec Try.prog 33 a r := by
  refine F1_spec ?_
  intro v r hr0
  obtain ⟨h, rfl⟩ := gd_some hr0
  refine CSpec.intro Try.func33 rfl (own _) (vc3_sound Try.pf hS hS _ _ _ ?_)
  have q1 := gValidV_eq h
  unfold lineR
  cases e : viewOK v with
  | false =>
    rw [e] at q1
    rw [if_neg (by simp)]
    repeat' (first | with_reducible first | refine kI (by kernel_rfl) ?_ | refine kN (by kernel_rfl) ?_ | (first | refine kB1 ?_ ?_ | refine kB2 ?_ ?_) <;> intro hp | (first | refine kD1 ?_ ?_ | refine kD2 ?_ ?_ | refine kS1 ?_ ?_ | refine kS2 ?_ ?_) <;> intro hp <;> try simp only [hp] | simp -implicitDefEqProofs (disch := omega) only [go_sem, Nat.reduceAdd, Nat.reduceSub, reduceCtorEq, Nat.reduceLT, Nat.reduceLeDiff, Nat.reduceEqDiff, Nat.reduceMul, Int.reduceToNat, ↓reduceIte, List.take_of_length_le, if_pos, if_neg, List.getElem?_set_self, List.set_set, cnE, cnV, Try.ntmps33, Try.results33,  hv, q1])
  | true =>
    rw [e] at q1
    by_cases l1 : v.sh.length = 1
    · rw [if_pos ⟨rfl, l1⟩]
      have l1' : ((v.sh.length : Int) == 1) = true := beq_t (by omega)
      have q2 := gCells_eq (vOK e)
      skip
      have h6 := offF_60 (vOK e).1
      have hsl := srt_len (offF v)
      have q3 := gNormal_eq (l := srt (offF v)) ⟨by omega, srt_small e⟩
      repeat' (first | with_reducible first | refine kI (by kernel_rfl) ?_ | refine kN (by kernel_rfl) ?_ | (first | refine kB1 ?_ ?_ | refine kB2 ?_ ?_) <;> intro hp | (first | refine kD1 ?_ ?_ | refine kD2 ?_ ?_ | refine kS1 ?_ ?_ | refine kS2 ?_ ?_) <;> intro hp <;> try simp only [hp] | simp -implicitDefEqProofs (disch := omega) only [go_sem, Nat.reduceAdd, Nat.reduceSub, reduceCtorEq, Nat.reduceLT, Nat.reduceLeDiff, Nat.reduceEqDiff, Nat.reduceMul, Int.reduceToNat, ↓reduceIte, List.take_of_length_le, if_pos, if_neg, List.getElem?_set_self, List.set_set, cnE, cnV, Try.ntmps33, Try.results33,  hv, q1, l1', hc, q2, hm, q3])
    · rw [if_neg (fun h => l1 h.2)]
      have l1' : ((v.sh.length : Int) == 1) = false := beq_f (by omega)
      repeat' (first | with_reducible first | refine kI (by kernel_rfl) ?_ | refine kN (by kernel_rfl) ?_ | (first | refine kB1 ?_ ?_ | refine kB2 ?_ ?_) <;> intro hp | (first | refine kD1 ?_ ?_ | refine kD2 ?_ ?_ | refine kS1 ?_ ?_ | refine kS2 ?_ ?_) <;> intro hp <;> try simp only [hp] | simp -implicitDefEqProofs (disch := omega) only [go_sem, Nat.reduceAdd, Nat.reduceSub, reduceCtorEq, Nat.reduceLT, Nat.reduceLeDiff, Nat.reduceEqDiff, Nat.reduceMul, Int.reduceToNat, ↓reduceIte, List.take_of_length_le, if_pos, if_neg, List.getElem?_set_self, List.set_set, cnE, cnV, Try.ntmps33, Try.results33,  hv, q1, l1'])
def gEqR (a b : Rg) : Option Bool := gd True (decide (a = b))
theorem gEqR_eq (a b : Rg) : gEqR a b = some (decide (a = b)) := rfl
theorem rg_eq {a b : Rg} : (a.a == b.a && (a.z == b.z && a.s == b.s)) = decide (a = b) := by
  cases a; cases b
  rw [Bool.eq_iff_iff]
  simp
set_option maxHeartbeats 4000000 in
set_option maxRecDepth 100000 in
theorem spec_equalRange {Sg : FuncId → Option (List AV → Option AV)} (hS : Sound Try.prog Sg) : ∀ a r, F2 gEqR a = some r → CSpec Try.prog 34 a r := by
  refine F2_spec ?_
  intro a b r hr0
  obtain ⟨-, rfl⟩ := gd_some hr0
  refine CSpec.intro Try.func34 rfl (own _) (vc3_sound Try.pf hS hS _ _ _ ?_)
  have he : eq3 Try.prog 52 = true := by kernel_rfl
  have ha := evAgg_3 he a.a a.z a.s b.a b.z b.s
  have hq := rg_eq (a := a) (b := b)
  repeat' (first | with_reducible first | refine kI (by kernel_rfl) ?_ | refine kN (by kernel_rfl) ?_ | (first | refine kB1 ?_ ?_ | refine kB2 ?_ ?_) <;> intro hp | (first | refine kD1 ?_ ?_ | refine kD2 ?_ ?_ | refine kS1 ?_ ?_ | refine kS2 ?_ ?_) <;> intro hp <;> try simp only [hp] | simp -implicitDefEqProofs (disch := omega) only [go_sem, Nat.reduceAdd, Nat.reduceSub, reduceCtorEq, Nat.reduceLT, Nat.reduceLeDiff, Nat.reduceEqDiff, Nat.reduceMul, Int.reduceToNat, ↓reduceIte, List.take_of_length_le, if_pos, if_neg, List.getElem?_set_self, List.set_set, cnE, cnV, Try.ntmps34, Try.results34,  ha, hq])
end Go.Proofs.Ytgpflkmelindfaa
namespace Go.Proofs.Ytgpflkmelindfaa
open Go Go.Ev Go.RowKit Go.Ev.Enc Go.Pl

/-! ### lines that ascend -/
theorem line_asc {a s : Int} {N : Nat} (hs : 1 ≤ s) : (lineF a s N).Pairwise (· < ·) := by
  rw [List.pairwise_iff_getElem]
  intro i j hi hj hij
  rw [lineF_len] at hi hj
  have e1 := lineF_at (b := a) (s := s) hi
  have e2 := lineF_at (b := a) (s := s) hj
  rw [List.getD_eq_getElem?_getD, List.getElem?_eq_getElem (by rw [lineF_len]; exact hi), Option.getD_some] at e1
  rw [List.getD_eq_getElem?_getD, List.getElem?_eq_getElem (by rw [lineF_len]; exact hj), Option.getD_some] at e2
  rw [e1, e2]
  have := mul_stepI hs hij
  omega
theorem srt_line {v : Vi} (h : viewOK v = true) (h1 : v.sh.length = 1) : ∃ a s N, 1 ≤ s ∧ srt (offF v) = lineF a s N := by
  rw [offF_line h h1]
  generalize v.b = b
  generalize v.st.getD 0 0 = s
  generalize (v.sh.getD 0 0).toNat = n
  rcases Int.lt_trichotomy s 0 with hs | hs | hs
  · have key : ∀ k, k < n → ((n - 1 - k : Nat) : Int) * s = ((n : Int) - 1) * s - k * s := fun k hk => by
      rw [show ((n - 1 - k : Nat) : Int) = ((n : Int) - 1) - k by omega, Int.sub_mul]
    generalize ((n : Int) - 1) * s = Z at key ⊢
    refine ⟨b + Z, -s, n, by omega, srt_eq (line_asc (by omega)) fun x => ?_⟩
    rw [mem_line, mem_line]
    constructor
    · rintro ⟨k, hk, rfl⟩
      refine ⟨n - 1 - k, by omega, ?_⟩
      rw [Int.mul_neg, key k hk]
      omega
    · rintro ⟨k, hk, rfl⟩
      refine ⟨n - 1 - k, by omega, ?_⟩
      rw [Int.mul_neg, key k hk]
      omega
  · subst hs
    by_cases hn : n = 0
    · subst hn
      exact ⟨0, 1, 0, by omega, srt_eq (line_asc (by omega)) fun x => by rw [mem_line, mem_line]; exact ⟨fun ⟨k, hk, _⟩ => by omega, fun ⟨k, hk, _⟩ => by omega⟩⟩
    · refine ⟨b, 1, 1, by omega, srt_eq (line_asc (by omega)) fun x => ?_⟩
      rw [mem_line, mem_line]
      constructor
      · rintro ⟨k, hk, rfl⟩
        exact ⟨0, by omega, by simp; omega⟩
      · rintro ⟨k, hk, rfl⟩
        exact ⟨0, by omega, by simp⟩
  · exact ⟨b, s, n, by omega, srt_eq (line_asc (by omega)) fun x => Iff.rfl⟩
theorem nrm_step {a s : Int} {N : Nat} (hs : 1 ≤ s) : ¬ (nrmF (lineF a s N)).s = 0 := by
  unfold nrmF
  rw [lineF_len]
  split
  · decide
  · split
    · show ¬ (1 : Int) = 0
      decide
    · rw [lineF_at (by omega), lineF_at (by omega)]
      show ¬ (a + ((1 : Nat) : Int) * s - (a + ((0 : Nat) : Int) * s)) = 0
      simp
      omega
theorem rgOK_mk {a z s : Int} (h1 : -100 ≤ a ∧ a ≤ 100) (h2 : -101 ≤ z ∧ z ≤ 101) (h3 : -200 ≤ s ∧ s ≤ 200) (h4 : ¬ s = 0) : rgOK ⟨a, z, s⟩ = true := by
  unfold rgOK inR
  simp [h1, h2, h3, h4]
theorem nrm_ok {a s : Int} {N : Nat} (hs : 1 ≤ s) (hl : ∀ x ∈ lineF a s N, 0 ≤ x ∧ x < 60) : rgOK (nrmF (lineF a s N)) = true := by
  have hk : ∀ k, k < N → 0 ≤ (lineF a s N).getD k 0 ∧ (lineF a s N).getD k 0 < 60 := fun k hk => hl _ (gmem (by rw [lineF_len]; exact hk))
  unfold nrmF
  rw [lineF_len]
  split
  · decide
  · split
    · have := hk 0 (by omega)
      exact rgOK_mk (by omega) (by omega) (by decide) (by decide)
    · have h0 := hk 0 (by omega)
      have h1 := hk 1 (by omega)
      have h2 := hk (N - 1) (by omega)
      have e : (lineF a s N).getD 1 0 - (lineF a s N).getD 0 0 = s := by
        rw [lineF_at (by omega), lineF_at (by omega)]
        show a + ((1 : Nat) : Int) * s - (a + ((0 : Nat) : Int) * s) = s
        simp; omega
      have h3 : -200 ≤ s ∧ s ≤ 200 := by omega
      rw [e, if_neg (by omega)]
      exact rgOK_mk (by omega) (by omega) h3 (by omega)
/-! ### lines meet in lines -/
theorem line_btw {a s u w y m : Int} {N : Nat} (hs : 1 ≤ s) (hu : u ∈ lineF a s N) (hw : w ∈ lineF a s N) (h1 : u ≤ y) (h2 : y ≤ w) (h3 : y = u + m * s) : y ∈ lineF a s N := by
  obtain ⟨i, hi, rfl⟩ := mem_line.1 hu
  obtain ⟨j, hj, rfl⟩ := mem_line.1 hw
  have hm : 0 ≤ m := by
    apply Int.not_lt.1
    intro hn
    have : m * s ≤ (-1) * s := Int.mul_le_mul_of_nonneg_right (by omega) (by omega)
    omega
  have hy : y = a + ((i : Int) + m) * s := by rw [Int.add_mul]; omega
  have hij : (i : Int) + m ≤ j := by
    apply Int.not_lt.1
    intro hn
    have : ((j : Int) + 1) * s ≤ ((i : Int) + m) * s := Int.mul_le_mul_of_nonneg_right (by omega) (by omega)
    rw [Int.add_mul] at this
    omega
  exact mem_line.2 ⟨((i : Int) + m).toNat, by omega, by rw [hy, Int.toNat_of_nonneg (by omega)]⟩
theorem line_diff_mul {a s u w : Int} {N : Nat} (hu : u ∈ lineF a s N) (hw : w ∈ lineF a s N) : ∃ m, w = u + m * s := by
  obtain ⟨i, hi, rfl⟩ := mem_line.1 hu
  obtain ⟨j, hj, rfl⟩ := mem_line.1 hw
  exact ⟨(j : Int) - i, by rw [Int.sub_mul]; omega⟩
theorem meet_line {a s b t : Int} {N M : Nat} (hs : 1 ≤ s) (ht : 1 ≤ t) : ∃ a' s' N', 1 ≤ s' ∧ (lineF a s N).filter (fun x => (lineF b t M).contains x) = lineF a' s' N' := by
  have hasc : ((lineF a s N).filter (fun x => (lineF b t M).contains x)).Pairwise (· < ·) := (line_asc hs).sublist List.filter_sublist
  have hmem : ∀ x, x ∈ (lineF a s N).filter (fun x => (lineF b t M).contains x) ↔ x ∈ lineF a s N ∧ x ∈ lineF b t M := fun x => by
    rw [List.mem_filter, List.contains_iff_mem]
  generalize (lineF a s N).filter (fun x => (lineF b t M).contains x) = F at *
  match F, hasc, hmem with
  | [], _, _ => exact ⟨0, 1, 0, by omega, rfl⟩
  | [x], _, _ => exact ⟨x, 1, 1, by omega, by simp [lineF]⟩
  | x0 :: x1 :: r, hasc, hmem =>
    have hlt : x0 < x1 := by
      rw [List.pairwise_cons] at hasc
      exact hasc.1 x1 (by simp)
    have hmin : ∀ y ∈ x0 :: x1 :: r, y = x0 ∨ x1 ≤ y := fun y hy => by
      rcases List.mem_cons.1 hy with rfl | hy
      · exact .inl rfl
      · rcases List.mem_cons.1 hy with rfl | hy
        · exact .inr (Int.le_refl _)
        · rw [List.pairwise_cons, List.pairwise_cons] at hasc
          have := hasc.2.1 y hy
          omega
    obtain ⟨p0, p1⟩ := (hmem x0).1 (by simp)
    obtain ⟨r0, r1⟩ := (hmem x1).1 (by simp)
    obtain ⟨d1, hd1⟩ := line_diff_mul p0 r0
    obtain ⟨d2, hd2⟩ := line_diff_mul p1 r1
    have hmul : ∀ y ∈ x0 :: x1 :: r, ∃ q : Nat, y = x0 + (q : Int) * (x1 - x0) := fun y hy => by
      obtain ⟨y0, y1⟩ := (hmem y).1 hy
      obtain ⟨e1, he1⟩ := line_diff_mul p0 y0
      obtain ⟨e2, he2⟩ := line_diff_mul p1 y1
      have hx : x0 ≤ y := by rcases hmin y hy with h | h <;> omega
      have hdm := Int.emod_add_mul_ediv (y - x0) (x1 - x0)
      have hr0 := Int.emod_nonneg (y - x0) (show x1 - x0 ≠ 0 by omega)
      have hr1 := Int.emod_lt_of_pos (y - x0) (show 0 < x1 - x0 by omega)
      have hq0 : 0 ≤ (y - x0) / (x1 - x0) := Int.ediv_nonneg (by omega) (by omega)
      generalize hQ : (y - x0) / (x1 - x0) = Q at *
      generalize hR : (y - x0) % (x1 - x0) = R at *
      have hz : R = 0 := by
        have c1 : x0 + R = x0 + (e1 - d1 * Q) * s := by
          have : (x1 - x0) * Q = d1 * Q * s := by rw [show x1 - x0 = d1 * s by omega]; rw [Int.mul_assoc, Int.mul_comm s Q, ← Int.mul_assoc]
          rw [Int.sub_mul]; omega
        have c2 : x0 + R = x0 + (e2 - d2 * Q) * t := by
          have : (x1 - x0) * Q = d2 * Q * t := by rw [show x1 - x0 = d2 * t by omega]; rw [Int.mul_assoc, Int.mul_comm t Q, ← Int.mul_assoc]
          rw [Int.sub_mul]; omega
        have m1 := line_btw hs p0 r0 (show x0 ≤ x0 + R by omega) (by omega) c1
        have m2 := line_btw ht p1 r1 (show x0 ≤ x0 + R by omega) (by omega) c2
        rcases hmin _ ((hmem _).2 ⟨m1, m2⟩) with h | h <;> omega
      refine ⟨Q.toNat, ?_⟩
      rw [Int.toNat_of_nonneg hq0, Int.mul_comm]
      omega
    obtain ⟨l, hl⟩ : ∃ l, (x0 :: x1 :: r).getLast (by simp) = l := ⟨_, rfl⟩
    have hlm : l ∈ x0 :: x1 :: r := by rw [← hl]; exact List.getLast_mem _
    have hmax : ∀ y ∈ x0 :: x1 :: r, y ≤ l := fun y hy => by
      obtain ⟨i, hi, rfl⟩ := List.mem_iff_getElem.1 hy
      rw [← hl, List.getLast_eq_getElem]
      rcases Nat.lt_or_eq_of_le (Nat.le_sub_one_of_lt hi) with h | h
      · exact Int.le_of_lt (List.pairwise_iff_getElem.1 hasc i _ hi (by omega) h)
      · simp only [h]; exact Int.le_refl _
    obtain ⟨K, hK⟩ := hmul l hlm
    obtain ⟨l0, l1⟩ := (hmem l).1 hlm
    refine ⟨x0, x1 - x0, K + 1, by omega, asc_ext hasc (line_asc (by omega)) fun y => ?_⟩
    rw [mem_line]
    constructor
    · intro hy
      obtain ⟨q, hq⟩ := hmul y hy
      refine ⟨q, ?_, hq⟩
      have := hmax y hy
      apply Nat.lt_succ_of_le
      apply Nat.le_of_not_lt
      intro h
      have := mul_stepI (s := x1 - x0) (by omega) h
      omega
    · rintro ⟨q, hq, rfl⟩
      have h1 : (q : Int) * (x1 - x0) ≤ (K : Int) * (x1 - x0) := Int.mul_le_mul_of_nonneg_right (by omega) (by omega)
      have h2 : 0 ≤ (q : Int) * (x1 - x0) := Int.mul_nonneg (by omega) (by omega)
      refine (hmem _).2 ⟨line_btw hs p0 l0 (by omega) (by omega) (m := q * d1) ?_, line_btw ht p1 l1 (by omega) (by omega) (m := q * d2) ?_⟩
      · rw [show x1 - x0 = d1 * s by omega, Int.mul_assoc]
      · rw [show x1 - x0 = d2 * t by omega, Int.mul_assoc]
theorem msr_self {A : List Int} (h : A.Pairwise (· < ·)) : msr A = A := by
  have hn : A.Nodup := List.nodup_iff_pairwise_ne.2 (h.imp fun h => by omega)
  have hm : (msr A).Pairwise (· < ·) := by
    have p1 := ms_pw A
    have p2 : (msr A).Nodup := (List.mergeSort_perm A _).nodup_iff.2 hn
    rw [List.nodup_iff_pairwise_ne] at p2
    exact (p1.and p2).imp fun ⟨a, b⟩ => by omega
  exact asc_ext hm h fun x => List.mem_mergeSort
def othV : Vi := ⟨2, [6], [3]⟩
theorem oth_ok : viewOK othV = true := by decide +kernel
theorem oth_off : offF othV = lineF 2 3 6 := offF_line oth_ok rfl
def DrLine (f : FuncId) : Prop := ∀ (bs : List UInt8), bs.length ≤ 1048576 → ∀ L : List Blk, ISpec Try.prog f [bytesA 0 bs] L fun r L' => ∃ (v : Vi) (t : Nat), viOK v ∧ r = .agg [i64 v.b, ints t v.sh, ints t v.st] ∧ L' = L
theorem can_DrawLineOf : CanCall Try.prog 32 := ⟨_, Try.func32, rfl, rfl⟩
set_option maxHeartbeats 8000000 in
set_option maxRecDepth 100000 in
theorem law_LineOf {Sg Sd : FuncId → Option (List AV → Option AV)} (hS : Sound Try.prog Sg) (hD : Sound Try.prog Sd) (n1 : Sg 32 = none) (h1 : Sd 33 = some (F1 gLine)) (h2 : Sd 35 = some (F1 gLine)) (h3 : Sd 34 = some (F2 gEqR)) (h4 : Sd 36 = some (F1 gNumT)) (h5 : Sd 15 = some (F1 gCellsT)) (h6 : Sd 14 = some (F2 gEqInts)) (h7 : Sd 37 = some (F2 gMeetR)) (h8 : Sd 38 = some (F2 gOvT)) (h9 : Sg 33 = some (F1 gLine)) (hDr : DrLine 32) : ∀ a r, F1 gTrueW a = some r → CSpec Try.prog 7 a r := by
  refine F1_spec ?_
  intro bs r hr
  obtain ⟨g1, rfl⟩ := gd_some hr
  refine law3 Try.func7 rfl Try.pf hS hD ?_
  by_cases hb : 1048576 < bs.length
  · repeat' (first | with_reducible first | refine kI (by kernel_rfl) ?_ | refine kN (by kernel_rfl) ?_ | (first | refine kB1 ?_ ?_ | refine kB2 ?_ ?_) <;> intro hp | (first | refine kD1 ?_ ?_ | refine kD2 ?_ ?_ | refine kS1 ?_ ?_ | refine kS2 ?_ ?_) <;> intro hp <;> try simp only [hp] | simp -implicitDefEqProofs (disch := omega) only [go_sem, Nat.reduceAdd, Nat.reduceSub, reduceCtorEq, Nat.reduceLT, Nat.reduceLeDiff, Nat.reduceEqDiff, Nat.reduceMul, Int.reduceToNat, ↓reduceIte, List.take_of_length_le, if_pos, if_neg, List.getElem?_set_self, List.set_set, cnE, cnV, Try.ntmps7, Try.results7])
  · repeat' (first | with_reducible first | refine kI (by kernel_rfl) ?_ | refine kN (by kernel_rfl) ?_ | (first | refine kB1 ?_ ?_ | refine kB2 ?_ ?_) <;> intro hp | (first | refine kD1 ?_ ?_ | refine kD2 ?_ ?_ | refine kS1 ?_ ?_ | refine kS2 ?_ ?_) <;> intro hp <;> try simp only [hp] | simp -implicitDefEqProofs (disch := omega) only [go_sem, Nat.reduceAdd, Nat.reduceSub, reduceCtorEq, Nat.reduceLT, Nat.reduceLeDiff, Nat.reduceEqDiff, Nat.reduceMul, Int.reduceToNat, ↓reduceIte, List.take_of_length_le, if_pos, if_neg, List.getElem?_set_self, List.set_set, cnE, cnV, Try.ntmps7, Try.results7,  n1, opQ_none])
    refine InlK_intro rfl rfl can_DrawLineOf ((hDr bs (by omega) _).mono ?_)
    rintro r L1 ⟨v, t, ⟨k1, k2⟩, rfl, rfl⟩
    have hvb : viB v := ⟨by omega, by omega⟩
    have q1 := gLine_eq hvb
    unfold lineR at q1
    by_cases hc : viewOK v = true ∧ v.sh.length = 1
    · rw [if_pos hc] at q1
      obtain ⟨e1, l1⟩ := hc
      obtain ⟨a, s, N, hs, hS⟩ := srt_line e1 l1
      have hin : ∀ x ∈ lineF a s N, 0 ≤ x ∧ x < 60 := fun x hx => offF_in e1 x ((srt_mem _ _).1 (by rw [hS]; exact hx))
      have o1 := nrm_ok hs hin
      have o2 := nrm_line (a := a) (N := N) (show s ≠ 0 by omega)
      have o3 := nrm_step (a := a) (N := N) hs
      rw [hS] at q1
      have q2 : gEqR (nrmF (lineF a s N)) (nrmF (lineF a s N)) = some true := (gEqR_eq _ _).trans (by simp)
      have q4 := gNumT_eq (nrmF (lineF a s N))
      rw [o1, if_pos rfl, o2] at q4
      have q5 := gCellsT_eq hvb
      rw [e1, if_pos rfl, hS] at q5
      have hll : (lineF a s N).length ≤ 60 := by rw [← hS]; have := srt_len (offF v); have := offF_60 (vOK e1).1; omega
      have q6 : gEqInts (lineF a s N) (lineF a s N) = some true := (gEqInts_eq ⟨by omega, by omega⟩).trans (by simp)
      have p1 := gLine_eq (v := othV) (by decide)
      have hin2 : ∀ x ∈ lineF 2 3 6, 0 ≤ x ∧ x < 60 := by decide
      have p0 : lineR othV = nrmF (lineF 2 3 6) := by
        unfold lineR
        rw [if_pos ⟨oth_ok, rfl⟩, oth_off, srt_eq (line_asc (by omega)) fun x => Iff.rfl]
      rw [p0] at p1
      have p2 := gMeetR_eq (nrmF (lineF a s N)) (nrmF (lineF 2 3 6))
      rw [if_pos ⟨o1, nrm_ok (by omega) hin2⟩] at p2
      unfold meetF at p2
      rw [o2, nrm_line (by omega)] at p2
      obtain ⟨a', s', N', hs', hF⟩ := meet_line (a := a) (s := s) (N := N) (b := 2) (t := 3) (M := 6) hs (by omega)
      have hov : bothF (offF v) (offF othV) = lineF a' s' N' := by
        rw [← hF]
        refine asc_ext (both_asc _ _) ((line_asc hs).sublist List.filter_sublist) fun x => ?_
        rw [mem_both, List.mem_filter, List.contains_iff_mem, oth_off, ← hS, srt_mem]
        exact ⟨fun h => h.2, fun h => ⟨offF_in e1 x h.1, h⟩⟩
      have hin3 : ∀ x ∈ lineF a' s' N', 0 ≤ x ∧ x < 60 := fun x hx => by
        rw [← hF] at hx
        exact hin x (List.mem_filter.1 hx).1
      rw [hF, msr_self (line_asc hs')] at p2
      have p3 := gNumT_eq (nrmF (lineF a' s' N'))
      rw [nrm_ok hs' hin3, if_pos rfl, nrm_line (by omega)] at p3
      have p4 := gOvT_eq (a := v) (b := othV) ⟨hvb, by decide⟩
      rw [okk_iff.2 ⟨e1, oth_ok⟩, if_pos rfl, hov] at p4
      have hl3 : (lineF a' s' N').length ≤ 60 := by rw [← hov]; exact both_len _ _
      have p5 : gEqInts (lineF a' s' N') (lineF a' s' N') = some true := (gEqInts_eq ⟨by omega, by omega⟩).trans (by simp)
      generalize nrmF (lineF a' s' N') = R3 at *
      generalize nrmF (lineF 2 3 6) = R2 at *
      have o3' : ((nrmF (lineF a s N)).s == 0) = false := beq_f o3
      generalize nrmF (lineF a s N) = R1 at *
      generalize lineF a s N = L0 at *
      generalize lineF a' s' N' = L3 at *
      unfold othV at p1 p4
      have x1 : ∀ L : List Blk, expE (expC 0 L) (AV.ds 2 [.int .i64 6]) = .ds 0 [.int .i64 6] := fun _ => rfl
      have x2 : ∀ L : List Blk, expE (expC 0 L) (AV.ds 2 [.int .i64 3]) = .ds 0 [.int .i64 3] := fun _ => rfl
      have x3 : (dec (.agg [.int .i64 2, .ds 0 [.int .i64 6], .ds 0 [.int .i64 3]]) : Option Vi) = some ⟨2, [6], [3]⟩ := (ok _ _).2 rfl
      repeat' (first | with_reducible first | refine kI (by kernel_rfl) ?_ | refine kN (by kernel_rfl) ?_ | (first | refine kB1 ?_ ?_ | refine kB2 ?_ ?_) <;> intro hp | (first | refine kD1 ?_ ?_ | refine kD2 ?_ ?_ | refine kS1 ?_ ?_ | refine kS2 ?_ ?_) <;> intro hp <;> try simp only [hp] | simp -implicitDefEqProofs (disch := omega) only [go_sem, Nat.reduceAdd, Nat.reduceSub, reduceCtorEq, Nat.reduceLT, Nat.reduceLeDiff, Nat.reduceEqDiff, Nat.reduceMul, Int.reduceToNat, ↓reduceIte, List.take_of_length_le, if_pos, if_neg, List.getElem?_set_self, List.set_set, cnE, cnV, Try.ntmps7, Try.results7,  h9, q1, h1, h2, h3, q2, o3', h4, q4, h5, q5, h6, q6, p1, h7, p2, p3, h8, p4, p5, x1, x2, x3])
    · rw [if_neg hc] at q1
      have q2 : gEqR ⟨0, 0, 0⟩ ⟨0, 0, 0⟩ = some true := (gEqR_eq _ _).trans (by simp)
      repeat' (first | with_reducible first | refine kI (by kernel_rfl) ?_ | refine kN (by kernel_rfl) ?_ | (first | refine kB1 ?_ ?_ | refine kB2 ?_ ?_) <;> intro hp | (first | refine kD1 ?_ ?_ | refine kD2 ?_ ?_ | refine kS1 ?_ ?_ | refine kS2 ?_ ?_) <;> intro hp <;> try simp only [hp] | simp -implicitDefEqProofs (disch := omega) only [go_sem, Nat.reduceAdd, Nat.reduceSub, reduceCtorEq, Nat.reduceLT, Nat.reduceLeDiff, Nat.reduceEqDiff, Nat.reduceMul, Int.reduceToNat, ↓reduceIte, List.take_of_length_le, if_pos, if_neg, List.getElem?_set_self, List.set_set, cnE, cnV, Try.ntmps7, Try.results7,  h9, q1, h2, h3, q2])
end Go.Proofs.Ytgpflkmelindfaa
namespace Go.Proofs.Ytgpflkmelindfaa
open Go Go.Ev Go.RowKit Go.Ev.Enc Go.Pl

def viLn (v : Vi) : AV := .agg [i64 v.b, ints 2 v.sh, ints 2 v.st]
set_option maxHeartbeats 4000000 in
set_option maxRecDepth 100000 in
theorem isp_lineView {Sg : FuncId → Option (List AV → Option AV)} (hS : Sound Try.prog Sg) (h0 : Sg 81 = none) (h1 : Sg 56 = none) {bs : List UInt8} {b n : Nat} {rL : Int → List Blk} (hC : RC bs b n rL) (hb : bs.length ≤ 2000) (p : Int) (hp : 0 ≤ p ∧ p ≤ 700000000) : ISpec Try.prog 83 [.ptr b 1 0 0] (rL p) (fun r L' => ∃ (v : Vi) (p' : Int), viOK v ∧ r = viLn v ∧ p ≤ p' ∧ p' ≤ p + 10 ∧ L' = rL p') := by
  refine ISpec.ret Try.func83 rfl (vc3_sound Try.pf hS hS _ _ _ ?_)
  repeat' (first | with_reducible first | refine kI (by kernel_rfl) ?_ | refine kN (by kernel_rfl) ?_ | (first | refine kB1 ?_ ?_ | refine kB2 ?_ ?_) <;> intro hp | (first | refine kD1 ?_ ?_ | refine kD2 ?_ ?_ | refine kS1 ?_ ?_ | refine kS2 ?_ ?_) <;> intro hp <;> try simp only [hp] | simp -implicitDefEqProofs (disch := omega) only [go_sem, Nat.reduceAdd, Nat.reduceSub, reduceCtorEq, Nat.reduceLT, Nat.reduceLeDiff, Nat.reduceEqDiff, Nat.reduceMul, Int.reduceToNat, ↓reduceIte, List.take_of_length_le, if_pos, if_neg, List.getElem?_set_self, List.set_set, cnE, cnV, Try.ntmps83, Try.results83,  hC.cn, h1, opQ_none])
  refine InlK_intro rfl rfl can_one ((isp_one hS h0 (hC.app _) hb p (by omega) 2 [4, 5, 3, 6, 8, 1, 0] (by decide)).mono ?_)
  rintro r L1 ⟨y1, rfl, m1, rfl⟩
  repeat' (first | with_reducible first | refine kI (by kernel_rfl) ?_ | refine kN (by kernel_rfl) ?_ | (first | refine kB1 ?_ ?_ | refine kB2 ?_ ?_) <;> intro hp | (first | refine kD1 ?_ ?_ | refine kD2 ?_ ?_ | refine kS1 ?_ ?_ | refine kS2 ?_ ?_) <;> intro hp <;> try simp only [hp] | simp -implicitDefEqProofs (disch := omega) only [go_sem, Nat.reduceAdd, Nat.reduceSub, reduceCtorEq, Nat.reduceLT, Nat.reduceLeDiff, Nat.reduceEqDiff, Nat.reduceMul, Int.reduceToNat, ↓reduceIte, List.take_of_length_le, if_pos, if_neg, List.getElem?_set_self, List.set_set, cnE, cnV, Try.ntmps83, Try.results83,  hC.cn, h1, opQ_none])
  refine InlK_intro rfl rfl can_one ((isp_one hS h0 (hC.app _) hb _ (by omega) 2 [1, 2, 3, -2, 4, 5, -1, 0] (by decide)).mono ?_)
  rintro r L1 ⟨y2, rfl, m2, rfl⟩
  repeat' (first | with_reducible first | refine kI (by kernel_rfl) ?_ | refine kN (by kernel_rfl) ?_ | (first | refine kB1 ?_ ?_ | refine kB2 ?_ ?_) <;> intro hp | (first | refine kD1 ?_ ?_ | refine kD2 ?_ ?_ | refine kS1 ?_ ?_ | refine kS2 ?_ ?_) <;> intro hp <;> try simp only [hp] | simp -implicitDefEqProofs (disch := omega) only [go_sem, Nat.reduceAdd, Nat.reduceSub, reduceCtorEq, Nat.reduceLT, Nat.reduceLeDiff, Nat.reduceEqDiff, Nat.reduceMul, Int.reduceToNat, ↓reduceIte, List.take_of_length_le, if_pos, if_neg, List.getElem?_set_self, List.set_set, cnE, cnV, Try.ntmps83, Try.results83,  hC.cn, h0, opQ_none])
  refine InlK_intro rfl rfl can_pick ((isp_pick hS (hC.app _) hb _ (by omega) 12 (by omega)).mono ?_)
  rintro r L1 ⟨ch, rfl, c1, c2, rfl⟩
  have w1 : IntKind.i64.wrap (ch + 16) = ch + 16 := wrap_in (by omega)
  by_cases h : y2 < 0
  · repeat' (first | with_reducible first | refine kI (by kernel_rfl) ?_ | refine kN (by kernel_rfl) ?_ | (first | refine kB1 ?_ ?_ | refine kB2 ?_ ?_) <;> intro hp | (first | refine kD1 ?_ ?_ | refine kD2 ?_ ?_ | refine kS1 ?_ ?_ | refine kS2 ?_ ?_) <;> intro hp <;> try simp only [hp] | simp -implicitDefEqProofs (disch := omega) only [go_sem, Nat.reduceAdd, Nat.reduceSub, reduceCtorEq, Nat.reduceLT, Nat.reduceLeDiff, Nat.reduceEqDiff, Nat.reduceMul, Int.reduceToNat, ↓reduceIte, List.take_of_length_le, if_pos, if_neg, List.getElem?_set_self, List.set_set, cnE, cnV, Try.ntmps83, Try.results83,  hC.cn, h, w1])
    refine hC.ret0 ⟨⟨ch + 16, [y1], [y2]⟩, _, ⟨by simp, by simp⟩, ?_, by omega, by omega, rfl⟩
    rw [selV_agg]
    simp [expE, selC, selStep, ints, viLn, Function.comp_def]
  · repeat' (first | with_reducible first | refine kI (by kernel_rfl) ?_ | refine kN (by kernel_rfl) ?_ | (first | refine kB1 ?_ ?_ | refine kB2 ?_ ?_) <;> intro hp | (first | refine kD1 ?_ ?_ | refine kD2 ?_ ?_ | refine kS1 ?_ ?_ | refine kS2 ?_ ?_) <;> intro hp <;> try simp only [hp] | simp -implicitDefEqProofs (disch := omega) only [go_sem, Nat.reduceAdd, Nat.reduceSub, reduceCtorEq, Nat.reduceLT, Nat.reduceLeDiff, Nat.reduceEqDiff, Nat.reduceMul, Int.reduceToNat, ↓reduceIte, List.take_of_length_le, if_pos, if_neg, List.getElem?_set_self, List.set_set, cnE, cnV, Try.ntmps83, Try.results83,  hC.cn, h])
    refine hC.ret0 ⟨⟨ch, [y1], [y2]⟩, _, ⟨by simp, by simp⟩, ?_, by omega, by omega, rfl⟩
    rw [selV_agg]
    simp [expE, selC, selStep, ints, viLn, Function.comp_def]
theorem can_lineView : CanCall Try.prog 83 := ⟨_, Try.func83, rfl, rfl⟩
theorem selV_viLn {g : Nat → Option Nat} {L : List Blk} {v : Vi} : selV g L (viLn v) = viLn v := by
  unfold viLn
  rw [selV_agg]
  simp only [List.map_cons, List.map_nil, selC_d, selC_int]
set_option maxHeartbeats 4000000 in
set_option maxRecDepth 100000 in
theorem isp_DrawLineOf {Sg : FuncId → Option (List AV → Option AV)} (hS : Sound Try.prog Sg) (h0 : Sg 81 = none) (h1 : Sg 56 = none) (h6 : Sg 48 = none) (h7 : Sg 83 = none) (h8 : Sg 82 = none) (bs : List UInt8) (hb : bs.length ≤ 1048576) (L : List Blk) (hsv : SomeV) : ISpec Try.prog 32 [bytesA 0 bs] (L) (fun r L' => ∃ (v : Vi) (t : Nat), viOK v ∧ r = .agg [i64 v.b, ints t v.sh, ints t v.st] ∧ L' = L) := by
  refine ISpec.ret Try.func32 rfl (vc3_sound Try.pf hS hS _ _ _ ?_)
  repeat' (first | with_reducible first | refine kI (by kernel_rfl) ?_ | refine kN (by kernel_rfl) ?_ | (first | refine kB1 ?_ ?_ | refine kB2 ?_ ?_) <;> intro hp | (first | refine kD1 ?_ ?_ | refine kD2 ?_ ?_ | refine kS1 ?_ ?_ | refine kS2 ?_ ?_) <;> intro hp <;> try simp only [hp] | simp -implicitDefEqProofs (disch := omega) only [go_sem, Nat.reduceAdd, Nat.reduceSub, reduceCtorEq, Nat.reduceLT, Nat.reduceLeDiff, Nat.reduceEqDiff, Nat.reduceMul, Int.reduceToNat, ↓reduceIte, List.take_of_length_le, if_pos, if_neg, List.getElem?_set_self, List.set_set, cnE, cnV, Try.ntmps32, Try.results32,  h6, opQ_none])
  refine InlK_intro rfl rfl can_newRd ((isp_newReader hS bs hb _).mono ?_)
  rintro r L1 ⟨rfl, rfl⟩
  have hb2 : (bs.take 2000).length ≤ 2000 := by simp; omega
  have hC := RC.new1 (bs.take 2000) L ⟨3, [.agg [.int .i64 0, .nilS, .nilS]]⟩
  repeat' (first | with_reducible first | refine kI (by kernel_rfl) ?_ | refine kN (by kernel_rfl) ?_ | (first | refine kB1 ?_ ?_ | refine kB2 ?_ ?_) <;> intro hp | (first | refine kD1 ?_ ?_ | refine kD2 ?_ ?_ | refine kS1 ?_ ?_ | refine kS2 ?_ ?_) <;> intro hp <;> try simp only [hp] | simp -implicitDefEqProofs (disch := omega) only [go_sem, Nat.reduceAdd, Nat.reduceSub, reduceCtorEq, Nat.reduceLT, Nat.reduceLeDiff, Nat.reduceEqDiff, Nat.reduceMul, Int.reduceToNat, ↓reduceIte, List.take_of_length_le, if_pos, if_neg, List.getElem?_set_self, List.set_set, cnE, cnV, Try.ntmps32, Try.results32,  h0, opQ_none])
  refine InlK_intro rfl rfl can_pick ((isp_pick hS hC hb2 0 (by omega) 6 (by omega)).mono ?_)
  rintro r L1 ⟨ch, rfl, -, -, rfl⟩
  by_cases hch : ch = 0
  · have hch' : (ch == 0) = true := beq_t hch
    repeat' (first | with_reducible first | refine kI (by kernel_rfl) ?_ | refine kN (by kernel_rfl) ?_ | (first | refine kB1 ?_ ?_ | refine kB2 ?_ ?_) <;> intro hp | (first | refine kD1 ?_ ?_ | refine kD2 ?_ ?_ | refine kS1 ?_ ?_ | refine kS2 ?_ ?_) <;> intro hp <;> try simp only [hp] | simp -implicitDefEqProofs (disch := omega) only [go_sem, Nat.reduceAdd, Nat.reduceSub, reduceCtorEq, Nat.reduceLT, Nat.reduceLeDiff, Nat.reduceEqDiff, Nat.reduceMul, Int.reduceToNat, ↓reduceIte, List.take_of_length_le, if_pos, if_neg, List.getElem?_set_self, List.set_set, cnE, cnV, Try.ntmps32, Try.results32,  hch', h8, opQ_none])
    refine InlK_intro rfl rfl can_someView ((hsv hC hb2 _ (by omega)).mono ?_)
    rintro r L1 ⟨v, p', k1, k2, rfl, m1, m2, rfl⟩
    repeat' (first | with_reducible first | refine kI (by kernel_rfl) ?_ | refine kN (by kernel_rfl) ?_ | (first | refine kB1 ?_ ?_ | refine kB2 ?_ ?_) <;> intro hp | (first | refine kD1 ?_ ?_ | refine kD2 ?_ ?_ | refine kS1 ?_ ?_ | refine kS2 ?_ ?_) <;> intro hp <;> try simp only [hp] | simp -implicitDefEqProofs (disch := omega) only [go_sem, Nat.reduceAdd, Nat.reduceSub, reduceCtorEq, Nat.reduceLT, Nat.reduceLeDiff, Nat.reduceEqDiff, Nat.reduceMul, Int.reduceToNat, ↓reduceIte, List.take_of_length_le, if_pos, if_neg, List.getElem?_set_self, List.set_set, cnE, cnV, Try.ntmps32, Try.results32])
    exact RetQ.top ⟨v, 1, ⟨k1, k2⟩, selV_viD, rfl⟩
  · have hch' : (ch == 0) = false := beq_f hch
    repeat' (first | with_reducible first | refine kI (by kernel_rfl) ?_ | refine kN (by kernel_rfl) ?_ | (first | refine kB1 ?_ ?_ | refine kB2 ?_ ?_) <;> intro hp | (first | refine kD1 ?_ ?_ | refine kD2 ?_ ?_ | refine kS1 ?_ ?_ | refine kS2 ?_ ?_) <;> intro hp <;> try simp only [hp] | simp -implicitDefEqProofs (disch := omega) only [go_sem, Nat.reduceAdd, Nat.reduceSub, reduceCtorEq, Nat.reduceLT, Nat.reduceLeDiff, Nat.reduceEqDiff, Nat.reduceMul, Int.reduceToNat, ↓reduceIte, List.take_of_length_le, if_pos, if_neg, List.getElem?_set_self, List.set_set, cnE, cnV, Try.ntmps32, Try.results32,  hch', h7, opQ_none])
    refine InlK_intro rfl rfl can_lineView ((isp_lineView hS h0 h1 hC hb2 _ (by omega)).mono ?_)
    rintro r L1 ⟨v, p', k2, rfl, m1, m2, rfl⟩
    unfold viLn
    repeat' (first | with_reducible first | refine kI (by kernel_rfl) ?_ | refine kN (by kernel_rfl) ?_ | (first | refine kB1 ?_ ?_ | refine kB2 ?_ ?_) <;> intro hp | (first | refine kD1 ?_ ?_ | refine kD2 ?_ ?_ | refine kS1 ?_ ?_ | refine kS2 ?_ ?_) <;> intro hp <;> try simp only [hp] | simp -implicitDefEqProofs (disch := omega) only [go_sem, Nat.reduceAdd, Nat.reduceSub, reduceCtorEq, Nat.reduceLT, Nat.reduceLeDiff, Nat.reduceEqDiff, Nat.reduceMul, Int.reduceToNat, ↓reduceIte, List.take_of_length_le, if_pos, if_neg, List.getElem?_set_self, List.set_set, cnE, cnV, Try.ntmps32, Try.results32])
    refine RetQ.top ?_
    exact ⟨v, 2, k2, selV_viLn, rfl⟩
end Go.Proofs.Ytgpflkmelindfaa
