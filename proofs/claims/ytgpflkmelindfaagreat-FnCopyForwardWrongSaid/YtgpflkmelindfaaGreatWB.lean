/- Contracts of functions on views and memories that the laws of this seat call. -/
import Derived.Test.YtgpflkmelindfaaGreatWA
set_option linter.all false
namespace Go.Proofs.YtgpflkmelindfaaGreat
open Go Go.Ev Go.RowKit Go.Ev.Enc Go.Pl

def DrFill (f : FuncId) : Prop := ∀ (bs : List UInt8), bs.length ≤ 1048576 → ∀ L : List Blk, ISpec Tryz.prog f [bytesA 0 bs] L fun r L' => ∃ (m : List Int) (v : Vi) (x : Int), m.length ≤ 60 ∧ viOK v ∧ r = .tup [ints 1 m, viD v, i64 x] ∧ L' = L
theorem fill_at {m A V : List Int} {x : Int} (hV : ∀ k, k < A.length → V.getD k 0 = x) (hA : inM A m.length) : ∀ k, k ≤ A.length → ∀ i, i < k → (stoT m A V k).getD (A.getD i 0).toNat 0 = x
  | k + 1, hk, i, hi => by
    obtain ⟨j, hj, hjm⟩ := in_at hA (show i < A.length by omega)
    rw [stoT, hj, Int.toNat_natCast, hV k (by omega)]
    by_cases he : (A.getD k 0).toNat = j
    · rw [he, getD_set_eq (by rw [stoT_len]; exact hjm)]
    · rw [getD_set_ne (Ne.symm he)]
      have hik : i < k := by
        rcases Nat.lt_or_eq_of_le (Nat.le_of_lt_succ hi) with h | h
        · exact h
        · subst h; rw [hj] at he; exact absurd rfl he
      have := fill_at hV hA k (by omega) i hik
      rw [hj, Int.toNat_natCast] at this
      exact this
theorem tkn_atI {m A : List Int} {i : Nat} (h : i < A.length) : (tkn m A).getD i 0 = m.getD (A.getD i 0).toNat 0 := by simp [tkn, h]
theorem eq_nil_t : gEqInts [] [] = some true := (gEqInts_eq (a := []) (b := []) ⟨by decide, by decide⟩).trans rfl
theorem within_srt {C A : List Int} (h : ∀ x ∈ C, x ∈ A) : (C.all fun x => (srt A).contains x) = true := within_mem fun x hx => (srt_mem A x).2 (h x hx)
end Go.Proofs.YtgpflkmelindfaaGreat
namespace Go.Proofs.YtgpflkmelindfaaGreat
open Go Go.Ev Go.RowKit Go.Ev.Enc Go.Pl

set_option maxHeartbeats 4000000 in
set_option maxRecDepth 100000 in
theorem spec_endOf {Sg : FuncId → Option (List AV → Option AV)} (hS : Sound Tryz.prog Sg) : ∀ a r, F3 gBound a = some r → CSpec Tryz.prog 103 a r := by
  refine F3_spec ?_
  intro n i s r hr
  obtain ⟨⟨⟨h1, h2⟩, h3, h4⟩, rfl⟩ := gd_some hr
  refine CSpec.intro Tryz.func103 rfl (own _) (vc3_sound Tryz.pf hS hS _ _ _ ?_)
  have w1 : IntKind.i64.wrap (n - 1) = n - 1 := wrap_in (by omega)
  have w2 : IntKind.i64.wrap (i + n) = i + n := wrap_in (by omega)
  by_cases c1 : s < 0
  · by_cases c2 : i < 0
    · repeat' (first | with_reducible first | refine kI (by kernel_rfl) ?_ | refine kN (by kernel_rfl) ?_ | (first | refine kB1 ?_ ?_ | refine kB2 ?_ ?_) <;> intro hp | (first | refine kD1 ?_ ?_ | refine kD2 ?_ ?_ | refine kS1 ?_ ?_ | refine kS2 ?_ ?_) <;> intro hp <;> try simp only [hp] | simp -implicitDefEqProofs (disch := omega) only [go_sem, Nat.reduceAdd, Nat.reduceSub, reduceCtorEq, Nat.reduceLT, Nat.reduceLeDiff, Nat.reduceEqDiff, Nat.reduceMul, Int.reduceToNat, ↓reduceIte, List.take_of_length_le, if_pos, if_neg, List.getElem?_set_self, List.set_set, cnE, cnV, Tryz.ntmps103, Tryz.results103,  c1, c2, w1, w2])
      all_goals (unfold bndF; simp only [c1, c2, if_true, if_false]; (repeat' split) <;> omega)
    · repeat' (first | with_reducible first | refine kI (by kernel_rfl) ?_ | refine kN (by kernel_rfl) ?_ | (first | refine kB1 ?_ ?_ | refine kB2 ?_ ?_) <;> intro hp | (first | refine kD1 ?_ ?_ | refine kD2 ?_ ?_ | refine kS1 ?_ ?_ | refine kS2 ?_ ?_) <;> intro hp <;> try simp only [hp] | simp -implicitDefEqProofs (disch := omega) only [go_sem, Nat.reduceAdd, Nat.reduceSub, reduceCtorEq, Nat.reduceLT, Nat.reduceLeDiff, Nat.reduceEqDiff, Nat.reduceMul, Int.reduceToNat, ↓reduceIte, List.take_of_length_le, if_pos, if_neg, List.getElem?_set_self, List.set_set, cnE, cnV, Tryz.ntmps103, Tryz.results103,  c1, c2, w1])
      all_goals (unfold bndF; simp only [c1, c2, if_true, if_false]; (repeat' split) <;> omega)
  · by_cases c2 : i < 0
    · repeat' (first | with_reducible first | refine kI (by kernel_rfl) ?_ | refine kN (by kernel_rfl) ?_ | (first | refine kB1 ?_ ?_ | refine kB2 ?_ ?_) <;> intro hp | (first | refine kD1 ?_ ?_ | refine kD2 ?_ ?_ | refine kS1 ?_ ?_ | refine kS2 ?_ ?_) <;> intro hp <;> try simp only [hp] | simp -implicitDefEqProofs (disch := omega) only [go_sem, Nat.reduceAdd, Nat.reduceSub, reduceCtorEq, Nat.reduceLT, Nat.reduceLeDiff, Nat.reduceEqDiff, Nat.reduceMul, Int.reduceToNat, ↓reduceIte, List.take_of_length_le, if_pos, if_neg, List.getElem?_set_self, List.set_set, cnE, cnV, Tryz.ntmps103, Tryz.results103,  c1, c2, w2])
      all_goals (unfold bndF; simp only [c1, c2, if_true, if_false]; (repeat' split) <;> omega)
    · repeat' (first | with_reducible first | refine kI (by kernel_rfl) ?_ | refine kN (by kernel_rfl) ?_ | (first | refine kB1 ?_ ?_ | refine kB2 ?_ ?_) <;> intro hp | (first | refine kD1 ?_ ?_ | refine kD2 ?_ ?_ | refine kS1 ?_ ?_ | refine kS2 ?_ ?_) <;> intro hp <;> try simp only [hp] | simp -implicitDefEqProofs (disch := omega) only [go_sem, Nat.reduceAdd, Nat.reduceSub, reduceCtorEq, Nat.reduceLT, Nat.reduceLeDiff, Nat.reduceEqDiff, Nat.reduceMul, Int.reduceToNat, ↓reduceIte, List.take_of_length_le, if_pos, if_neg, List.getElem?_set_self, List.set_set, cnE, cnV, Tryz.ntmps103, Tryz.results103,  c1, c2])
      all_goals (unfold bndF; simp only [c1, c2, if_true, if_false]; (repeat' split) <;> omega)
set_option maxHeartbeats 4000000 in
set_option maxRecDepth 100000 in
theorem spec_numbersOf {Sg : FuncId → Option (List AV → Option AV)} (hS : Sound Tryz.prog Sg) : ∀ a r, F1 gNumbers a = some r → CSpec Tryz.prog 104 a r := by
  refine F1_spec ?_
  intro g r hr
  obtain ⟨hb, rfl⟩ := gd_some hr
  refine CSpec.intro Tryz.func104 rfl (own _) (vc3_sound Tryz.pf hS hS _ _ _ ?_)
  have hb' := hb
  obtain ⟨⟨b1, b2⟩, ⟨b3, b4⟩, b5, b6⟩ := hb'
  have hl := numF_len hb
  have hd0 : distR g.z g.s g.a ≤ 2000 := by unfold distR; split <;> omega
  repeat' (first | with_reducible first | refine kI (by kernel_rfl) ?_ | refine kN (by kernel_rfl) ?_ | (first | refine kB1 ?_ ?_ | refine kB2 ?_ ?_) <;> intro hp | (first | refine kD1 ?_ ?_ | refine kD2 ?_ ?_ | refine kS1 ?_ ?_ | refine kS2 ?_ ?_) <;> intro hp <;> try simp only [hp] | simp -implicitDefEqProofs (disch := omega) only [go_sem, Nat.reduceAdd, Nat.reduceSub, reduceCtorEq, Nat.reduceLT, Nat.reduceLeDiff, Nat.reduceEqDiff, Nat.reduceMul, Int.reduceToNat, ↓reduceIte, List.take_of_length_le, if_pos, if_neg, List.getElem?_set_self, List.set_set, cnE, cnV, Tryz.ntmps104, Tryz.results104])
  refine LoopQ.mix (fun t0 L0 nn ss => ∃ (k : Nat) (y : Int) (q : List Int) (_ : Unit), (∃ x : Nat → AV, ss = ⟨mixL 0 (.k :: .k :: .k :: .v (.sl 1 k 0 k k) :: .v (i64 y) :: .k :: .k :: .k :: .s :: .s :: .s :: .s :: .s :: .s :: .s :: .s :: .s :: .s :: .s :: .s :: .s :: .s :: .s :: .s :: .s :: .s :: .s :: .s :: .s :: .s :: .s :: .s :: .s :: .s :: .s :: .s :: .k :: []) t0 x, [⟨3, [.agg [i64 g.a, i64 g.z, i64 g.s]]⟩, ⟨1, q.map fun n => .int .i64 n⟩]⟩) ∧ (q.length = k) ∧ (k + distR g.z g.s y ≤ 2000) ∧ (-2000 ≤ y ∧ y ≤ 2000) ∧ (q ++ numL g.z g.s (distR g.z g.s y) y = numF g) ∧ nn = distR g.z g.s y + 1) ?_ ?_
  · exact ⟨_, ⟨0, g.a, [], (), mixJ rfl (rfl), rfl, by omega, ⟨by omega, by omega⟩, rfl, rfl⟩⟩
  · rintro I0 hI0 nn ss ⟨k, y, q, _, ⟨x, rfl⟩, m1, m2, ⟨m3, m4⟩, m5, rfl⟩
    by_cases hg : goesOn g.z g.s y
    · rw [numF_on hg] at m5
      have h1 := dist_step hg
      have hw : IntKind.i64.wrap (y + g.s) = y + g.s := wrap_in (by omega)
      have h5 : (q ++ [y]) ++ numL g.z g.s (distR g.z g.s (y + g.s)) (y + g.s) = numF g := by rw [← m5]; simp
      have h6 : -2000 ≤ y + g.s ∧ y + g.s ≤ 2000 := by unfold goesOn at hg; omega
      rcases hg with ⟨s1, s2⟩ | ⟨s1, s2⟩
      · repeat' (first | with_reducible first | refine kI (by kernel_rfl) ?_ | refine kN (by kernel_rfl) ?_ | (first | refine kB1 ?_ ?_ | refine kB2 ?_ ?_) <;> intro hp | (first | refine kD1 ?_ ?_ | refine kD2 ?_ ?_ | refine kS1 ?_ ?_ | refine kS2 ?_ ?_) <;> intro hp <;> try simp only [hp] | simp -implicitDefEqProofs (disch := omega) only [go_sem, Nat.reduceAdd, Nat.reduceSub, reduceCtorEq, Nat.reduceLT, Nat.reduceLeDiff, Nat.reduceEqDiff, Nat.reduceMul, Int.reduceToNat, ↓reduceIte, List.take_of_length_le, if_pos, if_neg, List.getElem?_set_self, List.set_set, cnE, cnV, Tryz.ntmps104, Tryz.results104,  s1, s2, hw])
        exact ⟨distR g.z g.s (y + g.s) + 1, by omega, hI0 _ _ ⟨k + 1, y + g.s, q ++ [y], (), mixI rfl, by simp [m1], by omega, h6, h5, rfl⟩⟩
      · have s3 : ¬ 0 < g.s := by omega
        repeat' (first | with_reducible first | refine kI (by kernel_rfl) ?_ | refine kN (by kernel_rfl) ?_ | (first | refine kB1 ?_ ?_ | refine kB2 ?_ ?_) <;> intro hp | (first | refine kD1 ?_ ?_ | refine kD2 ?_ ?_ | refine kS1 ?_ ?_ | refine kS2 ?_ ?_) <;> intro hp <;> try simp only [hp] | simp -implicitDefEqProofs (disch := omega) only [go_sem, Nat.reduceAdd, Nat.reduceSub, reduceCtorEq, Nat.reduceLT, Nat.reduceLeDiff, Nat.reduceEqDiff, Nat.reduceMul, Int.reduceToNat, ↓reduceIte, List.take_of_length_le, if_pos, if_neg, List.getElem?_set_self, List.set_set, cnE, cnV, Tryz.ntmps104, Tryz.results104,  s1, s2, s3, hw])
        exact ⟨distR g.z g.s (y + g.s) + 1, by omega, hI0 _ _ ⟨k + 1, y + g.s, q ++ [y], (), mixI rfl, by simp [m1], by omega, h6, h5, rfl⟩⟩
    · rw [numF_off hg, List.append_nil] at m5
      have hg' := hg
      unfold goesOn at hg'
      rw [not_or] at hg'
      repeat' (first | with_reducible first | refine kI (by kernel_rfl) ?_ | refine kN (by kernel_rfl) ?_ | (first | refine kB1 ?_ ?_ | refine kB2 ?_ ?_) <;> intro hp | (first | refine kD1 ?_ ?_ | refine kD2 ?_ ?_ | refine kS1 ?_ ?_ | refine kS2 ?_ ?_) <;> intro hp <;> try simp only [hp] | simp -implicitDefEqProofs (disch := omega) only [go_sem, Nat.reduceAdd, Nat.reduceSub, reduceCtorEq, Nat.reduceLT, Nat.reduceLeDiff, Nat.reduceEqDiff, Nat.reduceMul, Int.reduceToNat, ↓reduceIte, List.take_of_length_le, if_pos, if_neg, List.getElem?_set_self, List.set_set, cnE, cnV, Tryz.ntmps104, Tryz.results104])
      all_goals rw [m5]
set_option maxHeartbeats 4000000 in
set_option maxRecDepth 100000 in
theorem spec_indicesOf {Sg : FuncId → Option (List AV → Option AV)} (hS : Sound Tryz.prog Sg) (hb : Sg 103 = some (F3 gBound)) (hn : Sg 104 = some (F1 gNumbers)) : ∀ a r, F2 gIndices a = some r → CSpec Tryz.prog 93 a r := by
  refine F2_spec ?_
  intro n s r hr
  obtain ⟨⟨⟨h1, h2⟩, hs⟩, rfl⟩ := gd_some hr
  refine CSpec.intro Tryz.func93 rfl (own _) (vc3_sound Tryz.pf hS hS _ _ _ ?_)
  have q0 := gNumbers_eq (indR_b ⟨h1, h2⟩ hs)
  obtain ⟨⟨b1, b2⟩, ⟨b3, b4⟩, b5, b6⟩ := hs
  have q1 := gBound_eq (n := n) (i := s.f) (s := s.s) ⟨⟨by omega, by omega⟩, by omega, by omega⟩
  have q2 := gBound_eq (n := n) (i := s.t) (s := s.s) ⟨⟨by omega, by omega⟩, by omega, by omega⟩
  have w1 : IntKind.i64.wrap (n - 1) = n - 1 := wrap_in (by omega)
  have hI : indF n s = numF (indR n s) := rfl
  rw [hI]
  generalize hN : numF (indR n s) = N at q0 ⊢
  unfold indR at q0
  by_cases c1 : s.s < 0
  · rw [if_pos c1, if_pos c1] at q0
    cases e1 : s.hf <;> cases e2 : s.ht <;> rw [e1, e2] at q0
    · rw [if_neg (by simp), if_neg (by simp)] at q0
      repeat' (first | with_reducible first | refine kI (by kernel_rfl) ?_ | refine kN (by kernel_rfl) ?_ | (first | refine kB1 ?_ ?_ | refine kB2 ?_ ?_) <;> intro hp | (first | refine kD1 ?_ ?_ | refine kD2 ?_ ?_ | refine kS1 ?_ ?_ | refine kS2 ?_ ?_) <;> intro hp <;> try simp only [hp] | simp -implicitDefEqProofs (disch := omega) only [go_sem, Nat.reduceAdd, Nat.reduceSub, reduceCtorEq, Nat.reduceLT, Nat.reduceLeDiff, Nat.reduceEqDiff, Nat.reduceMul, Int.reduceToNat, ↓reduceIte, List.take_of_length_le, if_pos, if_neg, List.getElem?_set_self, List.set_set, cnE, cnV, Tryz.ntmps93, Tryz.results93,  c1, w1, e1, e2, hb, q1, q2, hn, q0])
    · rw [if_neg (by simp), if_pos rfl] at q0
      repeat' (first | with_reducible first | refine kI (by kernel_rfl) ?_ | refine kN (by kernel_rfl) ?_ | (first | refine kB1 ?_ ?_ | refine kB2 ?_ ?_) <;> intro hp | (first | refine kD1 ?_ ?_ | refine kD2 ?_ ?_ | refine kS1 ?_ ?_ | refine kS2 ?_ ?_) <;> intro hp <;> try simp only [hp] | simp -implicitDefEqProofs (disch := omega) only [go_sem, Nat.reduceAdd, Nat.reduceSub, reduceCtorEq, Nat.reduceLT, Nat.reduceLeDiff, Nat.reduceEqDiff, Nat.reduceMul, Int.reduceToNat, ↓reduceIte, List.take_of_length_le, if_pos, if_neg, List.getElem?_set_self, List.set_set, cnE, cnV, Tryz.ntmps93, Tryz.results93,  c1, w1, e1, e2, hb, q1, q2, hn, q0])
    · rw [if_pos rfl, if_neg (by simp)] at q0
      repeat' (first | with_reducible first | refine kI (by kernel_rfl) ?_ | refine kN (by kernel_rfl) ?_ | (first | refine kB1 ?_ ?_ | refine kB2 ?_ ?_) <;> intro hp | (first | refine kD1 ?_ ?_ | refine kD2 ?_ ?_ | refine kS1 ?_ ?_ | refine kS2 ?_ ?_) <;> intro hp <;> try simp only [hp] | simp -implicitDefEqProofs (disch := omega) only [go_sem, Nat.reduceAdd, Nat.reduceSub, reduceCtorEq, Nat.reduceLT, Nat.reduceLeDiff, Nat.reduceEqDiff, Nat.reduceMul, Int.reduceToNat, ↓reduceIte, List.take_of_length_le, if_pos, if_neg, List.getElem?_set_self, List.set_set, cnE, cnV, Tryz.ntmps93, Tryz.results93,  c1, w1, e1, e2, hb, q1, q2, hn, q0])
    · rw [if_pos rfl, if_pos rfl] at q0
      repeat' (first | with_reducible first | refine kI (by kernel_rfl) ?_ | refine kN (by kernel_rfl) ?_ | (first | refine kB1 ?_ ?_ | refine kB2 ?_ ?_) <;> intro hp | (first | refine kD1 ?_ ?_ | refine kD2 ?_ ?_ | refine kS1 ?_ ?_ | refine kS2 ?_ ?_) <;> intro hp <;> try simp only [hp] | simp -implicitDefEqProofs (disch := omega) only [go_sem, Nat.reduceAdd, Nat.reduceSub, reduceCtorEq, Nat.reduceLT, Nat.reduceLeDiff, Nat.reduceEqDiff, Nat.reduceMul, Int.reduceToNat, ↓reduceIte, List.take_of_length_le, if_pos, if_neg, List.getElem?_set_self, List.set_set, cnE, cnV, Tryz.ntmps93, Tryz.results93,  c1, w1, e1, e2, hb, q1, q2, hn, q0])
  · rw [if_neg c1, if_neg c1] at q0
    cases e1 : s.hf <;> cases e2 : s.ht <;> rw [e1, e2] at q0
    · rw [if_neg (by simp), if_neg (by simp)] at q0
      repeat' (first | with_reducible first | refine kI (by kernel_rfl) ?_ | refine kN (by kernel_rfl) ?_ | (first | refine kB1 ?_ ?_ | refine kB2 ?_ ?_) <;> intro hp | (first | refine kD1 ?_ ?_ | refine kD2 ?_ ?_ | refine kS1 ?_ ?_ | refine kS2 ?_ ?_) <;> intro hp <;> try simp only [hp] | simp -implicitDefEqProofs (disch := omega) only [go_sem, Nat.reduceAdd, Nat.reduceSub, reduceCtorEq, Nat.reduceLT, Nat.reduceLeDiff, Nat.reduceEqDiff, Nat.reduceMul, Int.reduceToNat, ↓reduceIte, List.take_of_length_le, if_pos, if_neg, List.getElem?_set_self, List.set_set, cnE, cnV, Tryz.ntmps93, Tryz.results93,  c1, e1, e2, hb, q1, q2, hn, q0])
    · rw [if_neg (by simp), if_pos rfl] at q0
      repeat' (first | with_reducible first | refine kI (by kernel_rfl) ?_ | refine kN (by kernel_rfl) ?_ | (first | refine kB1 ?_ ?_ | refine kB2 ?_ ?_) <;> intro hp | (first | refine kD1 ?_ ?_ | refine kD2 ?_ ?_ | refine kS1 ?_ ?_ | refine kS2 ?_ ?_) <;> intro hp <;> try simp only [hp] | simp -implicitDefEqProofs (disch := omega) only [go_sem, Nat.reduceAdd, Nat.reduceSub, reduceCtorEq, Nat.reduceLT, Nat.reduceLeDiff, Nat.reduceEqDiff, Nat.reduceMul, Int.reduceToNat, ↓reduceIte, List.take_of_length_le, if_pos, if_neg, List.getElem?_set_self, List.set_set, cnE, cnV, Tryz.ntmps93, Tryz.results93,  c1, e1, e2, hb, q1, q2, hn, q0])
    · rw [if_pos rfl, if_neg (by simp)] at q0
      repeat' (first | with_reducible first | refine kI (by kernel_rfl) ?_ | refine kN (by kernel_rfl) ?_ | (first | refine kB1 ?_ ?_ | refine kB2 ?_ ?_) <;> intro hp | (first | refine kD1 ?_ ?_ | refine kD2 ?_ ?_ | refine kS1 ?_ ?_ | refine kS2 ?_ ?_) <;> intro hp <;> try simp only [hp] | simp -implicitDefEqProofs (disch := omega) only [go_sem, Nat.reduceAdd, Nat.reduceSub, reduceCtorEq, Nat.reduceLT, Nat.reduceLeDiff, Nat.reduceEqDiff, Nat.reduceMul, Int.reduceToNat, ↓reduceIte, List.take_of_length_le, if_pos, if_neg, List.getElem?_set_self, List.set_set, cnE, cnV, Tryz.ntmps93, Tryz.results93,  c1, e1, e2, hb, q1, q2, hn, q0])
    · rw [if_pos rfl, if_pos rfl] at q0
      repeat' (first | with_reducible first | refine kI (by kernel_rfl) ?_ | refine kN (by kernel_rfl) ?_ | (first | refine kB1 ?_ ?_ | refine kB2 ?_ ?_) <;> intro hp | (first | refine kD1 ?_ ?_ | refine kD2 ?_ ?_ | refine kS1 ?_ ?_ | refine kS2 ?_ ?_) <;> intro hp <;> try simp only [hp] | simp -implicitDefEqProofs (disch := omega) only [go_sem, Nat.reduceAdd, Nat.reduceSub, reduceCtorEq, Nat.reduceLT, Nat.reduceLeDiff, Nat.reduceEqDiff, Nat.reduceMul, Int.reduceToNat, ↓reduceIte, List.take_of_length_le, if_pos, if_neg, List.getElem?_set_self, List.set_set, cnE, cnV, Tryz.ntmps93, Tryz.results93,  c1, e1, e2, hb, q1, q2, hn, q0])
def gIndT (n : Int) (s : Sl) : Option (List Int) := gd True (if inR n 0 60 = true ∧ slOK s = true then indF n s else [])
theorem gIndT_eq (n : Int) (s : Sl) : gIndT n s = some (if inR n 0 60 = true ∧ slOK s = true then indF n s else []) := rfl
def gHasDim (v : Vi) (d : Int) : Option Bool := gd (viB v) (viewOK v && inR d 0 (v.sh.length - 1))
theorem gHasDim_eq {v : Vi} (h : viB v) (d : Int) : gHasDim v d = some (viewOK v && inR d 0 (v.sh.length - 1)) := gd_eq h
set_option maxHeartbeats 4000000 in
set_option maxRecDepth 100000 in
theorem spec_hasDim {Sg : FuncId → Option (List AV → Option AV)} (hS : Sound Tryz.prog Sg) (hv : Sg 45 = some (F1 gValidV)) : ∀ a r, F2 gHasDim a = some r → CSpec Tryz.prog 65 a r := by
  refine F2_spec ?_
  intro v d r hr
  obtain ⟨h, rfl⟩ := gd_some hr
  refine CSpec.intro Tryz.func65 rfl (own _) (vc3_sound Tryz.pf hS hS _ _ _ ?_)
  have q1 := gValidV_eq h
  unfold inR
  cases e : viewOK v with
  | false =>
    rw [e] at q1
    repeat' (first | with_reducible first | refine kI (by kernel_rfl) ?_ | refine kN (by kernel_rfl) ?_ | (first | refine kB1 ?_ ?_ | refine kB2 ?_ ?_) <;> intro hp | (first | refine kD1 ?_ ?_ | refine kD2 ?_ ?_ | refine kS1 ?_ ?_ | refine kS2 ?_ ?_) <;> intro hp <;> try simp only [hp] | simp -implicitDefEqProofs (disch := omega) only [go_sem, Nat.reduceAdd, Nat.reduceSub, reduceCtorEq, Nat.reduceLT, Nat.reduceLeDiff, Nat.reduceEqDiff, Nat.reduceMul, Int.reduceToNat, ↓reduceIte, List.take_of_length_le, if_pos, if_neg, List.getElem?_set_self, List.set_set, cnE, cnV, Tryz.ntmps65, Tryz.results65,  hv, q1])
    try rfl
  | true =>
    rw [e] at q1
    have e2 : decide (d ≤ (v.sh.length : Int) - 1) = decide (d < (v.sh.length : Int)) := by rw [decide_eq_decide]; omega
    by_cases c : 0 ≤ d
    · repeat' (first | with_reducible first | refine kI (by kernel_rfl) ?_ | refine kN (by kernel_rfl) ?_ | (first | refine kB1 ?_ ?_ | refine kB2 ?_ ?_) <;> intro hp | (first | refine kD1 ?_ ?_ | refine kD2 ?_ ?_ | refine kS1 ?_ ?_ | refine kS2 ?_ ?_) <;> intro hp <;> try simp only [hp] | simp -implicitDefEqProofs (disch := omega) only [go_sem, Nat.reduceAdd, Nat.reduceSub, reduceCtorEq, Nat.reduceLT, Nat.reduceLeDiff, Nat.reduceEqDiff, Nat.reduceMul, Int.reduceToNat, ↓reduceIte, List.take_of_length_le, if_pos, if_neg, List.getElem?_set_self, List.set_set, cnE, cnV, Tryz.ntmps65, Tryz.results65,  hv, q1, c, e2])
      try rfl
    · repeat' (first | with_reducible first | refine kI (by kernel_rfl) ?_ | refine kN (by kernel_rfl) ?_ | (first | refine kB1 ?_ ?_ | refine kB2 ?_ ?_) <;> intro hp | (first | refine kD1 ?_ ?_ | refine kD2 ?_ ?_ | refine kS1 ?_ ?_ | refine kS2 ?_ ?_) <;> intro hp <;> try simp only [hp] | simp -implicitDefEqProofs (disch := omega) only [go_sem, Nat.reduceAdd, Nat.reduceSub, reduceCtorEq, Nat.reduceLT, Nat.reduceLeDiff, Nat.reduceEqDiff, Nat.reduceMul, Int.reduceToNat, ↓reduceIte, List.take_of_length_le, if_pos, if_neg, List.getElem?_set_self, List.set_set, cnE, cnV, Tryz.ntmps65, Tryz.results65,  hv, q1, c])
      try rfl
set_option maxHeartbeats 2000000 in
set_option maxRecDepth 100000 in
theorem isp_cleared {Sg : FuncId → Option (List AV → Option AV)} (hS : Sound Tryz.prog Sg) (hct : Sg 69 = some (F1 gCountOf)) (v : Vi) (b c : Nat) (L : List Blk) (hb : L[b]? = some (stB v.sh)) (hc : L[c]? = some (stB v.st)) (hv : v.sh.length < 4294967296) {m k : Nat} (hm : v.sh.length = m) (hk : v.st.length = k) : ISpec Tryz.prog 95 [.agg [i64 v.b, .sl b m 0 m m, .sl c k 0 k k]] L (fun r L' => ∃ X d, c ≤ d ∧ r = viA b d (tidyF v) ∧ L' = L ++ X ∧ (L ++ X)[b]? = some (stB (tidyF v).sh) ∧ (L ++ X)[d]? = some (stB (tidyF v).st)) := by
  refine ISpec.intro Tryz.func95 rfl (vc_sound Tryz.pf hS _ _ _ ?_)
  subst hm hk
  have hbl := (List.getElem?_eq_some_iff.1 hb).1
  have hcl := (List.getElem?_eq_some_iff.1 hc).1
  have hbx : ∀ X, (L ++ X)[b]? = some (stB v.sh) := fun X => by rw [List.getElem?_append_left hbl]; exact hb
  have hcx : ∀ X, (L ++ X)[c]? = some (stB v.st) := fun X => by rw [List.getElem?_append_left hcl]; exact hc
  have hbt : ∀ X m, b < m → ((L ++ X).take m)[b]? = some (stB v.sh) := fun X m hm => by rw [List.getElem?_take_of_lt hm, hbx]
  have q2 := gCountOf_eq (l := v.sh) (by omega)
  by_cases e1 : prodW v.sh = 0
  · rw [e1] at q2
    have hn : tidyF v = ⟨0, v.sh, List.replicate v.sh.length 0⟩ := by unfold tidyF; rw [if_pos e1]
    rw [hn]
    repeat' (first | with_reducible first | refine kI (by kernel_rfl) ?_ | refine kN (by kernel_rfl) ?_ | (first | refine kB1 ?_ ?_ | refine kB2 ?_ ?_) <;> intro hp | (first | refine kD1 ?_ ?_ | refine kD2 ?_ ?_ | refine kS1 ?_ ?_ | refine kS2 ?_ ?_) <;> intro hp <;> try simp only [hp] | simp -implicitDefEqProofs (disch := omega) only [go_sem, Nat.reduceAdd, Nat.reduceSub, reduceCtorEq, Nat.reduceLT, Nat.reduceLeDiff, Nat.reduceEqDiff, Nat.reduceMul, Int.reduceToNat, ↓reduceIte, List.take_of_length_le, if_pos, if_neg, List.getElem?_set_self, List.set_set, cnE, cnV, Tryz.ntmps95, Tryz.results95,  hbt, hbx, hct, q2])
    exact ⟨_, L.length + 2, by omega, by simp only [List.length_replicate, viA], rfl, by rw [List.getElem?_append_right (by omega), Nat.add_sub_cancel_left]; rfl⟩
  · have e1' : (prodW v.sh == 0) = false := beq_f e1
    have hn : tidyF v = v := by unfold tidyF; rw [if_neg e1]
    rw [hn]
    repeat' (first | with_reducible first | refine kI (by kernel_rfl) ?_ | refine kN (by kernel_rfl) ?_ | (first | refine kB1 ?_ ?_ | refine kB2 ?_ ?_) <;> intro hp | (first | refine kD1 ?_ ?_ | refine kD2 ?_ ?_ | refine kS1 ?_ ?_ | refine kS2 ?_ ?_) <;> intro hp <;> try simp only [hp] | simp -implicitDefEqProofs (disch := omega) only [go_sem, Nat.reduceAdd, Nat.reduceSub, reduceCtorEq, Nat.reduceLT, Nat.reduceLeDiff, Nat.reduceEqDiff, Nat.reduceMul, Int.reduceToNat, ↓reduceIte, List.take_of_length_le, if_pos, if_neg, List.getElem?_set_self, List.set_set, cnE, cnV, Tryz.ntmps95, Tryz.results95,  hbt, hct, q2, e1'])
    exact ⟨_, c, Nat.le_refl _, rfl, rfl, hbx _, hcx _⟩
set_option maxHeartbeats 4000000 in
set_option maxRecDepth 100000 in
theorem o_copyViewI {Sg : FuncId → Option (List AV → Option AV)} (hS : Sound Tryz.prog Sg) (v : Vi) (h : viM v) : OSpec Tryz.prog 94 [.agg [i64 v.b, ints 0 v.sh, ints 0 v.st]] (fun n => viA n (n + 1) v) (fun _ => viN v) := by
  refine OSpec.intro Tryz.func94 rfl (vc3_sound Tryz.pf hS hS _ _ _ ?_)
  have hs := h.1
  have ht := h.2
  repeat' (first | with_reducible first | refine kI (by kernel_rfl) ?_ | (first | refine kB1 ?_ ?_ | refine kB2 ?_ ?_) <;> intro hp | (first | refine kD1 ?_ ?_ | refine kD2 ?_ ?_ | refine kS1 ?_ ?_ | refine kS2 ?_ ?_) <;> intro hp <;> try simp only [hp] | simp -implicitDefEqProofs (disch := omega) only [go_sem, Nat.reduceAdd, Nat.reduceSub, reduceCtorEq, Nat.reduceLT, Nat.reduceLeDiff, Nat.reduceEqDiff, Nat.reduceMul, Int.reduceToNat, ↓reduceIte, List.take_of_length_le, if_pos, if_neg, List.getElem?_set_self, List.set_set, cnE, cnV, Tryz.ntmps94, Tryz.results94])
  refine DrawQ.pendS 6 23 3 1 [([0, 1, 3, 4, 7, 8], 2, [0, 1, 3, 4, 7, 8]), ([], 5, [0, 1, 3, 4, 7, 8]), ([6], 9, [0, 1, 3, 4, 7, 8]), ([10], 11, [0, 1, 3, 4, 7, 8])] [] [0, 1, 3, 4, 7, 8] rfl rfl rfl rfl (by decide) (by kernel_rfl) ?_
  repeat' (first | with_reducible first | refine kI (by kernel_rfl) ?_ | (first | refine kB1 ?_ ?_ | refine kB2 ?_ ?_) <;> intro hp | (first | refine kD1 ?_ ?_ | refine kD2 ?_ ?_ | refine kS1 ?_ ?_ | refine kS2 ?_ ?_) <;> intro hp <;> try simp only [hp] | simp -implicitDefEqProofs (disch := omega) only [go_sem, Nat.reduceAdd, Nat.reduceSub, reduceCtorEq, Nat.reduceLT, Nat.reduceLeDiff, Nat.reduceEqDiff, Nat.reduceMul, Int.reduceToNat, ↓reduceIte, List.take_of_length_le, if_pos, if_neg, List.getElem?_set_self, List.set_set, cnE, cnV, Tryz.ntmps94, Tryz.results94])
  exact own_vi (b := 2) (c := 3) rfl rfl (by decide)
end Go.Proofs.YtgpflkmelindfaaGreat
namespace Go.Proofs.YtgpflkmelindfaaGreat
open Go Go.Ev Go.RowKit Go.Ev.Enc Go.Pl

theorem can_copyViewI : CanCall Tryz.prog 94 := ⟨_, Tryz.func94, rfl, rfl⟩
theorem can_cleared : CanCall Tryz.prog 95 := ⟨_, Tryz.func95, rfl, rfl⟩
theorem exp_viA {L : List Blk} {b c : Nat} {v : Vi} (hb : L[b]? = some (stB v.sh)) (hc : L[c]? = some (stB v.st)) : exp 1 L (viA b c v) = .agg [i64 v.b, ints 1 v.sh, ints 1 v.st] := by
  simp [exp, expE, expC, stepC, hb, hc, ints, Function.comp_def, List.take_of_length_le]
def gSliI (v : Vi) (d : Int) (s : Sl) : Option Vi := gd ((viewOK v = true ∧ slOK s = true) ∧ 0 ≤ d ∧ d < v.sh.length) (slcF v d.toNat (indF (v.sh.getD d.toNat 0) s))
theorem gSliI_eq {v : Vi} {d : Nat} {s : Sl} (h : viewOK v = true ∧ slOK s = true) (hd : d < v.sh.length) : gSliI v (d : Int) s = some (slcF v d (indF (v.sh.getD d 0) s)) := gd_eq ⟨h, by omega, by omega⟩
set_option maxHeartbeats 4000000 in
set_option maxRecDepth 100000 in
theorem spec_sliceDim {Sg : FuncId → Option (List AV → Option AV)} (hS : Sound Tryz.prog Sg) (hi : Sg 93 = some (F2 gIndices)) (hct : Sg 69 = some (F1 gCountOf)) (n1 : Sg 94 = none) (n2 : Sg 95 = none) : ∀ a r, F3 gSliI a = some r → CSpec Tryz.prog 66 a r := by
  refine F3_spec ?_
  intro v d s r hr0
  obtain ⟨⟨⟨h1, h2⟩, h3, h4⟩, rfl⟩ := gd_some hr0
  obtain ⟨d, rfl⟩ : ∃ m : Nat, d = m := ⟨d.toNat, by omega⟩
  rw [Int.toNat_natCast]
  refine CSpec.intro Tryz.func66 rfl (own _) (vc3_sound Tryz.pf hS hS _ _ _ ?_)
  have hd : d < v.sh.length := by omega
  obtain ⟨k1, k2, k3, k4, k5⟩ := viewOK_iff.1 h1
  have s4 := (shape_facts k1).1
  have hn := dim_at h1 hd
  have hds : d < v.st.length := by omega
  have q1 := gIndices_eq (n := v.sh.getD d 0) (s := s) ⟨hn, slOK_b h2⟩
  have hin := ind_rng (n := v.sh.getD d 0) (s := s) hn.1
  have hst := st_bd h1 d
  have hlen := ind_len (n := v.sh.getD d 0) hn.1 (slOK_s h2)
  generalize indF (v.sh.getD d 0) s = I at *
  have hcl : (slcG v d I).sh.length = v.sh.length := List.length_set
  have hcs : (slcG v d I).st.length = v.st.length := List.length_set
  have hg := fun x => getD_setI (l := v.st) (d := d) (x := x) hds
  have hI : ∀ k, k < I.length → 0 ≤ I.getD k 0 ∧ I.getD k 0 ≤ 100 := fun k hk => by have := hin _ (gmem hk); omega
  have hmul : ∀ x : Int, 0 ≤ x → x ≤ 100 → IntKind.i64.wrap (v.st.getD d 0 * x) = v.st.getD d 0 * x ∧ -6000 ≤ v.st.getD d 0 * x ∧ v.st.getD d 0 * x ≤ 6000 := fun x h1 h2 => by
    have b1 : x * v.st.getD d 0 ≤ x * 60 := Int.mul_le_mul_of_nonneg_left hst.2 h1
    have b2 : x * (-60) ≤ x * v.st.getD d 0 := Int.mul_le_mul_of_nonneg_left hst.1 h1
    rw [Int.mul_comm x (v.st.getD d 0)] at b1 b2
    exact ⟨wrap_in (by omega), by omega, by omega⟩
  repeat' (first | with_reducible first | refine kI (by kernel_rfl) ?_ | refine kN (by kernel_rfl) ?_ | (first | refine kB1 ?_ ?_ | refine kB2 ?_ ?_) <;> intro hp | (first | refine kD1 ?_ ?_ | refine kD2 ?_ ?_ | refine kS1 ?_ ?_ | refine kS2 ?_ ?_) <;> intro hp <;> try simp only [hp] | simp -implicitDefEqProofs (disch := omega) only [go_sem, Nat.reduceAdd, Nat.reduceSub, reduceCtorEq, Nat.reduceLT, Nat.reduceLeDiff, Nat.reduceEqDiff, Nat.reduceMul, Int.reduceToNat, ↓reduceIte, List.take_of_length_le, if_pos, if_neg, List.getElem?_set_self, List.set_set, cnE, cnV, Tryz.ntmps66, Tryz.results66,  hi, q1, n1, opQ_none])
  refine InlK_intro rfl rfl can_copyViewI ((o_copyViewI hS v ⟨by omega, by omega⟩).call (by simp only [go_sem, ints]) ?_)
  by_cases c0 : 0 < I.length
  · have c0' : (0 : Int) < (I.length : Int) := by omega
    have hI0 := hI 0 c0
    obtain ⟨w1, w2, w3⟩ := hmul _ hI0.1 hI0.2
    have w4 : IntKind.i64.wrap (v.b + v.st.getD d 0 * I.getD 0 0) = v.b + v.st.getD d 0 * I.getD 0 0 := wrap_in (by omega)
    by_cases c1 : 1 < I.length
    · have c1' : (1 : Int) < (I.length : Int) := by omega
      have hI1 := hI 1 c1
      obtain ⟨x1, x2, x3⟩ := hmul _ hI1.1 hI1.2
      have w5 : IntKind.i64.wrap (I.getD 1 0 - I.getD 0 0) = I.getD 1 0 - I.getD 0 0 := wrap_in (by omega)
      have w6 : IntKind.i64.wrap (v.st.getD d 0 * (I.getD 1 0 - I.getD 0 0)) = v.st.getD d 0 * (I.getD 1 0 - I.getD 0 0) := wrap_in (by rw [Int.mul_sub]; omega)
      have eg : slcG v d I = ⟨v.b + v.st.getD d 0 * I.getD 0 0, v.sh.set d I.length, v.st.set d (v.st.getD d 0 * (I.getD 1 0 - I.getD 0 0))⟩ := by unfold slcG; rw [if_pos c0, if_pos c1]
      have eF : slcF v d I = tidyF ⟨v.b + v.st.getD d 0 * I.getD 0 0, v.sh.set d I.length, v.st.set d (v.st.getD d 0 * (I.getD 1 0 - I.getD 0 0))⟩ := by unfold slcF; rw [eg]
      rw [eF]
      repeat' (first | with_reducible first | refine kI (by kernel_rfl) ?_ | (first | refine kB1 ?_ ?_ | refine kB2 ?_ ?_) <;> intro hp | (first | refine kD1 ?_ ?_ | refine kD2 ?_ ?_ | refine kS1 ?_ ?_ | refine kS2 ?_ ?_) <;> intro hp <;> try simp only [hp] | simp -implicitDefEqProofs (disch := omega) only [go_sem, Nat.reduceAdd, Nat.reduceSub, reduceCtorEq, Nat.reduceLT, Nat.reduceLeDiff, Nat.reduceEqDiff, Nat.reduceMul, Int.reduceToNat, ↓reduceIte, List.take_of_length_le, if_pos, if_neg, List.getElem?_set_self, List.set_set, cnE, cnV, Tryz.ntmps66, Tryz.results66,  map_setI, hg, c0'])
      refine DrawQ.any [([0, 1, 2, 3, 4, 5, 6, 7, 8, 9, 10, 11, 12], 13)] [] [] (by kernel_rfl) ?_
      repeat' (first | with_reducible first | refine kI (by kernel_rfl) ?_ | (first | refine kB1 ?_ ?_ | refine kB2 ?_ ?_) <;> intro hp | (first | refine kD1 ?_ ?_ | refine kD2 ?_ ?_ | refine kS1 ?_ ?_ | refine kS2 ?_ ?_) <;> intro hp <;> try simp only [hp] | simp -implicitDefEqProofs (disch := omega) only [go_sem, Nat.reduceAdd, Nat.reduceSub, reduceCtorEq, Nat.reduceLT, Nat.reduceLeDiff, Nat.reduceEqDiff, Nat.reduceMul, Int.reduceToNat, ↓reduceIte, List.take_of_length_le, if_pos, if_neg, List.getElem?_set_self, List.set_set, cnE, cnV, Tryz.ntmps66, Tryz.results66,  getD_ints c0, w1, w4, c1', getD_ints c1])
      refine DrawQ.any [([0, 1, 2, 3, 4, 5, 6, 7, 8, 9, 10, 11, 12, 13, 14, 15, 16], 17)] [] [] (by kernel_rfl) ?_
      repeat' (first | with_reducible first | refine kI (by kernel_rfl) ?_ | (first | refine kB1 ?_ ?_ | refine kB2 ?_ ?_) <;> intro hp | (first | refine kD1 ?_ ?_ | refine kD2 ?_ ?_ | refine kS1 ?_ ?_ | refine kS2 ?_ ?_) <;> intro hp <;> try simp only [hp] | simp -implicitDefEqProofs (disch := omega) only [go_sem, Nat.reduceAdd, Nat.reduceSub, reduceCtorEq, Nat.reduceLT, Nat.reduceLeDiff, Nat.reduceEqDiff, Nat.reduceMul, Int.reduceToNat, ↓reduceIte, List.take_of_length_le, if_pos, if_neg, List.getElem?_set_self, List.set_set, cnE, cnV, Tryz.ntmps66, Tryz.results66,  getD_ints c0, getD_ints c1, w5, w6, map_setI, hg, List.set_set, n2, opQ_none])
      refine InlK_intro rfl rfl can_cleared ((isp_cleared hS hct ⟨v.b + v.st.getD d 0 * I.getD 0 0, v.sh.set d I.length, v.st.set d (v.st.getD d 0 * (I.getD 1 0 - I.getD 0 0))⟩ 3 4 _ rfl rfl (by dsimp only; rw [List.length_set]; omega) List.length_set List.length_set).mono ?_)
      rintro r L1 ⟨X, c, m1, rfl, hL1, m2, m3⟩
      rw [← hL1] at m2 m3
      have h2' : L1[2]? = some ⟨3, [.agg [.int .i64 0, .nilS, .nilS]]⟩ := by rw [hL1]; rfl
      have hlt := (List.getElem?_eq_some_iff.1 h2').1
      clear hL1
      generalize tidyF _ = T at *
      have e2 : ∀ k, (L1.set 2 k)[2]? = some k := fun k => by rw [List.getElem?_set_self hlt]
      have e3 : ∀ k, (L1.set 2 k)[3]? = some (stB T.sh) := fun k => by rw [List.getElem?_set_ne (by omega), m2]
      have ec : ∀ k, (L1.set 2 k)[c]? = some (stB T.st) := fun k => by rw [List.getElem?_set_ne (by omega), m3]
      repeat' (first | with_reducible first | refine kI (by kernel_rfl) ?_ | (first | refine kB1 ?_ ?_ | refine kB2 ?_ ?_) <;> intro hp | (first | refine kD1 ?_ ?_ | refine kD2 ?_ ?_ | refine kS1 ?_ ?_ | refine kS2 ?_ ?_) <;> intro hp <;> try simp only [hp] | simp -implicitDefEqProofs (disch := omega) only [go_sem, Nat.reduceAdd, Nat.reduceSub, reduceCtorEq, Nat.reduceLT, Nat.reduceLeDiff, Nat.reduceEqDiff, Nat.reduceMul, Int.reduceToNat, ↓reduceIte, List.take_of_length_le, if_pos, if_neg, List.getElem?_set_self, List.set_set, cnE, cnV, Tryz.ntmps66, Tryz.results66,  h2', e2, e3, ec])
    · have c1' : ¬ (1 : Int) < (I.length : Int) := by omega
      have eg : slcG v d I = ⟨v.b + v.st.getD d 0 * I.getD 0 0, v.sh.set d I.length, v.st.set d 0⟩ := by unfold slcG; rw [if_pos c0, if_neg c1]
      have eF : slcF v d I = tidyF ⟨v.b + v.st.getD d 0 * I.getD 0 0, v.sh.set d I.length, v.st.set d 0⟩ := by unfold slcF; rw [eg]
      rw [eF]
      repeat' (first | with_reducible first | refine kI (by kernel_rfl) ?_ | (first | refine kB1 ?_ ?_ | refine kB2 ?_ ?_) <;> intro hp | (first | refine kD1 ?_ ?_ | refine kD2 ?_ ?_ | refine kS1 ?_ ?_ | refine kS2 ?_ ?_) <;> intro hp <;> try simp only [hp] | simp -implicitDefEqProofs (disch := omega) only [go_sem, Nat.reduceAdd, Nat.reduceSub, reduceCtorEq, Nat.reduceLT, Nat.reduceLeDiff, Nat.reduceEqDiff, Nat.reduceMul, Int.reduceToNat, ↓reduceIte, List.take_of_length_le, if_pos, if_neg, List.getElem?_set_self, List.set_set, cnE, cnV, Tryz.ntmps66, Tryz.results66,  map_setI, hg, c0'])
      refine DrawQ.any [([0, 1, 2, 3, 4, 5, 6, 7, 8, 9, 10, 11, 12], 13)] [] [] (by kernel_rfl) ?_
      repeat' (first | with_reducible first | refine kI (by kernel_rfl) ?_ | (first | refine kB1 ?_ ?_ | refine kB2 ?_ ?_) <;> intro hp | (first | refine kD1 ?_ ?_ | refine kD2 ?_ ?_ | refine kS1 ?_ ?_ | refine kS2 ?_ ?_) <;> intro hp <;> try simp only [hp] | simp -implicitDefEqProofs (disch := omega) only [go_sem, Nat.reduceAdd, Nat.reduceSub, reduceCtorEq, Nat.reduceLT, Nat.reduceLeDiff, Nat.reduceEqDiff, Nat.reduceMul, Int.reduceToNat, ↓reduceIte, List.take_of_length_le, if_pos, if_neg, List.getElem?_set_self, List.set_set, cnE, cnV, Tryz.ntmps66, Tryz.results66,  getD_ints c0, w1, w4, c1', map_setI, n2, opQ_none])
      refine InlK_intro rfl rfl can_cleared ((isp_cleared hS hct ⟨v.b + v.st.getD d 0 * I.getD 0 0, v.sh.set d I.length, v.st.set d (0)⟩ 3 4 _ rfl rfl (by dsimp only; rw [List.length_set]; omega) List.length_set List.length_set).mono ?_)
      rintro r L1 ⟨X, c, m1, rfl, hL1, m2, m3⟩
      rw [← hL1] at m2 m3
      have h2' : L1[2]? = some ⟨3, [.agg [.int .i64 0, .nilS, .nilS]]⟩ := by rw [hL1]; rfl
      have hlt := (List.getElem?_eq_some_iff.1 h2').1
      clear hL1
      generalize tidyF _ = T at *
      have e2 : ∀ k, (L1.set 2 k)[2]? = some k := fun k => by rw [List.getElem?_set_self hlt]
      have e3 : ∀ k, (L1.set 2 k)[3]? = some (stB T.sh) := fun k => by rw [List.getElem?_set_ne (by omega), m2]
      have ec : ∀ k, (L1.set 2 k)[c]? = some (stB T.st) := fun k => by rw [List.getElem?_set_ne (by omega), m3]
      repeat' (first | with_reducible first | refine kI (by kernel_rfl) ?_ | (first | refine kB1 ?_ ?_ | refine kB2 ?_ ?_) <;> intro hp | (first | refine kD1 ?_ ?_ | refine kD2 ?_ ?_ | refine kS1 ?_ ?_ | refine kS2 ?_ ?_) <;> intro hp <;> try simp only [hp] | simp -implicitDefEqProofs (disch := omega) only [go_sem, Nat.reduceAdd, Nat.reduceSub, reduceCtorEq, Nat.reduceLT, Nat.reduceLeDiff, Nat.reduceEqDiff, Nat.reduceMul, Int.reduceToNat, ↓reduceIte, List.take_of_length_le, if_pos, if_neg, List.getElem?_set_self, List.set_set, cnE, cnV, Tryz.ntmps66, Tryz.results66,  h2', e2, e3, ec])
  · have c0' : ¬ (0 : Int) < (I.length : Int) := by omega
    have c1' : ¬ (1 : Int) < (I.length : Int) := by omega
    have eg : slcG v d I = ⟨v.b, v.sh.set d I.length, v.st.set d 0⟩ := by unfold slcG; rw [if_neg c0, if_neg (by omega)]
    have eF : slcF v d I = tidyF ⟨v.b, v.sh.set d I.length, v.st.set d 0⟩ := by unfold slcF; rw [eg]
    rw [eF]
    repeat' (first | with_reducible first | refine kI (by kernel_rfl) ?_ | (first | refine kB1 ?_ ?_ | refine kB2 ?_ ?_) <;> intro hp | (first | refine kD1 ?_ ?_ | refine kD2 ?_ ?_ | refine kS1 ?_ ?_ | refine kS2 ?_ ?_) <;> intro hp <;> try simp only [hp] | simp -implicitDefEqProofs (disch := omega) only [go_sem, Nat.reduceAdd, Nat.reduceSub, reduceCtorEq, Nat.reduceLT, Nat.reduceLeDiff, Nat.reduceEqDiff, Nat.reduceMul, Int.reduceToNat, ↓reduceIte, List.take_of_length_le, if_pos, if_neg, List.getElem?_set_self, List.set_set, cnE, cnV, Tryz.ntmps66, Tryz.results66,  map_setI, hg, c0', c1', n2, opQ_none])
    refine InlK_intro rfl rfl can_cleared ((isp_cleared hS hct ⟨v.b, v.sh.set d I.length, v.st.set d (0)⟩ 3 4 _ rfl rfl (by dsimp only; rw [List.length_set]; omega) List.length_set List.length_set).mono ?_)
    rintro r L1 ⟨X, c, m1, rfl, hL1, m2, m3⟩
    rw [← hL1] at m2 m3
    have h2' : L1[2]? = some ⟨3, [.agg [.int .i64 0, .nilS, .nilS]]⟩ := by rw [hL1]; rfl
    have hlt := (List.getElem?_eq_some_iff.1 h2').1
    clear hL1
    generalize tidyF _ = T at *
    have e2 : ∀ k, (L1.set 2 k)[2]? = some k := fun k => by rw [List.getElem?_set_self hlt]
    have e3 : ∀ k, (L1.set 2 k)[3]? = some (stB T.sh) := fun k => by rw [List.getElem?_set_ne (by omega), m2]
    have ec : ∀ k, (L1.set 2 k)[c]? = some (stB T.st) := fun k => by rw [List.getElem?_set_ne (by omega), m3]
    repeat' (first | with_reducible first | refine kI (by kernel_rfl) ?_ | (first | refine kB1 ?_ ?_ | refine kB2 ?_ ?_) <;> intro hp | (first | refine kD1 ?_ ?_ | refine kD2 ?_ ?_ | refine kS1 ?_ ?_ | refine kS2 ?_ ?_) <;> intro hp <;> try simp only [hp] | simp -implicitDefEqProofs (disch := omega) only [go_sem, Nat.reduceAdd, Nat.reduceSub, reduceCtorEq, Nat.reduceLT, Nat.reduceLeDiff, Nat.reduceEqDiff, Nat.reduceMul, Int.reduceToNat, ↓reduceIte, List.take_of_length_le, if_pos, if_neg, List.getElem?_set_self, List.set_set, cnE, cnV, Tryz.ntmps66, Tryz.results66,  h2', e2, e3, ec])
end Go.Proofs.YtgpflkmelindfaaGreat
namespace Go.Proofs.YtgpflkmelindfaaGreat
open Go Go.Ev Go.RowKit Go.Ev.Enc Go.Pl

def sliR (v : Vi) (d : Int) (s : Sl) : Vi × Bool := if viewOK v = true ∧ inR d 0 (v.sh.length - 1) = true ∧ slOK s = true then (slcF v d.toNat (indF (v.sh.getD d.toNat 0) s), true) else (⟨0, [], []⟩, false)
def gSliT (v : Vi) (d : Int) (s : Sl) : Option (Vi × Bool) := gd (viB v) (sliR v d s)
theorem gSliT_eq {v : Vi} (h : viB v) (d : Int) (s : Sl) : gSliT v d s = some (sliR v d s) := gd_eq h
def gFlipT (v : Vi) (d : Int) : Option (Vi × Bool) := gd (viB v) (sliR v d flipS)
theorem gFlipT_eq {v : Vi} (h : viB v) (d : Int) : gFlipT v d = some (sliR v d flipS) := gd_eq h
theorem flipS_ok : slOK flipS = true := by decide
theorem dim_nat {v : Vi} {d : Int} (h : inR d 0 (v.sh.length - 1) = true) : ∃ m : Nat, d = m ∧ m < v.sh.length := by
  unfold inR at h
  simp only [Bool.and_eq_true, decide_eq_true_eq] at h
  exact ⟨d.toNat, by omega, by omega⟩
set_option maxHeartbeats 4000000 in
set_option maxRecDepth 100000 in
theorem spec_FlipDimI {Sg : FuncId → Option (List AV → Option AV)} (hS : Sound Tryz.prog Sg) (hd : Sg 65 = some (F2 gHasDim)) (hl : Sg 66 = some (F3 gSliI)) : ∀ a r, F2 gFlipT a = some r → CSpec Tryz.prog 31 a r := by
  refine F2_spec ?_
  intro v d r hr0
  obtain ⟨h, rfl⟩ := gd_some hr0
  refine CSpec.intro Tryz.func31 rfl (own _) (vc3_sound Tryz.pf hS hS _ _ _ ?_)
  have q1 := gHasDim_eq h d
  unfold sliR
  cases e1 : viewOK v with
  | false =>
    rw [e1, Bool.false_and] at q1
    rw [if_neg (by simp)]
    repeat' (first | with_reducible first | refine kI (by kernel_rfl) ?_ | refine kN (by kernel_rfl) ?_ | (first | refine kB1 ?_ ?_ | refine kB2 ?_ ?_) <;> intro hp | (first | refine kD1 ?_ ?_ | refine kD2 ?_ ?_ | refine kS1 ?_ ?_ | refine kS2 ?_ ?_) <;> intro hp <;> try simp only [hp] | simp -implicitDefEqProofs (disch := omega) only [go_sem, Nat.reduceAdd, Nat.reduceSub, reduceCtorEq, Nat.reduceLT, Nat.reduceLeDiff, Nat.reduceEqDiff, Nat.reduceMul, Int.reduceToNat, ↓reduceIte, List.take_of_length_le, if_pos, if_neg, List.getElem?_set_self, List.set_set, cnE, cnV, Tryz.ntmps31, Tryz.results31,  hd, q1])
    try rfl
  | true =>
    rw [e1, Bool.true_and] at q1
    cases e2 : inR d 0 (v.sh.length - 1) with
    | false =>
      rw [e2] at q1
      rw [if_neg (by simp)]
      repeat' (first | with_reducible first | refine kI (by kernel_rfl) ?_ | refine kN (by kernel_rfl) ?_ | (first | refine kB1 ?_ ?_ | refine kB2 ?_ ?_) <;> intro hp | (first | refine kD1 ?_ ?_ | refine kD2 ?_ ?_ | refine kS1 ?_ ?_ | refine kS2 ?_ ?_) <;> intro hp <;> try simp only [hp] | simp -implicitDefEqProofs (disch := omega) only [go_sem, Nat.reduceAdd, Nat.reduceSub, reduceCtorEq, Nat.reduceLT, Nat.reduceLeDiff, Nat.reduceEqDiff, Nat.reduceMul, Int.reduceToNat, ↓reduceIte, List.take_of_length_le, if_pos, if_neg, List.getElem?_set_self, List.set_set, cnE, cnV, Tryz.ntmps31, Tryz.results31,  hd, q1])
      try rfl
    | true =>
      rw [e2] at q1
      rw [if_pos ⟨rfl, rfl, flipS_ok⟩]
      obtain ⟨m, rfl, hm⟩ := dim_nat e2
      have q3 := gSliI_eq (s := flipS) ⟨e1, flipS_ok⟩ hm
      rw [Int.toNat_natCast]
      have hfl : (⟨0, 0, -1, false, false⟩ : Sl) = flipS := rfl
      repeat' (first | with_reducible first | refine kI (by kernel_rfl) ?_ | refine kN (by kernel_rfl) ?_ | (first | refine kB1 ?_ ?_ | refine kB2 ?_ ?_) <;> intro hp | (first | refine kD1 ?_ ?_ | refine kD2 ?_ ?_ | refine kS1 ?_ ?_ | refine kS2 ?_ ?_) <;> intro hp <;> try simp only [hp] | simp -implicitDefEqProofs (disch := omega) only [go_sem, Nat.reduceAdd, Nat.reduceSub, reduceCtorEq, Nat.reduceLT, Nat.reduceLeDiff, Nat.reduceEqDiff, Nat.reduceMul, Int.reduceToNat, ↓reduceIte, List.take_of_length_le, if_pos, if_neg, List.getElem?_set_self, List.set_set, cnE, cnV, Tryz.ntmps31, Tryz.results31,  hd, q1, hl, hfl, q3])
      try rfl
def gEqV (a b : Vi) : Option Bool := gd (viB2 a b) (decide (a = b))
theorem gEqV_eq {a b : Vi} (h : viB2 a b) : gEqV a b = some (decide (a = b)) := gd_eq h
theorem vi_eq {a b : Vi} : decide (a = b) = (a.b == b.b && (decide (a.sh = b.sh) && decide (a.st = b.st))) := by
  cases a; cases b
  rw [Bool.eq_iff_iff]
  simp
/-! ### draws -/
theorem rc_2b (bs : List UInt8) (L : List Blk) (A B C : Blk) : RC bs (L.length + 2) (L.length + 4) (fun p => L ++ [A, B, rdB bs p, C]) :=
  ⟨fun p => by simp, by omega, fun p => by simp, fun p q => by simp⟩
end Go.Proofs.YtgpflkmelindfaaGreat
namespace Go.Proofs.YtgpflkmelindfaaGreat
open Go Go.Ev Go.RowKit Go.Ev.Enc Go.Pl

/-! ### flipped twice -/
theorem flip_ind {n : Int} (hn : 0 ≤ n) : indF n flipS = lineF (n - 1) (-1) n.toNat := by
  have e : indR n flipS = ⟨n - 1, -1, -1⟩ := by
    unfold indR flipS
    simp
  unfold indF
  rw [e]
  refine numL_line n.toNat (n - 1) (fun k hk => .inr ⟨show (-1 : Int) < 0 by omega, ?_⟩) ?_
  · show -1 < n - 1 + (k : Int) * -1
    omega
  · unfold goesOn
    show ¬ ((0 : Int) < -1 ∧ _ ∨ (-1 : Int) < 0 ∧ -1 < n - 1 + (n.toNat : Int) * -1)
    omega
theorem set_self {l : List Int} {d : Nat} (h : d < l.length) : l.set d (l.getD d 0) = l := by
  simp [h]
theorem flip_sh {v : Vi} (h : viewOK v = true) {d : Nat} (hd : d < v.sh.length) : (slcF v d (indF (v.sh.getD d 0) flipS)).sh = v.sh := by
  have hn := dim_at h hd
  rw [slc_sh, flip_ind hn.1, lineF_len, Int.toNat_of_nonneg hn.1, set_self hd]
theorem flip_ok {v : Vi} (h : viewOK v = true) {d : Nat} (hd : d < v.sh.length) : viewOK (slcF v d (indF (v.sh.getD d 0) flipS)) = true := by
  have hn := dim_at h hd
  exact slc_ok h hd (ind_rng hn.1) (ind_len hn.1 (by decide)) (ind_ap _ _)
theorem flip_cell {v : Vi} (h : viewOK v = true) {d : Nat} (hd : d < v.sh.length) (hz : ¬ prodW v.sh = 0) {x : List Int} (hx : vIx v.sh x) :
    offP (slcF v d (indF (v.sh.getD d 0) flipS)) x v.sh.length = offP v (x.set d (v.sh.getD d 0 - 1 - x.getD d 0)) v.sh.length ∧ vIx v.sh (x.set d (v.sh.getD d 0 - 1 - x.getD d 0)) := by
  have hn := dim_at h hd
  have hxd := hx.2 d hd
  have e0 : v.sh.set d ((indF (v.sh.getD d 0) flipS).length : Int) = v.sh := by
    rw [flip_ind hn.1, lineF_len, Int.toNat_of_nonneg hn.1, set_self hd]
  have e1 : (indF (v.sh.getD d 0) flipS).getD (x.getD d 0).toNat 0 = v.sh.getD d 0 - 1 - x.getD d 0 := by
    rw [flip_ind hn.1, lineF_at (by omega), Int.toNat_of_nonneg hxd.1]
    omega
  have := slc_cell (x := x) h hd (ind_ap (v.sh.getD d 0) flipS) (by rw [e0]; exact hx) (by rw [e0]; exact hz)
  rw [e1] at this
  have h2 := slc_vix (x := x) hd (ind_rng (n := v.sh.getD d 0) (s := flipS) hn.1) (by rw [e0]; exact hx)
  rw [e1] at h2
  exact ⟨this, h2⟩
theorem flip_twice {v : Vi} (h : viewOK v = true) {d : Nat} (hd : d < v.sh.length) :
    sameF (slcF (slcF v d (indF (v.sh.getD d 0) flipS)) d (indF ((slcF v d (indF (v.sh.getD d 0) flipS)).sh.getD d 0) flipS)) v = true := by
  have h1 := flip_ok h hd
  have s1 := flip_sh h hd
  have c1 := fun hz x hx => flip_cell h hd hz (x := x) hx
  generalize slcF v d (indF (v.sh.getD d 0) flipS) = w at *
  have hd1 : d < w.sh.length := by rw [s1]; exact hd
  have h2 := flip_ok h1 hd1
  have s2 := flip_sh h1 hd1
  have c2 := fun hz x hx => flip_cell h1 hd1 hz (x := x) hx
  generalize slcF w d (indF (w.sh.getD d 0) flipS) = u at *
  rw [s1] at c2 s2
  refine sameF_iff.2 ⟨⟨h2, h⟩, s2, ?_⟩
  by_cases hz : prodW v.sh = 0
  · rw [offF_zero hz, offF_zero (by rw [s2]; exact hz)]
  · obtain ⟨k1, k2, k3, k4, k5⟩ := viewOK_iff.1 h
    have hp := shape_posV k1 hz
    have hi := (shape_facts k1).2.1
    have eu : ∀ k : Nat, offW u (unrF v.sh (k : Int)) v.sh.length = offW v (unrF v.sh (k : Int)) v.sh.length := fun k => by
      have hx := unr_ix hi hp k
      have hxd := hx.2 d hd
      have a1 := offW_ix h2 (x := unrF v.sh (k : Int)) (by rw [s2]; exact hx)
      rw [s2] at a1
      rw [a1, offW_ix h hx]
      obtain ⟨b1, b2⟩ := c2 hz _ hx
      obtain ⟨b3, b4⟩ := c1 hz _ b2
      rw [b1, b3, getD_set_eq (by rw [hx.1]; exact hd), List.set_set]
      congr 1
      rw [show v.sh.getD d 0 - 1 - (v.sh.getD d 0 - 1 - (unrF v.sh (k : Int)).getD d 0) = (unrF v.sh (k : Int)).getD d 0 by omega]
      exact set_self (by rw [hx.1]; exact hd)
    unfold offF
    rw [s2]
    exact List.map_congr_left fun k _ => eu k
theorem flip_cells {v : Vi} (h : viewOK v = true) {d : Nat} (hd : d < v.sh.length) : srt (offF (slcF v d (indF (v.sh.getD d 0) flipS))) = srt (offF v) := by
  have h1 := flip_ok h hd
  have s1 := flip_sh h hd
  have hn := dim_at h hd
  have hs := (sameF_iff.1 (flip_twice h hd)).2.2
  refine asc_ext (srt_asc _) (srt_asc _) fun x => ?_
  rw [srt_mem, srt_mem]
  constructor
  · exact slc_mem h hd (ind_rng hn.1) (ind_len hn.1 (by decide)) (ind_ap _ _)
  · intro hx
    rw [← hs] at hx
    have hd1 : d < (slcF v d (indF (v.sh.getD d 0) flipS)).sh.length := by rw [s1]; exact hd
    have hn1 := dim_at h1 hd1
    exact slc_mem h1 hd1 (ind_rng hn1.1) (ind_len hn1.1 (by decide)) (ind_ap _ _) hx
theorem sli_some {v : Vi} {d : Int} {s : Sl} : sliF v d s = if (sliR v d s).2 = true then some (sliR v d s).1 else none := by
  unfold sliF sliR
  by_cases h : viewOK v = true ∧ inR d 0 (v.sh.length - 1) = true ∧ slOK s = true
  · rw [if_pos h, if_pos h, if_pos rfl]
    obtain ⟨m, rfl, hm⟩ := dim_nat h.2.1
    rw [Int.toNat_natCast]
    exact cut_made h.1 hm h.2.2
  · rw [if_neg h, if_neg h]
    rfl
def DrDim (f : FuncId) : Prop := ∀ (bs : List UInt8), bs.length ≤ 1048576 → ∀ L : List Blk, ISpec Tryz.prog f [bytesA 0 bs] L fun r L' => ∃ (v : Vi) (d : Int), viOK v ∧ r = .tup [viD v, i64 d] ∧ L' = L
theorem ok_viB {v : Vi} (h : viewOK v = true) : viB v := ⟨by have := (shape_facts (vOK h).1).1; omega, by have := (shape_facts (vOK h).1).1; have := (vOK h).2; omega⟩
theorem zero_viB : viB ⟨0, [], []⟩ := by decide
end Go.Proofs.YtgpflkmelindfaaGreat
namespace Go.Proofs.YtgpflkmelindfaaGreat
open Go Go.Ev Go.RowKit Go.Ev.Enc Go.Pl

theorem gcV_tup (n : Nat) (L : List Blk) (l : List AV) : gcV n L (.tup l) = .tup (l.map (expE (gcC n L))) := rfl
theorem xE_int (n : Nat) (L : List Blk) (k : IntKind) (m : Int) : expE (gcC n L) (.int k m) = .int k m := rfl
theorem xE_bool (n : Nat) (L : List Blk) (b : Bool) : expE (gcC n L) (.bool b) = .bool b := rfl
theorem xE_agg (n : Nat) (L : List Blk) (l : List AV) : expE (gcC n L) (.agg l) = .agg (l.map (gcC n L)) := rfl
theorem gcC_ints' (n : Nat) (L : List Blk) (t : Nat) (l : List Int) : gcC n L (ints t l) = ints t l := by
  simp [gcC, gcStep, expE, ints, Function.comp_def]
attribute [go_sem] gcV_tup xE_int xE_bool xE_agg gcC_ints'
set_option maxHeartbeats 4000000 in
set_option maxRecDepth 100000 in
theorem o_ixAt {Sg : FuncId → Option (List AV → Option AV)} (hS : Sound Tryz.prog Sg) (s : List Int) (k : Int) (h1 : s.length < 4294967296) (h2 : 0 ≤ k ∧ k ≤ 9223372036854775807) (h3 : ∀ i, i < s.length → 1 ≤ s.getD i 0) : OSpec Tryz.prog 88 [ints 0 s, i64 k] (fun n => .sl n s.length 0 s.length s.length) (fun _ => [⟨1, (unrF s k).map fun n => .int .i64 n⟩]) := by
  refine OSpec.intro Tryz.func88 rfl (vc3_sound Tryz.pf hS hS _ _ _ ?_)
  obtain ⟨h2, h2'⟩ := h2
  have hall : ∀ m, ∀ d ∈ s.reverse.take m, 1 ≤ d := fun m d hd => by
    have := List.mem_of_mem_take hd
    rw [List.mem_reverse] at this
    obtain ⟨i, hi, rfl⟩ := List.mem_iff_getElem.1 this
    have := h3 i hi
    simpa [hi] using this
  have hul := unrF_len s k
  repeat' (first | with_reducible first | refine kI (by kernel_rfl) ?_ | refine kN (by kernel_rfl) ?_ | (first | refine kB1 ?_ ?_ | refine kB2 ?_ ?_) <;> intro hp | (first | refine kD1 ?_ ?_ | refine kD2 ?_ ?_ | refine kS1 ?_ ?_ | refine kS2 ?_ ?_) <;> intro hp <;> try simp only [hp] | simp -implicitDefEqProofs (disch := omega) only [go_sem, Nat.reduceAdd, Nat.reduceSub, reduceCtorEq, Nat.reduceLT, Nat.reduceLeDiff, Nat.reduceEqDiff, Nat.reduceMul, Int.reduceToNat, ↓reduceIte, List.take_of_length_le, if_pos, if_neg, List.getElem?_set_self, List.set_set, cnE, cnV, Tryz.ntmps88, Tryz.results88])
  refine LoopQ.mix (fun t0 L0 nn ss => ∃ (m : Nat) (c : Int) (_ : Unit), (∃ x : Nat → AV, ss = ⟨mixL 0 (.k :: .v (i64 c) :: .k :: .k :: .k :: .k :: .v (i64 ((m : Nat) - 1)) :: .k :: .k :: .k :: .k :: .k :: .k :: .s :: .s :: .s :: .s :: .s :: .s :: .s :: .s :: .s :: .s :: .s :: .s :: .s :: .s :: .s :: .s :: .s :: .s :: .s :: .k :: []) t0 x, [⟨1, (fromEnd (unrF s k) m).map fun n => .int .i64 n⟩]⟩) ∧ (m ≤ s.length) ∧ (c = divR (s.reverse.take (s.length - m)) k) ∧ nn = m + 1) ?_ ?_
  · exact ⟨_, ⟨s.length, k, (), mixJ rfl (by rw [fromEnd, List.drop_of_length_le (by omega), List.append_nil]), Nat.le_refl _, by rw [Nat.sub_self]; rfl, rfl⟩⟩
  · rintro I0 hI0 n ss ⟨m, c, _, ⟨x, rfl⟩, g1, g2, rfl⟩
    have hc := divR_nn (s.reverse.take (s.length - m)) k (hall _) h2
    rw [← g2] at hc
    match m, g1 with
    | 0, _ =>
      have h0 : fromEnd (unrF s k) 0 = unrF s k := by simp [fromEnd]
      rw [h0]
      repeat' (first | with_reducible first | refine kI (by kernel_rfl) ?_ | refine kN (by kernel_rfl) ?_ | (first | refine kB1 ?_ ?_ | refine kB2 ?_ ?_) <;> intro hp | (first | refine kD1 ?_ ?_ | refine kD2 ?_ ?_ | refine kS1 ?_ ?_ | refine kS2 ?_ ?_) <;> intro hp <;> try simp only [hp] | simp -implicitDefEqProofs (disch := omega) only [go_sem, Nat.reduceAdd, Nat.reduceSub, reduceCtorEq, Nat.reduceLT, Nat.reduceLeDiff, Nat.reduceEqDiff, Nat.reduceMul, Int.reduceToNat, ↓reduceIte, List.take_of_length_le, if_pos, if_neg, List.getElem?_set_self, List.set_set, cnE, cnV, Tryz.ntmps88, Tryz.results88])
      exact ⟨[0], by simp, by simp, fun _ => rfl, fun _ => by simp only [List.map, List.getD_cons_zero, renB_ints]⟩
    | m + 1, hm =>
      have h4 := h3 m hm
      have ht := fromEnd_len (l := unrF s k) (m := m + 1) (by omega)
      have hs := fromEnd_set (l := unrF s k) (m := m) (by omega)
      have hv := unrF_at (k := k) hm
      rw [← g2] at hv
      rw [hv] at hs
      have hd : divR (s.reverse.take (s.length - m)) k = c.tdiv (s.getD m 0) := by rw [rev_drop hm, divR_app, ← g2]; rfl
      have h5 : 0 ≤ c.tdiv (s.getD m 0) := Int.tdiv_nonneg hc.1 (by omega)
      have h6 : c.tdiv (s.getD m 0) ≤ c := by rw [Int.tdiv_eq_ediv_of_nonneg hc.1]; exact Int.ediv_le_self _ hc.1
      have e1 : (((m + 1 : Nat) : Int) - 1) = (m : Int) := by omega
      rw [e1]
      have h7 : ¬ s.getD m 0 = 0 := by omega
      repeat' (first | with_reducible first | refine kI (by kernel_rfl) ?_ | refine kN (by kernel_rfl) ?_ | (first | refine kB1 ?_ ?_ | refine kB2 ?_ ?_) <;> intro hp | (first | refine kD1 ?_ ?_ | refine kD2 ?_ ?_ | refine kS1 ?_ ?_ | refine kS2 ?_ ?_) <;> intro hp <;> try simp only [hp] | simp -implicitDefEqProofs (disch := omega) only [go_sem, Nat.reduceAdd, Nat.reduceSub, reduceCtorEq, Nat.reduceLT, Nat.reduceLeDiff, Nat.reduceEqDiff, Nat.reduceMul, Int.reduceToNat, ↓reduceIte, List.take_of_length_le, if_pos, if_neg, List.getElem?_set_self, List.set_set, cnE, cnV, Tryz.ntmps88, Tryz.results88,  hs, ht, set_ints])
      exact ⟨m + 1, by omega, hI0 _ _ ⟨m, _, (), mixI rfl, by omega, hd.symm, rfl⟩⟩
theorem can_ixAt : CanCall Tryz.prog 88 := ⟨_, Tryz.func88, rfl, rfl⟩
def offR (v : Vi) (x : List Int) : Int × Bool := if viewOK v = true ∧ idxOK v.sh x = true then (offW v x x.length, true) else (0, false)
def gOffAt (v : Vi) (x : List Int) : Option (Int × Bool) := gd (viB v ∧ x.length < 4294967296) (offR v x)
theorem gOffAt_eq {v : Vi} {x : List Int} (h : viB v ∧ x.length < 4294967296) : gOffAt v x = some (offR v x) := gd_eq h
theorem off_ix {v : Vi} {x : List Int} (h : viewOK v = true) (hx : vIx v.sh x) : gOffAt v x = some (offP v x v.sh.length, true) := by
  have hl := (shape_facts (vOK h).1).1
  have hi : idxOK v.sh x = true := idxOK_true hx.1 fun i hi => hx.2 i (by rw [← hx.1]; exact hi)
  rw [gOffAt_eq ⟨ok_viB h, by rw [hx.1]; omega⟩]
  unfold offR
  rw [if_pos ⟨h, hi⟩, hx.1, offW_ix h hx]
def DrSli (f : FuncId) : Prop := ∀ (bs : List UInt8), bs.length ≤ 1048576 → ∀ L : List Blk, ISpec Tryz.prog f [bytesA 0 bs] L fun r L' => ∃ (v : Vi) (d : Int) (s : Sl), viOK v ∧ r = .tup [viD v, i64 d, slA s] ∧ L' = L
end Go.Proofs.YtgpflkmelindfaaGreat
namespace Go.Proofs.YtgpflkmelindfaaGreat
open Go Go.Ev Go.RowKit Go.Ev.Enc Go.Pl

/-! ### values stored in a view -/
def stoV (m : List Int) (v : Vi) (V : List Int) : List Int := stoT m (offF v) V (offF v).length
def gStoI (m : List Int) (v : Vi) (V : List Int) : Option (List Int) := gd (holdB m v = true ∧ V.length = (offF v).length) (stoV m v V)
theorem gStoI_eq {m : List Int} {v : Vi} {V : List Int} (h : holdB m v = true ∧ V.length = (offF v).length) : gStoI m v V = some (stoV m v V) := gd_eq h
set_option maxHeartbeats 4000000 in
set_option maxRecDepth 100000 in
theorem spec_storeView {Sg : FuncId → Option (List AV → Option AV)} (hS : Sound Tryz.prog Sg) (ho : Sg 52 = some (F1 gOffsets)) : ∀ a r, F3 gStoI a = some r → CSpec Tryz.prog 36 a r := by
  refine F3_spec ?_
  intro m v V r hr0
  obtain ⟨⟨e, hV⟩, rfl⟩ := gd_some hr0
  refine CSpec.intro Tryz.func36 rfl (own _) (vc3_sound Tryz.pf hS hS _ _ _ ?_)
  obtain ⟨h1, h2, h3⟩ := fit_in e
  have hm := (memOK_iff.1 h1).1
  have h6 := offF_60 (vOK h2).1
  have q3 := gOffsets_eq (vOK h2)
  have hv0 : viB0 v = viB0 v := rfl
  unfold stoV
  repeat' (first | with_reducible first | refine kI (by kernel_rfl) ?_ | refine kN (by kernel_rfl) ?_ | (first | refine kB1 ?_ ?_ | refine kB2 ?_ ?_) <;> intro hp | (first | refine kD1 ?_ ?_ | refine kD2 ?_ ?_ | refine kS1 ?_ ?_ | refine kS2 ?_ ?_) <;> intro hp <;> try simp only [hp] | simp -implicitDefEqProofs (disch := omega) only [go_sem, Nat.reduceAdd, Nat.reduceSub, reduceCtorEq, Nat.reduceLT, Nat.reduceLeDiff, Nat.reduceEqDiff, Nat.reduceMul, Int.reduceToNat, ↓reduceIte, List.take_of_length_le, if_pos, if_neg, List.getElem?_set_self, List.set_set, cnE, cnV, Tryz.ntmps36, Tryz.results36,  ho, q3])
  generalize offF v = A at *
  refine LoopQ.mix (fun t0 L0 nn ss => ∃ (k : Nat) (_ : Unit), (∃ x : Nat → AV, ss = ⟨mixL 0 (.k :: .k :: .k :: .k :: .k :: .k :: .k :: .k :: .s :: .s :: .k :: .k :: .k :: .k :: .k :: .k :: .v (i64 (k : Nat)) :: .s :: .s :: .s :: .s :: .s :: .s :: .s :: .s :: .s :: .s :: .s :: .s :: .k :: []) t0 x, [viB0 v, ⟨1, (stoT m A V k).map fun n => .int .i64 n⟩]⟩) ∧ (k ≤ A.length) ∧ nn = A.length - k) ?_ ?_
  · exact ⟨_, ⟨0, (), mixI rfl, Nat.zero_le _, rfl⟩⟩
  · rintro I0 hI0 nn s ⟨k, _, ⟨x, rfl⟩, g1, rfl⟩
    have hl := stoT_len m A V k
    by_cases hk : k < A.length
    · have hki : (k : Int) < (A.length : Int) := by omega
      have hkV : k < V.length := by omega
      obtain ⟨j, hj, hjm⟩ := in_at h3 hk
      have hs : (stoT m A V k).set j (V.getD k 0) = stoT m A V (k + 1) := by rw [stoT, hj, Int.toNat_natCast]
      have hjl : j < (stoT m A V k).length := by omega
      repeat' (first | with_reducible first | refine kI (by kernel_rfl) ?_ | refine kN (by kernel_rfl) ?_ | (first | refine kB1 ?_ ?_ | refine kB2 ?_ ?_) <;> intro hp | (first | refine kD1 ?_ ?_ | refine kD2 ?_ ?_ | refine kS1 ?_ ?_ | refine kS2 ?_ ?_) <;> intro hp <;> try simp only [hp] | simp -implicitDefEqProofs (disch := omega) only [go_sem, Nat.reduceAdd, Nat.reduceSub, reduceCtorEq, Nat.reduceLT, Nat.reduceLeDiff, Nat.reduceEqDiff, Nat.reduceMul, Int.reduceToNat, ↓reduceIte, List.take_of_length_le, if_pos, if_neg, List.getElem?_set_self, List.set_set, cnE, cnV, Tryz.ntmps36, Tryz.results36,  hki, getD_ints hk, getD_ints hkV, hj, hl, hjm, hs])
      exact ⟨A.length - (k + 1), by omega, hI0 _ _ ⟨k + 1, (), mixI rfl, hk, rfl⟩⟩
    · obtain rfl : k = A.length := by omega
      repeat' (first | with_reducible first | refine kI (by kernel_rfl) ?_ | refine kN (by kernel_rfl) ?_ | (first | refine kB1 ?_ ?_ | refine kB2 ?_ ?_) <;> intro hp | (first | refine kD1 ?_ ?_ | refine kD2 ?_ ?_ | refine kS1 ?_ ?_ | refine kS2 ?_ ?_) <;> intro hp <;> try simp only [hp] | simp -implicitDefEqProofs (disch := omega) only [go_sem, Nat.reduceAdd, Nat.reduceSub, reduceCtorEq, Nat.reduceLT, Nat.reduceLeDiff, Nat.reduceEqDiff, Nat.reduceMul, Int.reduceToNat, ↓reduceIte, List.take_of_length_le, if_pos, if_neg, List.getElem?_set_self, List.set_set, cnE, cnV, Tryz.ntmps36, Tryz.results36,  hl])
set_option maxHeartbeats 4000000 in
set_option maxRecDepth 100000 in
theorem law_put {Sg : FuncId → Option (List AV → Option AV)} (hS : Sound Tryz.prog Sg) (ho : Sg 54 = some (F1 gOffsets)) (n1 : Sg 77 = none) : ∀ a r, F3 gStoI a = some r → CSpec Tryz.prog 40 a r := by
  refine F3_spec ?_
  intro m v V r hr0
  obtain ⟨⟨e, hV⟩, rfl⟩ := gd_some hr0
  refine CSpec.intro Tryz.func40 rfl (own _) (vc3_sound Tryz.pf hS hS _ _ _ ?_)
  obtain ⟨h1, h2, h3⟩ := fit_in e
  have hm := (memOK_iff.1 h1).1
  have h6 := offF_60 (vOK h2).1
  have q3 := gOffsets_eq (vOK h2)
  have hv0 : viB0 v = viB0 v := rfl
  unfold stoV
  repeat' (first | with_reducible first | refine kI (by kernel_rfl) ?_ | refine kN (by kernel_rfl) ?_ | (first | refine kB1 ?_ ?_ | refine kB2 ?_ ?_) <;> intro hp | (first | refine kD1 ?_ ?_ | refine kD2 ?_ ?_ | refine kS1 ?_ ?_ | refine kS2 ?_ ?_) <;> intro hp <;> try simp only [hp] | simp -implicitDefEqProofs (disch := omega) only [go_sem, Nat.reduceAdd, Nat.reduceSub, reduceCtorEq, Nat.reduceLT, Nat.reduceLeDiff, Nat.reduceEqDiff, Nat.reduceMul, Int.reduceToNat, ↓reduceIte, List.take_of_length_le, if_pos, if_neg, List.getElem?_set_self, List.set_set, cnE, cnV, Tryz.ntmps40, Tryz.results40,  n1, opQ_none])
  refine InlK_intro rfl rfl can_copyV ((o_copyInts hS m (by omega)).call (by simp only [go_sem, ints]) ?_)
  repeat' (first | with_reducible first | refine kI (by kernel_rfl) ?_ | refine kN (by kernel_rfl) ?_ | (first | refine kB1 ?_ ?_ | refine kB2 ?_ ?_) <;> intro hp | (first | refine kD1 ?_ ?_ | refine kD2 ?_ ?_ | refine kS1 ?_ ?_ | refine kS2 ?_ ?_) <;> intro hp <;> try simp only [hp] | simp -implicitDefEqProofs (disch := omega) only [go_sem, Nat.reduceAdd, Nat.reduceSub, reduceCtorEq, Nat.reduceLT, Nat.reduceLeDiff, Nat.reduceEqDiff, Nat.reduceMul, Int.reduceToNat, ↓reduceIte, List.take_of_length_le, if_pos, if_neg, List.getElem?_set_self, List.set_set, cnE, cnV, Tryz.ntmps40, Tryz.results40,  ho, q3])
  generalize offF v = A at *
  refine LoopQ.mix (fun t0 L0 nn ss => ∃ (k : Nat) (_ : Unit), (∃ x : Nat → AV, ss = ⟨mixL 0 (.k :: .k :: .k :: .k :: .k :: .k :: .k :: .k :: .k :: .v (i64 (k : Nat)) :: .k :: .k :: .k :: .k :: .s :: .s :: .s :: .s :: .s :: .s :: .s :: .s :: .s :: .s :: .s :: .s :: .s :: .s :: .s :: .s :: .k :: []) t0 x, [viB0 v, ⟨1, (stoT m A V k).map fun n => .int .i64 n⟩]⟩) ∧ (k ≤ A.length) ∧ nn = A.length - k) ?_ ?_
  · exact ⟨_, ⟨0, (), mixI rfl, Nat.zero_le _, rfl⟩⟩
  · rintro I0 hI0 nn s ⟨k, _, ⟨x, rfl⟩, g1, rfl⟩
    have hl := stoT_len m A V k
    by_cases hk : k < A.length
    · have hki : (k : Int) < (A.length : Int) := by omega
      have hkV : k < V.length := by omega
      obtain ⟨j, hj, hjm⟩ := in_at h3 hk
      have hs : (stoT m A V k).set j (V.getD k 0) = stoT m A V (k + 1) := by rw [stoT, hj, Int.toNat_natCast]
      have hjl : j < (stoT m A V k).length := by omega
      repeat' (first | with_reducible first | refine kI (by kernel_rfl) ?_ | (first | refine kB1 ?_ ?_ | refine kB2 ?_ ?_) <;> intro hp | (first | refine kD1 ?_ ?_ | refine kD2 ?_ ?_ | refine kS1 ?_ ?_ | refine kS2 ?_ ?_) <;> intro hp <;> try simp only [hp] | simp -implicitDefEqProofs (disch := omega) only [go_sem, Nat.reduceAdd, Nat.reduceSub, reduceCtorEq, Nat.reduceLT, Nat.reduceLeDiff, Nat.reduceEqDiff, Nat.reduceMul, Int.reduceToNat, ↓reduceIte, List.take_of_length_le, if_pos, if_neg, List.getElem?_set_self, List.set_set, cnE, cnV, Tryz.ntmps40, Tryz.results40,  hki])
      refine DrawQ.any [([0, 1, 2, 3, 4, 5, 6, 7, 8, 9], 10)] [] [] (by kernel_rfl) ?_
      repeat' (first | with_reducible first | refine kI (by kernel_rfl) ?_ | (first | refine kB1 ?_ ?_ | refine kB2 ?_ ?_) <;> intro hp | (first | refine kD1 ?_ ?_ | refine kD2 ?_ ?_ | refine kS1 ?_ ?_ | refine kS2 ?_ ?_) <;> intro hp <;> try simp only [hp] | simp -implicitDefEqProofs (disch := omega) only [go_sem, Nat.reduceAdd, Nat.reduceSub, reduceCtorEq, Nat.reduceLT, Nat.reduceLeDiff, Nat.reduceEqDiff, Nat.reduceMul, Int.reduceToNat, ↓reduceIte, List.take_of_length_le, if_pos, if_neg, List.getElem?_set_self, List.set_set, cnE, cnV, Tryz.ntmps40, Tryz.results40,  getD_ints hk, getD_ints hkV, hj, hl, hjm, hs])
      exact ⟨A.length - (k + 1), by omega, hI0 _ _ ⟨k + 1, (), mixI rfl, hk, rfl⟩⟩
    · obtain rfl : k = A.length := by omega
      repeat' (first | with_reducible first | refine kI (by kernel_rfl) ?_ | refine kN (by kernel_rfl) ?_ | (first | refine kB1 ?_ ?_ | refine kB2 ?_ ?_) <;> intro hp | (first | refine kD1 ?_ ?_ | refine kD2 ?_ ?_ | refine kS1 ?_ ?_ | refine kS2 ?_ ?_) <;> intro hp <;> try simp only [hp] | simp -implicitDefEqProofs (disch := omega) only [go_sem, Nat.reduceAdd, Nat.reduceSub, reduceCtorEq, Nat.reduceLT, Nat.reduceLeDiff, Nat.reduceEqDiff, Nat.reduceMul, Int.reduceToNat, ↓reduceIte, List.take_of_length_le, if_pos, if_neg, List.getElem?_set_self, List.set_set, cnE, cnV, Tryz.ntmps40, Tryz.results40,  hl])
set_option maxHeartbeats 4000000 in
set_option maxRecDepth 100000 in
theorem spec_put {Sg : FuncId → Option (List AV → Option AV)} (hS : Sound Tryz.prog Sg) (ho : Sg 54 = some (F1 gOffsets)) : ∀ a r, F3 gStoI a = some r → CSpec Tryz.prog 40 a r := by
  exact law_put (hS.hide 77) ((if_neg (by decide)).trans ho) (if_pos rfl)
set_option maxHeartbeats 4000000 in
set_option maxRecDepth 100000 in
theorem spec_load {Sg : FuncId → Option (List AV → Option AV)} (hS : Sound Tryz.prog Sg) (ho : Sg 54 = some (F1 gOffsets)) : ∀ a r, F2 gLoadI a = some r → CSpec Tryz.prog 51 a r := by
  refine F2_spec ?_
  intro m v r hr
  obtain ⟨h, rfl⟩ := gd_some hr
  refine CSpec.intro Tryz.func51 rfl (own _) (vc3_sound Tryz.pf hS hS _ _ _ ?_)
  obtain ⟨h1, h2, h3⟩ := fit_in h
  have hm := (memOK_iff.1 h1).1
  have h6 := offF_60 (vOK h2).1
  have q1 := gOffsets_eq (vOK h2)
  have hv0 : viB0 v = viB0 v := rfl
  repeat' (first | with_reducible first | refine kI (by kernel_rfl) ?_ | refine kN (by kernel_rfl) ?_ | (first | refine kB1 ?_ ?_ | refine kB2 ?_ ?_) <;> intro hp | (first | refine kD1 ?_ ?_ | refine kD2 ?_ ?_ | refine kS1 ?_ ?_ | refine kS2 ?_ ?_) <;> intro hp <;> try simp only [hp] | simp -implicitDefEqProofs (disch := omega) only [go_sem, Nat.reduceAdd, Nat.reduceSub, reduceCtorEq, Nat.reduceLT, Nat.reduceLeDiff, Nat.reduceEqDiff, Nat.reduceMul, Int.reduceToNat, ↓reduceIte, List.take_of_length_le, if_pos, if_neg, List.getElem?_set_self, List.set_set, cnE, cnV, Tryz.ntmps51, Tryz.results51,  ho, q1])
  generalize offF v = A at *
  refine LoopQ.mix (fun t0 L0 nn ss => ∃ (k : Nat) (q : List Int) (_ : Unit), (∃ x : Nat → AV, ss = ⟨mixL 0 (.k :: .k :: .k :: .k :: .k :: .v (.sl 1 k 0 k k) :: .k :: .v (i64 (k : Nat)) :: .k :: .k :: .k :: .s :: .s :: .s :: .s :: .s :: .s :: .s :: .s :: .s :: .s :: .s :: .s :: .s :: .s :: .s :: .s :: .k :: []) t0 x, [viB0 v, ⟨1, q.map fun n => .int .i64 n⟩]⟩) ∧ (k ≤ A.length) ∧ (q.length = k) ∧ (q = tkn m (A.take k)) ∧ nn = A.length - k) ?_ ?_
  · exact ⟨_, ⟨0, [], (), mixI rfl, Nat.zero_le _, rfl, rfl, rfl⟩⟩
  · rintro I0 hI0 nn s ⟨k, q, _, ⟨x, rfl⟩, g1, g2, g3, rfl⟩
    by_cases hk : k < A.length
    · have hki : (k : Int) < (A.length : Int) := by omega
      obtain ⟨j, hj, hjm⟩ := in_at h3 hk
      have hs := tkn_take (e := m) (l := A) hk
      rw [hj, Int.toNat_natCast, ← g3] at hs
      repeat' (first | with_reducible first | refine kI (by kernel_rfl) ?_ | refine kN (by kernel_rfl) ?_ | (first | refine kB1 ?_ ?_ | refine kB2 ?_ ?_) <;> intro hp | (first | refine kD1 ?_ ?_ | refine kD2 ?_ ?_ | refine kS1 ?_ ?_ | refine kS2 ?_ ?_) <;> intro hp <;> try simp only [hp] | simp -implicitDefEqProofs (disch := omega) only [go_sem, Nat.reduceAdd, Nat.reduceSub, reduceCtorEq, Nat.reduceLT, Nat.reduceLeDiff, Nat.reduceEqDiff, Nat.reduceMul, Int.reduceToNat, ↓reduceIte, List.take_of_length_le, if_pos, if_neg, List.getElem?_set_self, List.set_set, cnE, cnV, Tryz.ntmps51, Tryz.results51,  hki, getD_ints hk, hj, getD_ints hjm])
      exact ⟨A.length - (k + 1), by omega, hI0 _ _ ⟨k + 1, q ++ [m.getD j 0], (), mixI rfl, hk, by simp [g2], hs, rfl⟩⟩
    · obtain rfl : k = A.length := by omega
      rw [List.take_length] at g3
      subst g3
      repeat' (first | with_reducible first | refine kI (by kernel_rfl) ?_ | refine kN (by kernel_rfl) ?_ | (first | refine kB1 ?_ ?_ | refine kB2 ?_ ?_) <;> intro hp | (first | refine kD1 ?_ ?_ | refine kD2 ?_ ?_ | refine kS1 ?_ ?_ | refine kS2 ?_ ?_) <;> intro hp <;> try simp only [hp] | simp -implicitDefEqProofs (disch := omega) only [go_sem, Nat.reduceAdd, Nat.reduceSub, reduceCtorEq, Nat.reduceLT, Nat.reduceLeDiff, Nat.reduceEqDiff, Nat.reduceMul, Int.reduceToNat, ↓reduceIte, List.take_of_length_le, if_pos, if_neg, List.getElem?_set_self, List.set_set, cnE, cnV, Tryz.ntmps51, Tryz.results51])
/-! ### may values be stored, may a view be copied? -/
set_option maxHeartbeats 2000000 in
set_option maxRecDepth 100000 in
theorem isp_canStore1 {Sg : FuncId → Option (List AV → Option AV)} (hS : Sound Tryz.prog Sg) (hv : Sg 72 = some (F1 gIsVal)) (x : Int) (L : List Blk) : ISpec Tryz.prog 71 [i64 x] L (fun r L' => r = .bool (notVal x) ∧ L' = L) := by
  refine ISpec.intro Tryz.func71 rfl (vc_sound Tryz.pf hS _ _ _ ?_)
  have q := gIsVal_eq x
  unfold notVal
  cases e : inR x 0 255 with
  | false =>
    rw [e] at q
    repeat' (first | with_reducible first | refine kI (by kernel_rfl) ?_ | refine kN (by kernel_rfl) ?_ | (first | refine kB1 ?_ ?_ | refine kB2 ?_ ?_) <;> intro hp | (first | refine kD1 ?_ ?_ | refine kD2 ?_ ?_ | refine kS1 ?_ ?_ | refine kS2 ?_ ?_) <;> intro hp <;> try simp only [hp] | simp -implicitDefEqProofs (disch := omega) only [go_sem, Nat.reduceAdd, Nat.reduceSub, reduceCtorEq, Nat.reduceLT, Nat.reduceLeDiff, Nat.reduceEqDiff, Nat.reduceMul, Int.reduceToNat, ↓reduceIte, List.take_of_length_le, if_pos, if_neg, List.getElem?_set_self, List.set_set, cnE, cnV, Tryz.ntmps71, Tryz.results71,  hv, q])
    try exact ⟨rfl, rfl⟩
  | true =>
    rw [e] at q
    repeat' (first | with_reducible first | refine kI (by kernel_rfl) ?_ | refine kN (by kernel_rfl) ?_ | (first | refine kB1 ?_ ?_ | refine kB2 ?_ ?_) <;> intro hp | (first | refine kD1 ?_ ?_ | refine kD2 ?_ ?_ | refine kS1 ?_ ?_ | refine kS2 ?_ ?_) <;> intro hp <;> try simp only [hp] | simp -implicitDefEqProofs (disch := omega) only [go_sem, Nat.reduceAdd, Nat.reduceSub, reduceCtorEq, Nat.reduceLT, Nat.reduceLeDiff, Nat.reduceEqDiff, Nat.reduceMul, Int.reduceToNat, ↓reduceIte, List.take_of_length_le, if_pos, if_neg, List.getElem?_set_self, List.set_set, cnE, cnV, Tryz.ntmps71, Tryz.results71,  hv, q])
    try exact ⟨rfl, rfl⟩
def stoB (m : List Int) (v : Vi) (V : List Int) : Bool := holdB m v && (decide (V.length = (offF v).length) && V.all fun x => inR x 0 255)
theorem stoB_iff {m : List Int} {v : Vi} {V : List Int} : stoB m v V = true ↔ holdB m v = true ∧ V.length = (offF v).length ∧ ∀ x ∈ V, 0 ≤ x ∧ x ≤ 255 := by
  unfold stoB inR
  simp only [Bool.and_eq_true, decide_eq_true_eq, List.all_eq_true]
def stB3 (m : List Int) (v : Vi) (V : List Int) : Prop := memB m v ∧ V.length < 4294967296
instance (m : List Int) (v : Vi) (V : List Int) : Decidable (stB3 m v V) := by unfold stB3; infer_instance
def gCanS (m : List Int) (v : Vi) (V : List Int) : Option Bool := gd (stB3 m v V) (stoB m v V)
theorem gCanS_eq {m : List Int} {v : Vi} {V : List Int} (h : stB3 m v V) : gCanS m v V = some (stoB m v V) := gd_eq h
theorem canS_can : CanCall Tryz.prog 71 := ⟨_, Tryz.func71, rfl, rfl⟩
theorem len_beq {V : List Int} {v : Vi} (h : shapeOK v.sh = true) : ((V.length : Int) == prodW v.sh) = decide (V.length = (offF v).length) := by
  have := shape_facts h
  rw [Bool.eq_iff_iff, beq_iff_eq, decide_eq_true_eq, offF_len]
  omega
set_option maxHeartbeats 4000000 in
set_option maxRecDepth 100000 in
theorem spec_canStore {Sg : FuncId → Option (List AV → Option AV)} (hS : Sound Tryz.prog Sg) (hh : Sg 41 = some (F2 gHolds)) (hn : Sg 69 = some (F1 gCountOf)) (hv : Sg 72 = some (F1 gIsVal)) (hc : Sg 70 = none) (hf : Sg 97 = none) : ∀ a r, F3 gCanS a = some r → CSpec Tryz.prog 35 a r := by
  refine F3_spec ?_
  intro m v V r hr0
  obtain ⟨⟨h1, h2⟩, rfl⟩ := gd_some hr0
  refine CSpec.intro Tryz.func35 rfl (own _) (vc3_sound Tryz.pf hS hS _ _ _ ?_)
  have q1 := gHolds_eq h1
  unfold stoB
  cases e : holdB m v with
  | false =>
    rw [e] at q1
    repeat' (first | with_reducible first | refine kI (by kernel_rfl) ?_ | refine kN (by kernel_rfl) ?_ | (first | refine kB1 ?_ ?_ | refine kB2 ?_ ?_) <;> intro hp | (first | refine kD1 ?_ ?_ | refine kD2 ?_ ?_ | refine kS1 ?_ ?_ | refine kS2 ?_ ?_) <;> intro hp <;> try simp only [hp] | simp -implicitDefEqProofs (disch := omega) only [go_sem, Nat.reduceAdd, Nat.reduceSub, reduceCtorEq, Nat.reduceLT, Nat.reduceLeDiff, Nat.reduceEqDiff, Nat.reduceMul, Int.reduceToNat, ↓reduceIte, List.take_of_length_le, if_pos, if_neg, List.getElem?_set_self, List.set_set, cnE, cnV, Tryz.ntmps35, Tryz.results35,  hh, q1])
    try rfl
  | true =>
    rw [e] at q1
    have hok := (vOK (fit_in e).2.1).1
    have q2 := gCountOf_eq (l := v.sh) h1.2.1
    have q3 := len_beq (V := V) (v := v) hok
    cases e2 : decide (V.length = (offF v).length) with
    | false =>
      rw [e2] at q3
      repeat' (first | with_reducible first | refine kI (by kernel_rfl) ?_ | refine kN (by kernel_rfl) ?_ | (first | refine kB1 ?_ ?_ | refine kB2 ?_ ?_) <;> intro hp | (first | refine kD1 ?_ ?_ | refine kD2 ?_ ?_ | refine kS1 ?_ ?_ | refine kS2 ?_ ?_) <;> intro hp <;> try simp only [hp] | simp -implicitDefEqProofs (disch := omega) only [go_sem, Nat.reduceAdd, Nat.reduceSub, reduceCtorEq, Nat.reduceLT, Nat.reduceLeDiff, Nat.reduceEqDiff, Nat.reduceMul, Int.reduceToNat, ↓reduceIte, List.take_of_length_le, if_pos, if_neg, List.getElem?_set_self, List.set_set, cnE, cnV, Tryz.ntmps35, Tryz.results35,  hh, q1, hn, q2, q3])
      try rfl
    | true =>
      rw [e2] at q3
      rw [← any_val]
      repeat' (first | with_reducible first | refine kI (by kernel_rfl) ?_ | refine kN (by kernel_rfl) ?_ | (first | refine kB1 ?_ ?_ | refine kB2 ?_ ?_) <;> intro hp | (first | refine kD1 ?_ ?_ | refine kD2 ?_ ?_ | refine kS1 ?_ ?_ | refine kS2 ?_ ?_) <;> intro hp <;> try simp only [hp] | simp -implicitDefEqProofs (disch := omega) only [go_sem, Nat.reduceAdd, Nat.reduceSub, reduceCtorEq, Nat.reduceLT, Nat.reduceLeDiff, Nat.reduceEqDiff, Nat.reduceMul, Int.reduceToNat, ↓reduceIte, List.take_of_length_le, if_pos, if_neg, List.getElem?_set_self, List.set_set, cnE, cnV, Tryz.ntmps35, Tryz.results35,  hh, q1, hn, q2, q3, hc, opQ_none])
      refine InlK_intro rfl rfl can_ContainsFunc ((ispec_ContainsFunc hS hf canS_can (fun x L => isp_canStore1 hS hv x L) 0 V h2 _).mono ?_)
      rintro r L' ⟨rfl, rfl⟩
      repeat' (first | with_reducible first | refine kI (by kernel_rfl) ?_ | refine kN (by kernel_rfl) ?_ | (first | refine kB1 ?_ ?_ | refine kB2 ?_ ?_) <;> intro hp | (first | refine kD1 ?_ ?_ | refine kD2 ?_ ?_ | refine kS1 ?_ ?_ | refine kS2 ?_ ?_) <;> intro hp <;> try simp only [hp] | simp -implicitDefEqProofs (disch := omega) only [go_sem, Nat.reduceAdd, Nat.reduceSub, reduceCtorEq, Nat.reduceLT, Nat.reduceLeDiff, Nat.reduceEqDiff, Nat.reduceMul, Int.reduceToNat, ↓reduceIte, List.take_of_length_le, if_pos, if_neg, List.getElem?_set_self, List.set_set, cnE, cnV, Tryz.ntmps35, Tryz.results35])
      try rfl
def storR (m : List Int) (v : Vi) (V : List Int) : List Int × Bool := if stoB m v V = true then (stoV m v V, true) else ([], false)
def gStore (m : List Int) (v : Vi) (V : List Int) : Option (List Int × Bool) := gd (stB3 m v V) (storR m v V)
theorem gStore_eq {m : List Int} {v : Vi} {V : List Int} (h : stB3 m v V) : gStore m v V = some (storR m v V) := gd_eq h
set_option maxHeartbeats 4000000 in
set_option maxRecDepth 100000 in
theorem spec_StoreViewI {Sg : FuncId → Option (List AV → Option AV)} (hS : Sound Tryz.prog Sg) (hc : Sg 35 = some (F3 gCanS)) (hs : Sg 36 = some (F3 gStoI)) : ∀ a r, F3 gStore a = some r → CSpec Tryz.prog 10 a r := by
  refine F3_spec ?_
  intro m v V r hr0
  obtain ⟨h, rfl⟩ := gd_some hr0
  refine CSpec.intro Tryz.func10 rfl (own _) (vc3_sound Tryz.pf hS hS _ _ _ ?_)
  have q1 := gCanS_eq h
  unfold storR
  cases e : stoB m v V with
  | false =>
    rw [e] at q1
    rw [if_neg (by simp)]
    repeat' (first | with_reducible first | refine kI (by kernel_rfl) ?_ | refine kN (by kernel_rfl) ?_ | (first | refine kB1 ?_ ?_ | refine kB2 ?_ ?_) <;> intro hp | (first | refine kD1 ?_ ?_ | refine kD2 ?_ ?_ | refine kS1 ?_ ?_ | refine kS2 ?_ ?_) <;> intro hp <;> try simp only [hp] | simp -implicitDefEqProofs (disch := omega) only [go_sem, Nat.reduceAdd, Nat.reduceSub, reduceCtorEq, Nat.reduceLT, Nat.reduceLeDiff, Nat.reduceEqDiff, Nat.reduceMul, Int.reduceToNat, ↓reduceIte, List.take_of_length_le, if_pos, if_neg, List.getElem?_set_self, List.set_set, cnE, cnV, Tryz.ntmps10, Tryz.results10,  hc, q1])
  | true =>
    rw [e] at q1
    rw [if_pos rfl]
    obtain ⟨e1, e2, e3⟩ := stoB_iff.1 e
    have q2 := gStoI_eq ⟨e1, e2⟩
    repeat' (first | with_reducible first | refine kI (by kernel_rfl) ?_ | refine kN (by kernel_rfl) ?_ | (first | refine kB1 ?_ ?_ | refine kB2 ?_ ?_) <;> intro hp | (first | refine kD1 ?_ ?_ | refine kD2 ?_ ?_ | refine kS1 ?_ ?_ | refine kS2 ?_ ?_) <;> intro hp <;> try simp only [hp] | simp -implicitDefEqProofs (disch := omega) only [go_sem, Nat.reduceAdd, Nat.reduceSub, reduceCtorEq, Nat.reduceLT, Nat.reduceLeDiff, Nat.reduceEqDiff, Nat.reduceMul, Int.reduceToNat, ↓reduceIte, List.take_of_length_le, if_pos, if_neg, List.getElem?_set_self, List.set_set, cnE, cnV, Tryz.ntmps10, Tryz.results10,  hc, q1, hs, q2])
set_option maxHeartbeats 4000000 in
set_option maxRecDepth 100000 in
theorem spec_StoreViewS {Sg : FuncId → Option (List AV → Option AV)} (hS : Sound Tryz.prog Sg) (hh : Sg 37 = some (F2 gHolds)) (hn : Sg 38 = some (F1 gCount)) (ha : Sg 39 = some (F3 gAllIn)) (hs : Sg 40 = some (F3 gStoI)) : ∀ a r, F3 gStore a = some r → CSpec Tryz.prog 11 a r := by
  refine F3_spec ?_
  intro m v V r hr0
  obtain ⟨⟨h1, h2⟩, rfl⟩ := gd_some hr0
  refine CSpec.intro Tryz.func11 rfl (own _) (vc3_sound Tryz.pf hS hS _ _ _ ?_)
  have q1 := gHolds_eq h1
  unfold storR stoB
  cases e : holdB m v with
  | false =>
    rw [e] at q1
    rw [if_neg (by simp)]
    repeat' (first | with_reducible first | refine kI (by kernel_rfl) ?_ | refine kN (by kernel_rfl) ?_ | (first | refine kB1 ?_ ?_ | refine kB2 ?_ ?_) <;> intro hp | (first | refine kD1 ?_ ?_ | refine kD2 ?_ ?_ | refine kS1 ?_ ?_ | refine kS2 ?_ ?_) <;> intro hp <;> try simp only [hp] | simp -implicitDefEqProofs (disch := omega) only [go_sem, Nat.reduceAdd, Nat.reduceSub, reduceCtorEq, Nat.reduceLT, Nat.reduceLeDiff, Nat.reduceEqDiff, Nat.reduceMul, Int.reduceToNat, ↓reduceIte, List.take_of_length_le, if_pos, if_neg, List.getElem?_set_self, List.set_set, cnE, cnV, Tryz.ntmps11, Tryz.results11,  hh, q1])
  | true =>
    rw [e] at q1
    have hok := (vOK (fit_in e).2.1).1
    have q2 := gCount_eq (l := v.sh) h1.2.1
    have q3 := len_beq (V := V) (v := v) hok
    cases e2 : decide (V.length = (offF v).length) with
    | false =>
      rw [e2] at q3
      rw [if_neg (by simp)]
      repeat' (first | with_reducible first | refine kI (by kernel_rfl) ?_ | refine kN (by kernel_rfl) ?_ | (first | refine kB1 ?_ ?_ | refine kB2 ?_ ?_) <;> intro hp | (first | refine kD1 ?_ ?_ | refine kD2 ?_ ?_ | refine kS1 ?_ ?_ | refine kS2 ?_ ?_) <;> intro hp <;> try simp only [hp] | simp -implicitDefEqProofs (disch := omega) only [go_sem, Nat.reduceAdd, Nat.reduceSub, reduceCtorEq, Nat.reduceLT, Nat.reduceLeDiff, Nat.reduceEqDiff, Nat.reduceMul, Int.reduceToNat, ↓reduceIte, List.take_of_length_le, if_pos, if_neg, List.getElem?_set_self, List.set_set, cnE, cnV, Tryz.ntmps11, Tryz.results11,  hh, q1, hn, q2, q3])
    | true =>
      rw [e2] at q3
      have q4 := gAllIn_eq h2 0 255
      cases e4 : (V.all fun x => inR x 0 255) with
      | false =>
        rw [e4] at q4
        rw [if_neg (by simp)]
        repeat' (first | with_reducible first | refine kI (by kernel_rfl) ?_ | refine kN (by kernel_rfl) ?_ | (first | refine kB1 ?_ ?_ | refine kB2 ?_ ?_) <;> intro hp | (first | refine kD1 ?_ ?_ | refine kD2 ?_ ?_ | refine kS1 ?_ ?_ | refine kS2 ?_ ?_) <;> intro hp <;> try simp only [hp] | simp -implicitDefEqProofs (disch := omega) only [go_sem, Nat.reduceAdd, Nat.reduceSub, reduceCtorEq, Nat.reduceLT, Nat.reduceLeDiff, Nat.reduceEqDiff, Nat.reduceMul, Int.reduceToNat, ↓reduceIte, List.take_of_length_le, if_pos, if_neg, List.getElem?_set_self, List.set_set, cnE, cnV, Tryz.ntmps11, Tryz.results11,  hh, q1, hn, q2, q3, ha, q4])
      | true =>
        rw [e4] at q4
        rw [if_pos (by simp)]
        have q5 := gStoI_eq (m := m) (v := v) (V := V) ⟨e, of_decide_eq_true e2⟩
        repeat' (first | with_reducible first | refine kI (by kernel_rfl) ?_ | refine kN (by kernel_rfl) ?_ | (first | refine kB1 ?_ ?_ | refine kB2 ?_ ?_) <;> intro hp | (first | refine kD1 ?_ ?_ | refine kD2 ?_ ?_ | refine kS1 ?_ ?_ | refine kS2 ?_ ?_) <;> intro hp <;> try simp only [hp] | simp -implicitDefEqProofs (disch := omega) only [go_sem, Nat.reduceAdd, Nat.reduceSub, reduceCtorEq, Nat.reduceLT, Nat.reduceLeDiff, Nat.reduceEqDiff, Nat.reduceMul, Int.reduceToNat, ↓reduceIte, List.take_of_length_le, if_pos, if_neg, List.getElem?_set_self, List.set_set, cnE, cnV, Tryz.ntmps11, Tryz.results11,  hh, q1, hn, q2, q3, ha, q4, hs, q5])
end Go.Proofs.YtgpflkmelindfaaGreat
namespace Go.Proofs.YtgpflkmelindfaaGreat
open Go Go.Ev Go.RowKit Go.Ev.Enc Go.Pl

/-! ### copies -/
def cpyB (m : List Int) (a b : Vi) : Bool := holdB m a && (holdB m b && decide (a.sh = b.sh))
theorem cpyB_iff {m : List Int} {a b : Vi} : cpyB m a b = true ↔ holdB m a = true ∧ holdB m b = true ∧ a.sh = b.sh := by
  unfold cpyB
  rw [Bool.and_eq_true, Bool.and_eq_true, decide_eq_true_eq]
def mB2 (m : List Int) (a b : Vi) : Prop := m.length < 4294967296 ∧ viB2 a b
instance (m : List Int) (a b : Vi) : Decidable (mB2 m a b) := by unfold mB2; infer_instance
def gCanC (m : List Int) (a b : Vi) : Option Bool := gd (mB2 m a b) (cpyB m a b)
theorem gCanC_eq {m : List Int} {a b : Vi} (h : mB2 m a b) : gCanC m a b = some (cpyB m a b) := gd_eq h
set_option maxHeartbeats 4000000 in
set_option maxRecDepth 100000 in
theorem spec_pair {Sg : FuncId → Option (List AV → Option AV)} (hS : Sound Tryz.prog Sg) (hh : Sg 37 = some (F2 gHolds)) (he : Sg 86 = some (F2 gEqInts)) : ∀ a r, F3 gCanC a = some r → CSpec Tryz.prog 50 a r := by
  refine F3_spec ?_
  intro m a b r hr0
  obtain ⟨⟨h1, h2⟩, rfl⟩ := gd_some hr0
  refine CSpec.intro Tryz.func50 rfl (own _) (vc3_sound Tryz.pf hS hS _ _ _ ?_)
  have q1 := gHolds_eq (m := m) (v := a) ⟨h1, h2.1⟩
  have q2 := gHolds_eq (m := m) (v := b) ⟨h1, h2.2⟩
  have q3 := gEqInts_eq (a := a.sh) (b := b.sh) ⟨h2.1.1, h2.2.1⟩
  unfold cpyB
  cases e1 : holdB m a with
  | false =>
    rw [e1] at q1
    repeat' (first | with_reducible first | refine kI (by kernel_rfl) ?_ | refine kN (by kernel_rfl) ?_ | (first | refine kB1 ?_ ?_ | refine kB2 ?_ ?_) <;> intro hp | (first | refine kD1 ?_ ?_ | refine kD2 ?_ ?_ | refine kS1 ?_ ?_ | refine kS2 ?_ ?_) <;> intro hp <;> try simp only [hp] | simp -implicitDefEqProofs (disch := omega) only [go_sem, Nat.reduceAdd, Nat.reduceSub, reduceCtorEq, Nat.reduceLT, Nat.reduceLeDiff, Nat.reduceEqDiff, Nat.reduceMul, Int.reduceToNat, ↓reduceIte, List.take_of_length_le, if_pos, if_neg, List.getElem?_set_self, List.set_set, cnE, cnV, Tryz.ntmps50, Tryz.results50,  hh, q1])
    try rfl
  | true =>
    rw [e1] at q1
    cases e2 : holdB m b with
    | false =>
      rw [e2] at q2
      repeat' (first | with_reducible first | refine kI (by kernel_rfl) ?_ | refine kN (by kernel_rfl) ?_ | (first | refine kB1 ?_ ?_ | refine kB2 ?_ ?_) <;> intro hp | (first | refine kD1 ?_ ?_ | refine kD2 ?_ ?_ | refine kS1 ?_ ?_ | refine kS2 ?_ ?_) <;> intro hp <;> try simp only [hp] | simp -implicitDefEqProofs (disch := omega) only [go_sem, Nat.reduceAdd, Nat.reduceSub, reduceCtorEq, Nat.reduceLT, Nat.reduceLeDiff, Nat.reduceEqDiff, Nat.reduceMul, Int.reduceToNat, ↓reduceIte, List.take_of_length_le, if_pos, if_neg, List.getElem?_set_self, List.set_set, cnE, cnV, Tryz.ntmps50, Tryz.results50,  hh, q1, q2])
      try rfl
    | true =>
      rw [e2] at q2
      repeat' (first | with_reducible first | refine kI (by kernel_rfl) ?_ | refine kN (by kernel_rfl) ?_ | (first | refine kB1 ?_ ?_ | refine kB2 ?_ ?_) <;> intro hp | (first | refine kD1 ?_ ?_ | refine kD2 ?_ ?_ | refine kS1 ?_ ?_ | refine kS2 ?_ ?_) <;> intro hp <;> try simp only [hp] | simp -implicitDefEqProofs (disch := omega) only [go_sem, Nat.reduceAdd, Nat.reduceSub, reduceCtorEq, Nat.reduceLT, Nat.reduceLeDiff, Nat.reduceEqDiff, Nat.reduceMul, Int.reduceToNat, ↓reduceIte, List.take_of_length_le, if_pos, if_neg, List.getElem?_set_self, List.set_set, cnE, cnV, Tryz.ntmps50, Tryz.results50,  hh, q1, q2, he, q3])
      try rfl
set_option maxHeartbeats 4000000 in
set_option maxRecDepth 100000 in
theorem spec_canCopy {Sg : FuncId → Option (List AV → Option AV)} (hS : Sound Tryz.prog Sg) (hh : Sg 41 = some (F2 gHolds)) (he : Sg 56 = some (F2 gEqInts)) : ∀ a r, F3 gCanC a = some r → CSpec Tryz.prog 49 a r := by
  refine F3_spec ?_
  intro m a b r hr0
  obtain ⟨⟨h1, h2⟩, rfl⟩ := gd_some hr0
  refine CSpec.intro Tryz.func49 rfl (own _) (vc3_sound Tryz.pf hS hS _ _ _ ?_)
  have q1 := gHolds_eq (m := m) (v := a) ⟨h1, h2.1⟩
  have q2 := gHolds_eq (m := m) (v := b) ⟨h1, h2.2⟩
  have q3 := gEqInts_eq (a := a.sh) (b := b.sh) ⟨h2.1.1, h2.2.1⟩
  unfold cpyB
  cases e1 : holdB m a with
  | false =>
    rw [e1] at q1
    repeat' (first | with_reducible first | refine kI (by kernel_rfl) ?_ | refine kN (by kernel_rfl) ?_ | (first | refine kB1 ?_ ?_ | refine kB2 ?_ ?_) <;> intro hp | (first | refine kD1 ?_ ?_ | refine kD2 ?_ ?_ | refine kS1 ?_ ?_ | refine kS2 ?_ ?_) <;> intro hp <;> try simp only [hp] | simp -implicitDefEqProofs (disch := omega) only [go_sem, Nat.reduceAdd, Nat.reduceSub, reduceCtorEq, Nat.reduceLT, Nat.reduceLeDiff, Nat.reduceEqDiff, Nat.reduceMul, Int.reduceToNat, ↓reduceIte, List.take_of_length_le, if_pos, if_neg, List.getElem?_set_self, List.set_set, cnE, cnV, Tryz.ntmps49, Tryz.results49,  hh, q1])
    try rfl
  | true =>
    rw [e1] at q1
    cases e2 : holdB m b with
    | false =>
      rw [e2] at q2
      repeat' (first | with_reducible first | refine kI (by kernel_rfl) ?_ | refine kN (by kernel_rfl) ?_ | (first | refine kB1 ?_ ?_ | refine kB2 ?_ ?_) <;> intro hp | (first | refine kD1 ?_ ?_ | refine kD2 ?_ ?_ | refine kS1 ?_ ?_ | refine kS2 ?_ ?_) <;> intro hp <;> try simp only [hp] | simp -implicitDefEqProofs (disch := omega) only [go_sem, Nat.reduceAdd, Nat.reduceSub, reduceCtorEq, Nat.reduceLT, Nat.reduceLeDiff, Nat.reduceEqDiff, Nat.reduceMul, Int.reduceToNat, ↓reduceIte, List.take_of_length_le, if_pos, if_neg, List.getElem?_set_self, List.set_set, cnE, cnV, Tryz.ntmps49, Tryz.results49,  hh, q1, q2])
      try rfl
    | true =>
      rw [e2] at q2
      repeat' (first | with_reducible first | refine kI (by kernel_rfl) ?_ | refine kN (by kernel_rfl) ?_ | (first | refine kB1 ?_ ?_ | refine kB2 ?_ ?_) <;> intro hp | (first | refine kD1 ?_ ?_ | refine kD2 ?_ ?_ | refine kS1 ?_ ?_ | refine kS2 ?_ ?_) <;> intro hp <;> try simp only [hp] | simp -implicitDefEqProofs (disch := omega) only [go_sem, Nat.reduceAdd, Nat.reduceSub, reduceCtorEq, Nat.reduceLT, Nat.reduceLeDiff, Nat.reduceEqDiff, Nat.reduceMul, Int.reduceToNat, ↓reduceIte, List.take_of_length_le, if_pos, if_neg, List.getElem?_set_self, List.set_set, cnE, cnV, Tryz.ntmps49, Tryz.results49,  hh, q1, q2, he, q3])
      try rfl
theorem len_off {a b : Vi} (h : a.sh = b.sh) : (offF b).length = (offF a).length := by rw [offF_len, offF_len, h]
def cpyR (m : List Int) (a b : Vi) : List Int × Bool := if cpyB m a b = true then (stoV m a (tkn m (offF b)), true) else ([], false)
def gCopy (m : List Int) (a b : Vi) : Option (List Int × Bool) := gd (mB2 m a b) (cpyR m a b)
theorem gCopy_eq {m : List Int} {a b : Vi} (h : mB2 m a b) : gCopy m a b = some (cpyR m a b) := gd_eq h
set_option maxHeartbeats 4000000 in
set_option maxRecDepth 100000 in
theorem spec_CopyViewS {Sg : FuncId → Option (List AV → Option AV)} (hS : Sound Tryz.prog Sg) (hc : Sg 50 = some (F3 gCanC)) (hl : Sg 51 = some (F2 gLoadI)) (hs : Sg 40 = some (F3 gStoI)) : ∀ a r, F3 gCopy a = some r → CSpec Tryz.prog 20 a r := by
  refine F3_spec ?_
  intro m a b r hr0
  obtain ⟨h, rfl⟩ := gd_some hr0
  refine CSpec.intro Tryz.func20 rfl (own _) (vc3_sound Tryz.pf hS hS _ _ _ ?_)
  have q1 := gCanC_eq h
  unfold cpyR
  cases e : cpyB m a b with
  | false =>
    rw [e] at q1
    rw [if_neg (by simp)]
    repeat' (first | with_reducible first | refine kI (by kernel_rfl) ?_ | refine kN (by kernel_rfl) ?_ | (first | refine kB1 ?_ ?_ | refine kB2 ?_ ?_) <;> intro hp | (first | refine kD1 ?_ ?_ | refine kD2 ?_ ?_ | refine kS1 ?_ ?_ | refine kS2 ?_ ?_) <;> intro hp <;> try simp only [hp] | simp -implicitDefEqProofs (disch := omega) only [go_sem, Nat.reduceAdd, Nat.reduceSub, reduceCtorEq, Nat.reduceLT, Nat.reduceLeDiff, Nat.reduceEqDiff, Nat.reduceMul, Int.reduceToNat, ↓reduceIte, List.take_of_length_le, if_pos, if_neg, List.getElem?_set_self, List.set_set, cnE, cnV, Tryz.ntmps20, Tryz.results20,  hc, q1])
  | true =>
    rw [e] at q1
    rw [if_pos rfl]
    obtain ⟨e1, e2, e3⟩ := cpyB_iff.1 e
    have q2 := gLoadI_eq e2
    have q3 := gStoI_eq (m := m) (v := a) (V := tkn m (offF b)) ⟨e1, by rw [tkn_len, len_off e3]⟩
    repeat' (first | with_reducible first | refine kI (by kernel_rfl) ?_ | refine kN (by kernel_rfl) ?_ | (first | refine kB1 ?_ ?_ | refine kB2 ?_ ?_) <;> intro hp | (first | refine kD1 ?_ ?_ | refine kD2 ?_ ?_ | refine kS1 ?_ ?_ | refine kS2 ?_ ?_) <;> intro hp <;> try simp only [hp] | simp -implicitDefEqProofs (disch := omega) only [go_sem, Nat.reduceAdd, Nat.reduceSub, reduceCtorEq, Nat.reduceLT, Nat.reduceLeDiff, Nat.reduceEqDiff, Nat.reduceMul, Int.reduceToNat, ↓reduceIte, List.take_of_length_le, if_pos, if_neg, List.getElem?_set_self, List.set_set, cnE, cnV, Tryz.ntmps20, Tryz.results20,  hc, q1, hl, q2, hs, q3])
set_option maxHeartbeats 4000000 in
set_option maxRecDepth 100000 in
theorem spec_CopyViewI {Sg : FuncId → Option (List AV → Option AV)} (hS : Sound Tryz.prog Sg) (hc : Sg 49 = some (F3 gCanC)) (hl : Sg 42 = some (F2 gLoadI)) (hs : Sg 36 = some (F3 gStoI)) : ∀ a r, F3 gCopy a = some r → CSpec Tryz.prog 19 a r := by
  refine F3_spec ?_
  intro m a b r hr0
  obtain ⟨h, rfl⟩ := gd_some hr0
  refine CSpec.intro Tryz.func19 rfl (own _) (vc3_sound Tryz.pf hS hS _ _ _ ?_)
  have q1 := gCanC_eq h
  unfold cpyR
  cases e : cpyB m a b with
  | false =>
    rw [e] at q1
    rw [if_neg (by simp)]
    repeat' (first | with_reducible first | refine kI (by kernel_rfl) ?_ | refine kN (by kernel_rfl) ?_ | (first | refine kB1 ?_ ?_ | refine kB2 ?_ ?_) <;> intro hp | (first | refine kD1 ?_ ?_ | refine kD2 ?_ ?_ | refine kS1 ?_ ?_ | refine kS2 ?_ ?_) <;> intro hp <;> try simp only [hp] | simp -implicitDefEqProofs (disch := omega) only [go_sem, Nat.reduceAdd, Nat.reduceSub, reduceCtorEq, Nat.reduceLT, Nat.reduceLeDiff, Nat.reduceEqDiff, Nat.reduceMul, Int.reduceToNat, ↓reduceIte, List.take_of_length_le, if_pos, if_neg, List.getElem?_set_self, List.set_set, cnE, cnV, Tryz.ntmps19, Tryz.results19,  hc, q1])
  | true =>
    rw [e] at q1
    rw [if_pos rfl]
    obtain ⟨e1, e2, e3⟩ := cpyB_iff.1 e
    have q2 := gLoadI_eq e2
    have q3 := gStoI_eq (m := m) (v := a) (V := tkn m (offF b)) ⟨e1, by rw [tkn_len, len_off e3]⟩
    repeat' (first | with_reducible first | refine kI (by kernel_rfl) ?_ | refine kN (by kernel_rfl) ?_ | (first | refine kB1 ?_ ?_ | refine kB2 ?_ ?_) <;> intro hp | (first | refine kD1 ?_ ?_ | refine kD2 ?_ ?_ | refine kS1 ?_ ?_ | refine kS2 ?_ ?_) <;> intro hp <;> try simp only [hp] | simp -implicitDefEqProofs (disch := omega) only [go_sem, Nat.reduceAdd, Nat.reduceSub, reduceCtorEq, Nat.reduceLT, Nat.reduceLeDiff, Nat.reduceEqDiff, Nat.reduceMul, Int.reduceToNat, ↓reduceIte, List.take_of_length_le, if_pos, if_neg, List.getElem?_set_self, List.set_set, cnE, cnV, Tryz.ntmps19, Tryz.results19,  hc, q1, hl, q2, hs, q3])
/-- cells copied one by one in an order -/
def cpT (m A B O : List Int) : Nat → List Int
  | 0 => m
  | k + 1 => (cpT m A B O k).set (A.getD (O.getD k 0).toNat 0).toNat ((cpT m A B O k).getD (B.getD (O.getD k 0).toNat 0).toNat 0)
theorem cpT_len (m A B O : List Int) : ∀ k, (cpT m A B O k).length = m.length
  | 0 => rfl
  | k + 1 => by rw [cpT, List.length_set, cpT_len m A B O k]
instance (A : List Int) (n : Nat) : Decidable (inM A n) := by unfold inM; infer_instance
def stB4 (m A B O : List Int) : Prop := (m.length ≤ 1000 ∧ A.length < 4294967296 ∧ B.length < 4294967296 ∧ O.length < 4294967296) ∧ inM A m.length ∧ inM B m.length ∧ inM O A.length ∧ inM O B.length
instance (m A B O : List Int) : Decidable (stB4 m A B O) := by unfold stB4; infer_instance
def gStep (m A B O : List Int) : Option (List Int) := gd (stB4 m A B O) (cpT m A B O O.length)
theorem gStep_eq {m A B O : List Int} (h : stB4 m A B O) : gStep m A B O = some (cpT m A B O O.length) := gd_eq h
set_option maxHeartbeats 4000000 in
set_option maxRecDepth 100000 in
theorem law_stepped {Sg : FuncId → Option (List AV → Option AV)} (hS : Sound Tryz.prog Sg) (n1 : Sg 77 = none) : ∀ a r, F4 gStep a = some r → CSpec Tryz.prog 53 a r := by
  refine F4_spec ?_
  intro m A B O r hr0
  obtain ⟨⟨⟨h1, h2, h3, h4⟩, hA, hB, hOA, hOB⟩, rfl⟩ := gd_some hr0
  refine CSpec.intro Tryz.func53 rfl (own _) (vc3_sound Tryz.pf hS hS _ _ _ ?_)
  repeat' (first | with_reducible first | refine kI (by kernel_rfl) ?_ | refine kN (by kernel_rfl) ?_ | (first | refine kB1 ?_ ?_ | refine kB2 ?_ ?_) <;> intro hp | (first | refine kD1 ?_ ?_ | refine kD2 ?_ ?_ | refine kS1 ?_ ?_ | refine kS2 ?_ ?_) <;> intro hp <;> try simp only [hp] | simp -implicitDefEqProofs (disch := omega) only [go_sem, Nat.reduceAdd, Nat.reduceSub, reduceCtorEq, Nat.reduceLT, Nat.reduceLeDiff, Nat.reduceEqDiff, Nat.reduceMul, Int.reduceToNat, ↓reduceIte, List.take_of_length_le, if_pos, if_neg, List.getElem?_set_self, List.set_set, cnE, cnV, Tryz.ntmps53, Tryz.results53,  n1, opQ_none])
  refine InlK_intro rfl rfl can_copyV ((o_copyInts hS m (by omega)).call (by simp only [go_sem, ints]) ?_)
  repeat' (first | with_reducible first | refine kI (by kernel_rfl) ?_ | refine kN (by kernel_rfl) ?_ | (first | refine kB1 ?_ ?_ | refine kB2 ?_ ?_) <;> intro hp | (first | refine kD1 ?_ ?_ | refine kD2 ?_ ?_ | refine kS1 ?_ ?_ | refine kS2 ?_ ?_) <;> intro hp <;> try simp only [hp] | simp -implicitDefEqProofs (disch := omega) only [go_sem, Nat.reduceAdd, Nat.reduceSub, reduceCtorEq, Nat.reduceLT, Nat.reduceLeDiff, Nat.reduceEqDiff, Nat.reduceMul, Int.reduceToNat, ↓reduceIte, List.take_of_length_le, if_pos, if_neg, List.getElem?_set_self, List.set_set, cnE, cnV, Tryz.ntmps53, Tryz.results53])
  refine LoopQ.mix (fun t0 L0 nn ss => ∃ (k : Nat) (_ : Unit), (∃ x : Nat → AV, ss = ⟨mixL 0 (.k :: .k :: .k :: .k :: .k :: .k :: .k :: .k :: .k :: .k :: .v (i64 (k : Nat)) :: .k :: .k :: .s :: .s :: .s :: .s :: .s :: .s :: .s :: .s :: .s :: .s :: .s :: .s :: .s :: .s :: .s :: .s :: .s :: .s :: .s :: .s :: .s :: .s :: .s :: .s :: .s :: .k :: []) t0 x, [⟨1, (cpT m A B O k).map fun n => .int .i64 n⟩]⟩) ∧ (k ≤ O.length) ∧ nn = O.length - k) ?_ ?_
  · exact ⟨_, ⟨0, (), mixI rfl, Nat.zero_le _, rfl⟩⟩
  · rintro I0 hI0 nn s ⟨k, _, ⟨x, rfl⟩, g1, rfl⟩
    have hl := cpT_len m A B O k
    by_cases hk : k < O.length
    · have hki : (k : Int) < (O.length : Int) := by omega
      obtain ⟨i, hi, hiA⟩ := in_at hOA hk
      obtain ⟨i', hi', hiB⟩ := in_at hOB hk
      obtain rfl : i = i' := by omega
      obtain ⟨p, hp, hpm⟩ := in_at hA hiA
      obtain ⟨q, hq, hqm⟩ := in_at hB hiB
      have hs : (cpT m A B O k).set p ((cpT m A B O k).getD q 0) = cpT m A B O (k + 1) := by rw [cpT, hi, Int.toNat_natCast, hp, hq, Int.toNat_natCast, Int.toNat_natCast]
      have hpl : p < (cpT m A B O k).length := by omega
      have hql : q < (cpT m A B O k).length := by omega
      repeat' (first | with_reducible first | refine kI (by kernel_rfl) ?_ | (first | refine kB1 ?_ ?_ | refine kB2 ?_ ?_) <;> intro hp | (first | refine kD1 ?_ ?_ | refine kD2 ?_ ?_ | refine kS1 ?_ ?_ | refine kS2 ?_ ?_) <;> intro hp <;> try simp only [hp] | simp -implicitDefEqProofs (disch := omega) only [go_sem, Nat.reduceAdd, Nat.reduceSub, reduceCtorEq, Nat.reduceLT, Nat.reduceLeDiff, Nat.reduceEqDiff, Nat.reduceMul, Int.reduceToNat, ↓reduceIte, List.take_of_length_le, if_pos, if_neg, List.getElem?_set_self, List.set_set, cnE, cnV, Tryz.ntmps53, Tryz.results53,  hki])
      refine DrawQ.any [([0, 1, 2, 3, 4, 5, 6, 7, 8, 9, 10, 11, 12, 13, 14, 15, 16, 17, 18], 19)] [] [] (by kernel_rfl) ?_
      repeat' (first | with_reducible first | refine kI (by kernel_rfl) ?_ | (first | refine kB1 ?_ ?_ | refine kB2 ?_ ?_) <;> intro hp | (first | refine kD1 ?_ ?_ | refine kD2 ?_ ?_ | refine kS1 ?_ ?_ | refine kS2 ?_ ?_) <;> intro hp <;> try simp only [hp] | simp -implicitDefEqProofs (disch := omega) only [go_sem, Nat.reduceAdd, Nat.reduceSub, reduceCtorEq, Nat.reduceLT, Nat.reduceLeDiff, Nat.reduceEqDiff, Nat.reduceMul, Int.reduceToNat, ↓reduceIte, List.take_of_length_le, if_pos, if_neg, List.getElem?_set_self, List.set_set, cnE, cnV, Tryz.ntmps53, Tryz.results53,  getD_ints hk, hi, getD_ints hiA, getD_ints hiB, hp, hq, hl, hpm, hqm, getD_ints hql, hs])
      exact ⟨O.length - (k + 1), by omega, hI0 _ _ ⟨k + 1, (), mixI rfl, hk, rfl⟩⟩
    · obtain rfl : k = O.length := by omega
      repeat' (first | with_reducible first | refine kI (by kernel_rfl) ?_ | refine kN (by kernel_rfl) ?_ | (first | refine kB1 ?_ ?_ | refine kB2 ?_ ?_) <;> intro hp | (first | refine kD1 ?_ ?_ | refine kD2 ?_ ?_ | refine kS1 ?_ ?_ | refine kS2 ?_ ?_) <;> intro hp <;> try simp only [hp] | simp -implicitDefEqProofs (disch := omega) only [go_sem, Nat.reduceAdd, Nat.reduceSub, reduceCtorEq, Nat.reduceLT, Nat.reduceLeDiff, Nat.reduceEqDiff, Nat.reduceMul, Int.reduceToNat, ↓reduceIte, List.take_of_length_le, if_pos, if_neg, List.getElem?_set_self, List.set_set, cnE, cnV, Tryz.ntmps53, Tryz.results53,  hl])
set_option maxHeartbeats 4000000 in
set_option maxRecDepth 100000 in
theorem spec_stepped {Sg : FuncId → Option (List AV → Option AV)} (hS : Sound Tryz.prog Sg) : ∀ a r, F4 gStep a = some r → CSpec Tryz.prog 53 a r := by
  exact law_stepped (hS.hide 77) (if_pos rfl)
def fwdR (m : List Int) (a b : Vi) : List Int × Bool := if cpyB m a b = true then (cpT m (offF a) (offF b) (upV (offF a).length) (offF a).length, true) else ([], false)
def bwdR (m : List Int) (a b : Vi) : List Int × Bool := if cpyB m a b = true then (cpT m (offF a) (offF b) (upV (offF a).length).reverse (offF a).length, true) else ([], false)
def gFwd (m : List Int) (a b : Vi) : Option (List Int × Bool) := gd (mB2 m a b) (fwdR m a b)
theorem gFwd_eq {m : List Int} {a b : Vi} (h : mB2 m a b) : gFwd m a b = some (fwdR m a b) := gd_eq h
def gBwd (m : List Int) (a b : Vi) : Option (List Int × Bool) := gd (mB2 m a b) (bwdR m a b)
theorem gBwd_eq {m : List Int} {a b : Vi} (h : mB2 m a b) : gBwd m a b = some (bwdR m a b) := gd_eq h
theorem upV_in (n : Nat) : inM (upV n) n := fun x hx => upV_mem.1 hx
theorem upR_in (n : Nat) : inM (upV n).reverse n := fun x hx => upV_mem.1 (List.mem_reverse.1 hx)
theorem upR_at {n k : Nat} (h : k < n) : (upV n).reverse.getD k 0 = ((n - 1 - k : Nat) : Int) := by
  rw [List.getD_eq_getElem?_getD, List.getElem?_reverse (by rw [upV_len]; exact h), upV_len, ← List.getD_eq_getElem?_getD, upV_at (by omega)]
theorem off_cnt {a : Vi} (h : shapeOK a.sh = true) : prodW a.sh = ((offF a).length : Int) := by
  have := shape_facts h
  rw [offF_len]; omega
set_option maxHeartbeats 4000000 in
set_option maxRecDepth 100000 in
theorem spec_CopyForwardS {Sg : FuncId → Option (List AV → Option AV)} (hS : Sound Tryz.prog Sg) (hc : Sg 50 = some (F3 gCanC)) (ho : Sg 54 = some (F1 gOffsets)) (hn : Sg 38 = some (F1 gCount)) (hu : Sg 55 = some (F1 gUpV)) (hs : Sg 53 = some (F4 gStep)) : ∀ a r, F3 gFwd a = some r → CSpec Tryz.prog 23 a r := by
  refine F3_spec ?_
  intro m a b r hr0
  obtain ⟨h, rfl⟩ := gd_some hr0
  refine CSpec.intro Tryz.func23 rfl (own _) (vc3_sound Tryz.pf hS hS _ _ _ ?_)
  have q1 := gCanC_eq h
  unfold fwdR
  cases e : cpyB m a b with
  | false =>
    rw [e] at q1
    rw [if_neg (by simp)]
    repeat' (first | with_reducible first | refine kI (by kernel_rfl) ?_ | refine kN (by kernel_rfl) ?_ | (first | refine kB1 ?_ ?_ | refine kB2 ?_ ?_) <;> intro hp | (first | refine kD1 ?_ ?_ | refine kD2 ?_ ?_ | refine kS1 ?_ ?_ | refine kS2 ?_ ?_) <;> intro hp <;> try simp only [hp] | simp -implicitDefEqProofs (disch := omega) only [go_sem, Nat.reduceAdd, Nat.reduceSub, reduceCtorEq, Nat.reduceLT, Nat.reduceLeDiff, Nat.reduceEqDiff, Nat.reduceMul, Int.reduceToNat, ↓reduceIte, List.take_of_length_le, if_pos, if_neg, List.getElem?_set_self, List.set_set, cnE, cnV, Tryz.ntmps23, Tryz.results23,  hc, q1])
  | true =>
    rw [e] at q1
    rw [if_pos rfl]
    obtain ⟨e1, e2, e3⟩ := cpyB_iff.1 e
    obtain ⟨f1, f2, f3⟩ := fit_in e1
    obtain ⟨f4, f5, f6⟩ := fit_in e2
    have hm := (memOK_iff.1 f1).1
    have h6 := offF_60 (vOK f2).1
    have hlo := len_off e3
    have q2 := gOffsets_eq (vOK f2)
    have q3 := gOffsets_eq (vOK f5)
    have q4 := gCount_eq (l := a.sh) h.2.1.1
    rw [off_cnt (vOK f2).1] at q4
    have q5 := gUpV_eq (n := (offF a).length) (by omega)
    have hul := upV_len (offF a).length
    have q6 := gStep_eq (m := m) (A := offF a) (B := offF b) (O := upV (offF a).length) ⟨⟨by omega, by omega, by omega, by omega⟩, f3, f6, upV_in _, by rw [hlo]; exact upV_in _⟩
    rw [hul] at q6
    have hcl := cpT_len m (offF a) (offF b) (upV (offF a).length) (offF a).length
    repeat' (first | with_reducible first | refine kI (by kernel_rfl) ?_ | refine kN (by kernel_rfl) ?_ | (first | refine kB1 ?_ ?_ | refine kB2 ?_ ?_) <;> intro hp | (first | refine kD1 ?_ ?_ | refine kD2 ?_ ?_ | refine kS1 ?_ ?_ | refine kS2 ?_ ?_) <;> intro hp <;> try simp only [hp] | simp -implicitDefEqProofs (disch := omega) only [go_sem, Nat.reduceAdd, Nat.reduceSub, reduceCtorEq, Nat.reduceLT, Nat.reduceLeDiff, Nat.reduceEqDiff, Nat.reduceMul, Int.reduceToNat, ↓reduceIte, List.take_of_length_le, if_pos, if_neg, List.getElem?_set_self, List.set_set, cnE, cnV, Tryz.ntmps23, Tryz.results23,  hc, q1, ho, q2, q3, hn, q4, hu, q5, hs, q6])
set_option maxHeartbeats 4000000 in
set_option maxRecDepth 100000 in
theorem spec_CopyBackwardS {Sg : FuncId → Option (List AV → Option AV)} (hS : Sound Tryz.prog Sg) (hc : Sg 50 = some (F3 gCanC)) (ho : Sg 54 = some (F1 gOffsets)) (hn : Sg 38 = some (F1 gCount)) (hu : Sg 55 = some (F1 gUpV)) (hr : Sg 64 = some (F1 gRev)) (hs : Sg 53 = some (F4 gStep)) : ∀ a r, F3 gBwd a = some r → CSpec Tryz.prog 30 a r := by
  refine F3_spec ?_
  intro m a b r hr0
  obtain ⟨h, rfl⟩ := gd_some hr0
  refine CSpec.intro Tryz.func30 rfl (own _) (vc3_sound Tryz.pf hS hS _ _ _ ?_)
  have q1 := gCanC_eq h
  unfold bwdR
  cases e : cpyB m a b with
  | false =>
    rw [e] at q1
    rw [if_neg (by simp)]
    repeat' (first | with_reducible first | refine kI (by kernel_rfl) ?_ | refine kN (by kernel_rfl) ?_ | (first | refine kB1 ?_ ?_ | refine kB2 ?_ ?_) <;> intro hp | (first | refine kD1 ?_ ?_ | refine kD2 ?_ ?_ | refine kS1 ?_ ?_ | refine kS2 ?_ ?_) <;> intro hp <;> try simp only [hp] | simp -implicitDefEqProofs (disch := omega) only [go_sem, Nat.reduceAdd, Nat.reduceSub, reduceCtorEq, Nat.reduceLT, Nat.reduceLeDiff, Nat.reduceEqDiff, Nat.reduceMul, Int.reduceToNat, ↓reduceIte, List.take_of_length_le, if_pos, if_neg, List.getElem?_set_self, List.set_set, cnE, cnV, Tryz.ntmps30, Tryz.results30,  hc, q1])
  | true =>
    rw [e] at q1
    rw [if_pos rfl]
    obtain ⟨e1, e2, e3⟩ := cpyB_iff.1 e
    obtain ⟨f1, f2, f3⟩ := fit_in e1
    obtain ⟨f4, f5, f6⟩ := fit_in e2
    have hm := (memOK_iff.1 f1).1
    have h6 := offF_60 (vOK f2).1
    have hlo := len_off e3
    have q2 := gOffsets_eq (vOK f2)
    have q3 := gOffsets_eq (vOK f5)
    have q4 := gCount_eq (l := a.sh) h.2.1.1
    rw [off_cnt (vOK f2).1] at q4
    have q5 := gUpV_eq (n := (offF a).length) (by omega)
    have hul := upV_len (offF a).length
    have q7 := gRev_eq (l := upV (offF a).length) (by omega)
    have hrl : (upV (offF a).length).reverse.length = (offF a).length := by rw [List.length_reverse, hul]
    have q6 := gStep_eq (m := m) (A := offF a) (B := offF b) (O := (upV (offF a).length).reverse) ⟨⟨by omega, by omega, by omega, by omega⟩, f3, f6, upR_in _, by rw [hlo]; exact upR_in _⟩
    rw [hrl] at q6
    repeat' (first | with_reducible first | refine kI (by kernel_rfl) ?_ | refine kN (by kernel_rfl) ?_ | (first | refine kB1 ?_ ?_ | refine kB2 ?_ ?_) <;> intro hp | (first | refine kD1 ?_ ?_ | refine kD2 ?_ ?_ | refine kS1 ?_ ?_ | refine kS2 ?_ ?_) <;> intro hp <;> try simp only [hp] | simp -implicitDefEqProofs (disch := omega) only [go_sem, Nat.reduceAdd, Nat.reduceSub, reduceCtorEq, Nat.reduceLT, Nat.reduceLeDiff, Nat.reduceEqDiff, Nat.reduceMul, Int.reduceToNat, ↓reduceIte, List.take_of_length_le, if_pos, if_neg, List.getElem?_set_self, List.set_set, cnE, cnV, Tryz.ntmps30, Tryz.results30,  hc, q1, ho, q2, q3, hn, q4, hu, q5, hr, q7, hs, q6])
set_option maxHeartbeats 4000000 in
set_option maxRecDepth 100000 in
theorem spec_CopyForwardI {Sg : FuncId → Option (List AV → Option AV)} (hS : Sound Tryz.prog Sg) (hc : Sg 49 = some (F3 gCanC)) (ho : Sg 52 = some (F1 gOffsets)) : ∀ a r, F3 gFwd a = some r → CSpec Tryz.prog 22 a r := by
  refine F3_spec ?_
  intro m a b r hr0
  obtain ⟨h, rfl⟩ := gd_some hr0
  refine CSpec.intro Tryz.func22 rfl (own _) (vc3_sound Tryz.pf hS hS _ _ _ ?_)
  have q1 := gCanC_eq h
  unfold fwdR
  cases e : cpyB m a b with
  | false =>
    rw [e] at q1
    rw [if_neg (by simp)]
    repeat' (first | with_reducible first | refine kI (by kernel_rfl) ?_ | refine kN (by kernel_rfl) ?_ | (first | refine kB1 ?_ ?_ | refine kB2 ?_ ?_) <;> intro hp | (first | refine kD1 ?_ ?_ | refine kD2 ?_ ?_ | refine kS1 ?_ ?_ | refine kS2 ?_ ?_) <;> intro hp <;> try simp only [hp] | simp -implicitDefEqProofs (disch := omega) only [go_sem, Nat.reduceAdd, Nat.reduceSub, reduceCtorEq, Nat.reduceLT, Nat.reduceLeDiff, Nat.reduceEqDiff, Nat.reduceMul, Int.reduceToNat, ↓reduceIte, List.take_of_length_le, if_pos, if_neg, List.getElem?_set_self, List.set_set, cnE, cnV, Tryz.ntmps22, Tryz.results22,  hc, q1])
  | true =>
    rw [e] at q1
    rw [if_pos rfl]
    obtain ⟨e1, e2, e3⟩ := cpyB_iff.1 e
    obtain ⟨f1, f2, f3⟩ := fit_in e1
    obtain ⟨f4, f5, f6⟩ := fit_in e2
    have hm := (memOK_iff.1 f1).1
    have h6 := offF_60 (vOK f2).1
    have hlo := len_off e3
    have q2 := gOffsets_eq (vOK f2)
    have q3 := gOffsets_eq (vOK f5)
    have hva : viB0 a = viB0 a := rfl
    repeat' (first | with_reducible first | refine kI (by kernel_rfl) ?_ | refine kN (by kernel_rfl) ?_ | (first | refine kB1 ?_ ?_ | refine kB2 ?_ ?_) <;> intro hp | (first | refine kD1 ?_ ?_ | refine kD2 ?_ ?_ | refine kS1 ?_ ?_ | refine kS2 ?_ ?_) <;> intro hp <;> try simp only [hp] | simp -implicitDefEqProofs (disch := omega) only [go_sem, Nat.reduceAdd, Nat.reduceSub, reduceCtorEq, Nat.reduceLT, Nat.reduceLeDiff, Nat.reduceEqDiff, Nat.reduceMul, Int.reduceToNat, ↓reduceIte, List.take_of_length_le, if_pos, if_neg, List.getElem?_set_self, List.set_set, cnE, cnV, Tryz.ntmps22, Tryz.results22,  hc, q1, ho, q2, q3])
    generalize offF a = A at *
    generalize offF b = B at *
    refine LoopQ.mix (fun t0 L0 nn ss => ∃ (k : Nat) (_ : Unit), (∃ x : Nat → AV, ss = ⟨mixL 0 (.k :: .k :: .k :: .k :: .k :: .k :: .k :: .k :: .k :: .k :: .s :: .s :: .k :: .k :: .k :: .k :: .k :: .k :: .k :: .k :: .k :: .k :: .k :: .k :: .k :: .v (i64 (k : Nat)) :: .s :: .s :: .s :: .s :: .s :: .s :: .s :: .s :: .s :: .s :: .s :: .s :: .s :: .s :: .s :: .k :: []) t0 x, [viB0 a, viB0 b, ⟨1, (cpT m A B (upV A.length) k).map fun n => .int .i64 n⟩]⟩) ∧ (k ≤ A.length) ∧ nn = A.length - k) ?_ ?_
    · exact ⟨_, ⟨0, (), mixI rfl, Nat.zero_le _, rfl⟩⟩
    · rintro I0 hI0 nn s ⟨k, _, ⟨x, rfl⟩, g1, rfl⟩
      have hl := cpT_len m A B (upV A.length) k
      by_cases hk : k < A.length
      · have hki : (k : Int) < (A.length : Int) := by omega
        have hkB : k < B.length := by omega
        obtain ⟨p, hp, hpm⟩ := in_at f3 hk
        obtain ⟨q, hq, hqm⟩ := in_at f6 hkB
        have hs : (cpT m A B (upV A.length) k).set p ((cpT m A B (upV A.length) k).getD q 0) = cpT m A B (upV A.length) (k + 1) := by
          rw [cpT, upV_at hk, Int.toNat_natCast, hp, hq, Int.toNat_natCast, Int.toNat_natCast]
        have hpl : p < (cpT m A B (upV A.length) k).length := by omega
        have hql : q < (cpT m A B (upV A.length) k).length := by omega
        repeat' (first | with_reducible first | refine kI (by kernel_rfl) ?_ | refine kN (by kernel_rfl) ?_ | (first | refine kB1 ?_ ?_ | refine kB2 ?_ ?_) <;> intro hp | (first | refine kD1 ?_ ?_ | refine kD2 ?_ ?_ | refine kS1 ?_ ?_ | refine kS2 ?_ ?_) <;> intro hp <;> try simp only [hp] | simp -implicitDefEqProofs (disch := omega) only [go_sem, Nat.reduceAdd, Nat.reduceSub, reduceCtorEq, Nat.reduceLT, Nat.reduceLeDiff, Nat.reduceEqDiff, Nat.reduceMul, Int.reduceToNat, ↓reduceIte, List.take_of_length_le, if_pos, if_neg, List.getElem?_set_self, List.set_set, cnE, cnV, Tryz.ntmps22, Tryz.results22,  hki, getD_ints hk, getD_ints hkB, hp, hq, hl, hpm, hqm, getD_ints hql, hs])
        exact ⟨A.length - (k + 1), by omega, hI0 _ _ ⟨k + 1, (), mixI rfl, hk, rfl⟩⟩
      · obtain rfl : k = A.length := by omega
        repeat' (first | with_reducible first | refine kI (by kernel_rfl) ?_ | refine kN (by kernel_rfl) ?_ | (first | refine kB1 ?_ ?_ | refine kB2 ?_ ?_) <;> intro hp | (first | refine kD1 ?_ ?_ | refine kD2 ?_ ?_ | refine kS1 ?_ ?_ | refine kS2 ?_ ?_) <;> intro hp <;> try simp only [hp] | simp -implicitDefEqProofs (disch := omega) only [go_sem, Nat.reduceAdd, Nat.reduceSub, reduceCtorEq, Nat.reduceLT, Nat.reduceLeDiff, Nat.reduceEqDiff, Nat.reduceMul, Int.reduceToNat, ↓reduceIte, List.take_of_length_le, if_pos, if_neg, List.getElem?_set_self, List.set_set, cnE, cnV, Tryz.ntmps22, Tryz.results22,  hl])
set_option maxHeartbeats 4000000 in
set_option maxRecDepth 100000 in
theorem spec_CopyBackwardI {Sg : FuncId → Option (List AV → Option AV)} (hS : Sound Tryz.prog Sg) (hc : Sg 49 = some (F3 gCanC)) (ho : Sg 52 = some (F1 gOffsets)) : ∀ a r, F3 gBwd a = some r → CSpec Tryz.prog 29 a r := by
  refine F3_spec ?_
  intro m a b r hr0
  obtain ⟨h, rfl⟩ := gd_some hr0
  refine CSpec.intro Tryz.func29 rfl (own _) (vc3_sound Tryz.pf hS hS _ _ _ ?_)
  have q1 := gCanC_eq h
  unfold bwdR
  cases e : cpyB m a b with
  | false =>
    rw [e] at q1
    rw [if_neg (by simp)]
    repeat' (first | with_reducible first | refine kI (by kernel_rfl) ?_ | refine kN (by kernel_rfl) ?_ | (first | refine kB1 ?_ ?_ | refine kB2 ?_ ?_) <;> intro hp | (first | refine kD1 ?_ ?_ | refine kD2 ?_ ?_ | refine kS1 ?_ ?_ | refine kS2 ?_ ?_) <;> intro hp <;> try simp only [hp] | simp -implicitDefEqProofs (disch := omega) only [go_sem, Nat.reduceAdd, Nat.reduceSub, reduceCtorEq, Nat.reduceLT, Nat.reduceLeDiff, Nat.reduceEqDiff, Nat.reduceMul, Int.reduceToNat, ↓reduceIte, List.take_of_length_le, if_pos, if_neg, List.getElem?_set_self, List.set_set, cnE, cnV, Tryz.ntmps29, Tryz.results29,  hc, q1])
  | true =>
    rw [e] at q1
    rw [if_pos rfl]
    obtain ⟨e1, e2, e3⟩ := cpyB_iff.1 e
    obtain ⟨f1, f2, f3⟩ := fit_in e1
    obtain ⟨f4, f5, f6⟩ := fit_in e2
    have hm := (memOK_iff.1 f1).1
    have h6 := offF_60 (vOK f2).1
    have hlo := len_off e3
    have q2 := gOffsets_eq (vOK f2)
    have q3 := gOffsets_eq (vOK f5)
    repeat' (first | with_reducible first | refine kI (by kernel_rfl) ?_ | refine kN (by kernel_rfl) ?_ | (first | refine kB1 ?_ ?_ | refine kB2 ?_ ?_) <;> intro hp | (first | refine kD1 ?_ ?_ | refine kD2 ?_ ?_ | refine kS1 ?_ ?_ | refine kS2 ?_ ?_) <;> intro hp <;> try simp only [hp] | simp -implicitDefEqProofs (disch := omega) only [go_sem, Nat.reduceAdd, Nat.reduceSub, reduceCtorEq, Nat.reduceLT, Nat.reduceLeDiff, Nat.reduceEqDiff, Nat.reduceMul, Int.reduceToNat, ↓reduceIte, List.take_of_length_le, if_pos, if_neg, List.getElem?_set_self, List.set_set, cnE, cnV, Tryz.ntmps29, Tryz.results29,  hc, q1, ho, q2, q3])
    generalize offF a = A at *
    generalize offF b = B at *
    have hw0 : IntKind.i64.wrap ((A.length : Int) - 1) = (A.length : Int) - 1 := wrap_in (by omega)
    repeat' (first | with_reducible first | refine kI (by kernel_rfl) ?_ | refine kN (by kernel_rfl) ?_ | (first | refine kB1 ?_ ?_ | refine kB2 ?_ ?_) <;> intro hp | (first | refine kD1 ?_ ?_ | refine kD2 ?_ ?_ | refine kS1 ?_ ?_ | refine kS2 ?_ ?_) <;> intro hp <;> try simp only [hp] | simp -implicitDefEqProofs (disch := omega) only [go_sem, Nat.reduceAdd, Nat.reduceSub, reduceCtorEq, Nat.reduceLT, Nat.reduceLeDiff, Nat.reduceEqDiff, Nat.reduceMul, Int.reduceToNat, ↓reduceIte, List.take_of_length_le, if_pos, if_neg, List.getElem?_set_self, List.set_set, cnE, cnV, Tryz.ntmps29, Tryz.results29,  hw0])
    refine LoopQ.mix (fun t0 L0 nn ss => ∃ (t : Nat) (k : Nat) (_ : Unit), (∃ x : Nat → AV, ss = ⟨mixL 0 (.k :: .k :: .k :: .k :: .k :: .k :: .k :: .k :: .k :: .k :: .k :: .v (i64 ((t : Nat) - 1)) :: .k :: .k :: .k :: .k :: .k :: .k :: .k :: .k :: .k :: .k :: .k :: .k :: .k :: .k :: .k :: .s :: .s :: .s :: .s :: .s :: .s :: .s :: .s :: .s :: .s :: .s :: .s :: .s :: .s :: .s :: .s :: .s :: .k :: []) t0 x, [viB0 a, viB0 b, ⟨1, (cpT m A B (upV A.length).reverse k).map fun n => .int .i64 n⟩]⟩) ∧ (t + k = A.length) ∧ nn = t + 1) ?_ ?_
    · exact ⟨_, ⟨A.length, 0, (), mixI rfl, Nat.add_zero _, rfl⟩⟩
    · rintro I0 hI0 nn s ⟨t, k, _, ⟨x, rfl⟩, g1, rfl⟩
      have hl := cpT_len m A B (upV A.length).reverse k
      match t, g1 with
      | 0, g1 =>
        obtain rfl : k = A.length := by omega
        repeat' (first | with_reducible first | refine kI (by kernel_rfl) ?_ | refine kN (by kernel_rfl) ?_ | (first | refine kB1 ?_ ?_ | refine kB2 ?_ ?_) <;> intro hp | (first | refine kD1 ?_ ?_ | refine kD2 ?_ ?_ | refine kS1 ?_ ?_ | refine kS2 ?_ ?_) <;> intro hp <;> try simp only [hp] | simp -implicitDefEqProofs (disch := omega) only [go_sem, Nat.reduceAdd, Nat.reduceSub, reduceCtorEq, Nat.reduceLT, Nat.reduceLeDiff, Nat.reduceEqDiff, Nat.reduceMul, Int.reduceToNat, ↓reduceIte, List.take_of_length_le, if_pos, if_neg, List.getElem?_set_self, List.set_set, cnE, cnV, Tryz.ntmps29, Tryz.results29,  hl])
      | t + 1, g1 =>
        have htA : t < A.length := by omega
        have htB : t < B.length := by omega
        have e1 : (((t + 1 : Nat) : Int) - 1) = (t : Int) := by omega
        rw [e1]
        obtain ⟨p, hp, hpm⟩ := in_at f3 htA
        obtain ⟨q, hq, hqm⟩ := in_at f6 htB
        have hs : (cpT m A B (upV A.length).reverse k).set p ((cpT m A B (upV A.length).reverse k).getD q 0) = cpT m A B (upV A.length).reverse (k + 1) := by
          rw [cpT, upR_at (by omega), show A.length - 1 - k = t by omega, Int.toNat_natCast, hp, hq, Int.toNat_natCast, Int.toNat_natCast]
        have hpl : p < (cpT m A B (upV A.length).reverse k).length := by omega
        have hql : q < (cpT m A B (upV A.length).reverse k).length := by omega
        repeat' (first | with_reducible first | refine kI (by kernel_rfl) ?_ | (first | refine kB1 ?_ ?_ | refine kB2 ?_ ?_) <;> intro hp | (first | refine kD1 ?_ ?_ | refine kD2 ?_ ?_ | refine kS1 ?_ ?_ | refine kS2 ?_ ?_) <;> intro hp <;> try simp only [hp] | simp -implicitDefEqProofs (disch := omega) only [go_sem, Nat.reduceAdd, Nat.reduceSub, reduceCtorEq, Nat.reduceLT, Nat.reduceLeDiff, Nat.reduceEqDiff, Nat.reduceMul, Int.reduceToNat, ↓reduceIte, List.take_of_length_le, if_pos, if_neg, List.getElem?_set_self, List.set_set, cnE, cnV, Tryz.ntmps29, Tryz.results29])
        refine DrawQ.any [([0, 1, 2, 3, 4, 5, 6, 7, 8, 9, 10, 11, 12], 13)] [] [] (by kernel_rfl) ?_
        repeat' (first | with_reducible first | refine kI (by kernel_rfl) ?_ | (first | refine kB1 ?_ ?_ | refine kB2 ?_ ?_) <;> intro hp | (first | refine kD1 ?_ ?_ | refine kD2 ?_ ?_ | refine kS1 ?_ ?_ | refine kS2 ?_ ?_) <;> intro hp <;> try simp only [hp] | simp -implicitDefEqProofs (disch := omega) only [go_sem, Nat.reduceAdd, Nat.reduceSub, reduceCtorEq, Nat.reduceLT, Nat.reduceLeDiff, Nat.reduceEqDiff, Nat.reduceMul, Int.reduceToNat, ↓reduceIte, List.take_of_length_le, if_pos, if_neg, List.getElem?_set_self, List.set_set, cnE, cnV, Tryz.ntmps29, Tryz.results29,  getD_ints htA, getD_ints htB, hp, hq, hl, hpm, hqm, getD_ints hql, hs])
        exact ⟨t + 1, by omega, hI0 _ _ ⟨t, k + 1, (), mixI rfl, by omega, rfl⟩⟩
/-! ### exchanged -/
def swpB (m : List Int) (a b : Vi) : Bool := cpyB m a b && (!decide (0 < (bothF (offF a) (offF b)).length) && (diffF (offF a) && diffF (offF b)))
def swpL (m : List Int) (a b : Vi) : List Int := stoV (stoV m a (tkn m (offF b))) b (tkn m (offF a))
def swpR (m : List Int) (a b : Vi) : List Int × Bool := if swpB m a b = true then (swpL m a b, true) else ([], false)
def gSwap (m : List Int) (a b : Vi) : Option (List Int × Bool) := gd (mB2 m a b) (swpR m a b)
theorem gSwap_eq {m : List Int} {a b : Vi} (h : mB2 m a b) : gSwap m a b = some (swpR m a b) := gd_eq h
theorem tkn_val {m A : List Int} (hm : memOK m = true) (hA : inM A m.length) : ∀ x ∈ tkn m A, 0 ≤ x ∧ x ≤ 255 := fun x hx => by
  obtain ⟨y, hy, rfl⟩ := List.mem_map.1 hx
  have := hA y hy
  exact (memOK_iff.1 hm).2 _ (gmem (by omega))
theorem sto_hold {m : List Int} {v w : Vi} {V : List Int} (hw : holdB m w = true) (hl : V.length = (offF v).length) (hV : ∀ x ∈ V, 0 ≤ x ∧ x ≤ 255) : holdB (stoV m v V) w = true :=
  hold_of hw (sto_mem (fit_in hw).1 hV (by omega)) (stoT_len _ _ _ _)
set_option maxHeartbeats 4000000 in
set_option maxRecDepth 100000 in
theorem spec_SwapViewsS {Sg : FuncId → Option (List AV → Option AV)} (hS : Sound Tryz.prog Sg) (hc : Sg 50 = some (F3 gCanC)) (hl : Sg 51 = some (F2 gLoadI)) (hs : Sg 40 = some (F3 gStoI)) (hv : Sg 62 = some (F2 gBoth)) (hd : Sg 63 = some (F1 gDifferent)) (ho : Sg 54 = some (F1 gOffsets)) : ∀ a r, F3 gSwap a = some r → CSpec Tryz.prog 27 a r := by
  refine F3_spec ?_
  intro m a b r hr0
  obtain ⟨h, rfl⟩ := gd_some hr0
  refine CSpec.intro Tryz.func27 rfl (own _) (vc3_sound Tryz.pf hS hS _ _ _ ?_)
  have q1 := gCanC_eq h
  unfold swpR swpB
  cases e : cpyB m a b with
  | false =>
    rw [e] at q1
    rw [if_neg (by simp)]
    repeat' (first | with_reducible first | refine kI (by kernel_rfl) ?_ | refine kN (by kernel_rfl) ?_ | (first | refine kB1 ?_ ?_ | refine kB2 ?_ ?_) <;> intro hp | (first | refine kD1 ?_ ?_ | refine kD2 ?_ ?_ | refine kS1 ?_ ?_ | refine kS2 ?_ ?_) <;> intro hp <;> try simp only [hp] | simp -implicitDefEqProofs (disch := omega) only [go_sem, Nat.reduceAdd, Nat.reduceSub, reduceCtorEq, Nat.reduceLT, Nat.reduceLeDiff, Nat.reduceEqDiff, Nat.reduceMul, Int.reduceToNat, ↓reduceIte, List.take_of_length_le, if_pos, if_neg, List.getElem?_set_self, List.set_set, cnE, cnV, Tryz.ntmps27, Tryz.results27,  hc, q1])
  | true =>
    rw [e] at q1
    obtain ⟨e1, e2, e3⟩ := cpyB_iff.1 e
    obtain ⟨f1, f2, f3⟩ := fit_in e1
    obtain ⟨f4, f5, f6⟩ := fit_in e2
    have h6 := offF_60 (vOK f2).1
    have h7 := offF_60 (vOK f5).1
    have hlo := len_off e3
    have p1 := gBoth_eq (a := offF a) (b := offF b) ⟨by omega, by omega⟩
    have p3 := gOffsets_eq (vOK f2)
    have p2 := gDifferent_eq (l := offF a) (by omega)
    have p5 := gDifferent_eq (l := offF b) (by omega)
    have p4 := gOffsets_eq (vOK f5)
    by_cases c0 : 0 < (bothF (offF a) (offF b)).length
    · have c0' : (0 : Int) < ((bothF (offF a) (offF b)).length : Int) := by omega
      rw [decide_eq_true c0, if_neg (by simp)]
      repeat' (first | with_reducible first | refine kI (by kernel_rfl) ?_ | refine kN (by kernel_rfl) ?_ | (first | refine kB1 ?_ ?_ | refine kB2 ?_ ?_) <;> intro hp | (first | refine kD1 ?_ ?_ | refine kD2 ?_ ?_ | refine kS1 ?_ ?_ | refine kS2 ?_ ?_) <;> intro hp <;> try simp only [hp] | simp -implicitDefEqProofs (disch := omega) only [go_sem, Nat.reduceAdd, Nat.reduceSub, reduceCtorEq, Nat.reduceLT, Nat.reduceLeDiff, Nat.reduceEqDiff, Nat.reduceMul, Int.reduceToNat, ↓reduceIte, List.take_of_length_le, if_pos, if_neg, List.getElem?_set_self, List.set_set, cnE, cnV, Tryz.ntmps27, Tryz.results27,  hc, q1, hv, p1, c0', ho, p3, p4])
    · have c0' : ¬ (0 : Int) < ((bothF (offF a) (offF b)).length : Int) := by omega
      rw [decide_eq_false c0]
      cases c1 : diffF (offF a) with
      | false =>
        rw [c1] at p2
        rw [if_neg (by simp)]
        repeat' (first | with_reducible first | refine kI (by kernel_rfl) ?_ | refine kN (by kernel_rfl) ?_ | (first | refine kB1 ?_ ?_ | refine kB2 ?_ ?_) <;> intro hp | (first | refine kD1 ?_ ?_ | refine kD2 ?_ ?_ | refine kS1 ?_ ?_ | refine kS2 ?_ ?_) <;> intro hp <;> try simp only [hp] | simp -implicitDefEqProofs (disch := omega) only [go_sem, Nat.reduceAdd, Nat.reduceSub, reduceCtorEq, Nat.reduceLT, Nat.reduceLeDiff, Nat.reduceEqDiff, Nat.reduceMul, Int.reduceToNat, ↓reduceIte, List.take_of_length_le, if_pos, if_neg, List.getElem?_set_self, List.set_set, cnE, cnV, Tryz.ntmps27, Tryz.results27,  hc, q1, hv, p1, c0', hd, p2, ho, p3, p4])
      | true =>
        rw [c1] at p2
        cases c2 : diffF (offF b) with
        | false =>
          rw [c2] at p5
          rw [if_neg (by simp)]
          repeat' (first | with_reducible first | refine kI (by kernel_rfl) ?_ | refine kN (by kernel_rfl) ?_ | (first | refine kB1 ?_ ?_ | refine kB2 ?_ ?_) <;> intro hp | (first | refine kD1 ?_ ?_ | refine kD2 ?_ ?_ | refine kS1 ?_ ?_ | refine kS2 ?_ ?_) <;> intro hp <;> try simp only [hp] | simp -implicitDefEqProofs (disch := omega) only [go_sem, Nat.reduceAdd, Nat.reduceSub, reduceCtorEq, Nat.reduceLT, Nat.reduceLeDiff, Nat.reduceEqDiff, Nat.reduceMul, Int.reduceToNat, ↓reduceIte, List.take_of_length_le, if_pos, if_neg, List.getElem?_set_self, List.set_set, cnE, cnV, Tryz.ntmps27, Tryz.results27,  hc, q1, hv, p1, c0', hd, p2, p5, ho, p3, p4])
        | true =>
          rw [c2] at p5
          rw [if_pos (by simp)]
          have q2 := gLoadI_eq e2
          have hlb : (tkn m (offF b)).length = (offF a).length := by rw [tkn_len, hlo]
          have q3 := gStoI_eq (m := m) (v := a) (V := tkn m (offF b)) ⟨e1, hlb⟩
          have q4 := gLoadI_eq e1
          have hbv := tkn_val f4 f6
          have q5 := gStoI_eq (m := stoV m a (tkn m (offF b))) (v := b) (V := tkn m (offF a)) ⟨sto_hold e2 hlb hbv, by rw [tkn_len, hlo]⟩
          unfold swpL
          repeat' (first | with_reducible first | refine kI (by kernel_rfl) ?_ | refine kN (by kernel_rfl) ?_ | (first | refine kB1 ?_ ?_ | refine kB2 ?_ ?_) <;> intro hp | (first | refine kD1 ?_ ?_ | refine kD2 ?_ ?_ | refine kS1 ?_ ?_ | refine kS2 ?_ ?_) <;> intro hp <;> try simp only [hp] | simp -implicitDefEqProofs (disch := omega) only [go_sem, Nat.reduceAdd, Nat.reduceSub, reduceCtorEq, Nat.reduceLT, Nat.reduceLeDiff, Nat.reduceEqDiff, Nat.reduceMul, Int.reduceToNat, ↓reduceIte, List.take_of_length_le, if_pos, if_neg, List.getElem?_set_self, List.set_set, cnE, cnV, Tryz.ntmps27, Tryz.results27,  hc, q1, hv, p1, c0', hd, p2, p5, hl, q2, hs, q3, q4, q5, ho, p3, p4])
set_option maxHeartbeats 4000000 in
set_option maxRecDepth 100000 in
theorem spec_SwapViewsI {Sg : FuncId → Option (List AV → Option AV)} (hS : Sound Tryz.prog Sg) (hc : Sg 49 = some (F3 gCanC)) (hl : Sg 42 = some (F2 gLoadI)) (hs : Sg 36 = some (F3 gStoI)) (hv : Sg 61 = some (F2 gOv)) (hd : Sg 47 = some (F1 gOneI)) : ∀ a r, F3 gSwap a = some r → CSpec Tryz.prog 26 a r := by
  refine F3_spec ?_
  intro m a b r hr0
  obtain ⟨h, rfl⟩ := gd_some hr0
  refine CSpec.intro Tryz.func26 rfl (own _) (vc3_sound Tryz.pf hS hS _ _ _ ?_)
  have q1 := gCanC_eq h
  unfold swpR swpB
  cases e : cpyB m a b with
  | false =>
    rw [e] at q1
    rw [if_neg (by simp)]
    repeat' (first | with_reducible first | refine kI (by kernel_rfl) ?_ | refine kN (by kernel_rfl) ?_ | (first | refine kB1 ?_ ?_ | refine kB2 ?_ ?_) <;> intro hp | (first | refine kD1 ?_ ?_ | refine kD2 ?_ ?_ | refine kS1 ?_ ?_ | refine kS2 ?_ ?_) <;> intro hp <;> try simp only [hp] | simp -implicitDefEqProofs (disch := omega) only [go_sem, Nat.reduceAdd, Nat.reduceSub, reduceCtorEq, Nat.reduceLT, Nat.reduceLeDiff, Nat.reduceEqDiff, Nat.reduceMul, Int.reduceToNat, ↓reduceIte, List.take_of_length_le, if_pos, if_neg, List.getElem?_set_self, List.set_set, cnE, cnV, Tryz.ntmps26, Tryz.results26,  hc, q1])
  | true =>
    rw [e] at q1
    obtain ⟨e1, e2, e3⟩ := cpyB_iff.1 e
    obtain ⟨f1, f2, f3⟩ := fit_in e1
    obtain ⟨f4, f5, f6⟩ := fit_in e2
    have h6 := offF_60 (vOK f2).1
    have h7 := offF_60 (vOK f5).1
    have hlo := len_off e3
    have p1 := gOv_eq ⟨vOK f2, vOK f5⟩
    rw [ovF_eq (B := offF b) (offF_in f2)] at p1
    have p2 := gOneI_eq (vOK f2)
    have p5 := gOneI_eq (vOK f5)
    skip
    by_cases c0 : 0 < (bothF (offF a) (offF b)).length
    · have c0' : (0 : Int) < ((bothF (offF a) (offF b)).length : Int) := by omega
      rw [decide_eq_true c0, if_neg (by simp)]
      repeat' (first | with_reducible first | refine kI (by kernel_rfl) ?_ | refine kN (by kernel_rfl) ?_ | (first | refine kB1 ?_ ?_ | refine kB2 ?_ ?_) <;> intro hp | (first | refine kD1 ?_ ?_ | refine kD2 ?_ ?_ | refine kS1 ?_ ?_ | refine kS2 ?_ ?_) <;> intro hp <;> try simp only [hp] | simp -implicitDefEqProofs (disch := omega) only [go_sem, Nat.reduceAdd, Nat.reduceSub, reduceCtorEq, Nat.reduceLT, Nat.reduceLeDiff, Nat.reduceEqDiff, Nat.reduceMul, Int.reduceToNat, ↓reduceIte, List.take_of_length_le, if_pos, if_neg, List.getElem?_set_self, List.set_set, cnE, cnV, Tryz.ntmps26, Tryz.results26,  hc, q1, hv, p1, c0'])
    · have c0' : ¬ (0 : Int) < ((bothF (offF a) (offF b)).length : Int) := by omega
      rw [decide_eq_false c0]
      cases c1 : diffF (offF a) with
      | false =>
        rw [c1] at p2
        rw [if_neg (by simp)]
        repeat' (first | with_reducible first | refine kI (by kernel_rfl) ?_ | refine kN (by kernel_rfl) ?_ | (first | refine kB1 ?_ ?_ | refine kB2 ?_ ?_) <;> intro hp | (first | refine kD1 ?_ ?_ | refine kD2 ?_ ?_ | refine kS1 ?_ ?_ | refine kS2 ?_ ?_) <;> intro hp <;> try simp only [hp] | simp -implicitDefEqProofs (disch := omega) only [go_sem, Nat.reduceAdd, Nat.reduceSub, reduceCtorEq, Nat.reduceLT, Nat.reduceLeDiff, Nat.reduceEqDiff, Nat.reduceMul, Int.reduceToNat, ↓reduceIte, List.take_of_length_le, if_pos, if_neg, List.getElem?_set_self, List.set_set, cnE, cnV, Tryz.ntmps26, Tryz.results26,  hc, q1, hv, p1, c0', hd, p2])
      | true =>
        rw [c1] at p2
        cases c2 : diffF (offF b) with
        | false =>
          rw [c2] at p5
          rw [if_neg (by simp)]
          repeat' (first | with_reducible first | refine kI (by kernel_rfl) ?_ | refine kN (by kernel_rfl) ?_ | (first | refine kB1 ?_ ?_ | refine kB2 ?_ ?_) <;> intro hp | (first | refine kD1 ?_ ?_ | refine kD2 ?_ ?_ | refine kS1 ?_ ?_ | refine kS2 ?_ ?_) <;> intro hp <;> try simp only [hp] | simp -implicitDefEqProofs (disch := omega) only [go_sem, Nat.reduceAdd, Nat.reduceSub, reduceCtorEq, Nat.reduceLT, Nat.reduceLeDiff, Nat.reduceEqDiff, Nat.reduceMul, Int.reduceToNat, ↓reduceIte, List.take_of_length_le, if_pos, if_neg, List.getElem?_set_self, List.set_set, cnE, cnV, Tryz.ntmps26, Tryz.results26,  hc, q1, hv, p1, c0', hd, p2, p5])
        | true =>
          rw [c2] at p5
          rw [if_pos (by simp)]
          have q2 := gLoadI_eq e2
          have hlb : (tkn m (offF b)).length = (offF a).length := by rw [tkn_len, hlo]
          have q3 := gStoI_eq (m := m) (v := a) (V := tkn m (offF b)) ⟨e1, hlb⟩
          have q4 := gLoadI_eq e1
          have hbv := tkn_val f4 f6
          have q5 := gStoI_eq (m := stoV m a (tkn m (offF b))) (v := b) (V := tkn m (offF a)) ⟨sto_hold e2 hlb hbv, by rw [tkn_len, hlo]⟩
          unfold swpL
          repeat' (first | with_reducible first | refine kI (by kernel_rfl) ?_ | refine kN (by kernel_rfl) ?_ | (first | refine kB1 ?_ ?_ | refine kB2 ?_ ?_) <;> intro hp | (first | refine kD1 ?_ ?_ | refine kD2 ?_ ?_ | refine kS1 ?_ ?_ | refine kS2 ?_ ?_) <;> intro hp <;> try simp only [hp] | simp -implicitDefEqProofs (disch := omega) only [go_sem, Nat.reduceAdd, Nat.reduceSub, reduceCtorEq, Nat.reduceLT, Nat.reduceLeDiff, Nat.reduceEqDiff, Nat.reduceMul, Int.reduceToNat, ↓reduceIte, List.take_of_length_le, if_pos, if_neg, List.getElem?_set_self, List.set_set, cnE, cnV, Tryz.ntmps26, Tryz.results26,  hc, q1, hv, p1, c0', hd, p2, p5, hl, q2, hs, q3, q4, q5])
end Go.Proofs.YtgpflkmelindfaaGreat
