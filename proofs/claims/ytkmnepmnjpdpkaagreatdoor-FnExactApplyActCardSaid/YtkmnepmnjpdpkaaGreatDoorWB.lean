/- Contracts of functions on views and memories that the laws of this seat call. -/
import Derived.Test.YtkmnepmnjpdpkaaGreatDoorWA
set_option linter.all false
namespace Go.Proofs.YtkmnepmnjpdpkaaGreatDoor
open Go Go.Ev Go.RowKit Go.Ev.Enc Go.Pl

end Go.Proofs.YtkmnepmnjpdpkaaGreatDoor
namespace Go.Proofs.YtkmnepmnjpdpkaaGreatDoor
open Go Go.Ev Go.RowKit Go.Ev.Enc Go.Pl

set_option maxHeartbeats 4000000 in
set_option maxRecDepth 100000 in
theorem spec_isSlice {Sg : FuncId → Option (List AV → Option AV)} (hS : Sound Tryz.prog Sg) : ∀ a r, F1 gValidSl a = some r → CSpec Tryz.prog 161 a r := by
  refine F1_spec ?_
  intro s r hr0
  obtain ⟨-, rfl⟩ := gd_some hr0
  refine CSpec.intro Tryz.func161 rfl (own _) (vc3_sound Tryz.pf hS hS _ _ _ ?_)
  repeat' (first | with_reducible first | refine kI (by kernel_rfl) ?_ | refine kN (by kernel_rfl) ?_ | (first | refine kB1 ?_ ?_ | refine kB2 ?_ ?_) <;> intro hp | (first | refine kD1 ?_ ?_ | refine kD2 ?_ ?_ | refine kS1 ?_ ?_ | refine kS2 ?_ ?_) <;> intro hp <;> try simp only [hp] | simp -implicitDefEqProofs (disch := omega) only [go_sem, Nat.reduceAdd, Nat.reduceSub, reduceCtorEq, Nat.reduceLT, Nat.reduceLeDiff, Nat.reduceEqDiff, ↓reduceIte, List.take_of_length_le, if_pos, if_neg, cnE, cnV, Tryz.ntmps161, Tryz.results161])
  all_goals (unfold slOK inR; first | (simp_all; done) | (simp_all; omega))
set_option maxHeartbeats 4000000 in
set_option maxRecDepth 100000 in
theorem spec_endOf {Sg : FuncId → Option (List AV → Option AV)} (hS : Sound Tryz.prog Sg) : ∀ a r, F3 gBound a = some r → CSpec Tryz.prog 215 a r := by
  refine F3_spec ?_
  intro n i s r hr
  obtain ⟨⟨⟨h1, h2⟩, h3, h4⟩, rfl⟩ := gd_some hr
  refine CSpec.intro Tryz.func215 rfl (own _) (vc3_sound Tryz.pf hS hS _ _ _ ?_)
  have w1 : IntKind.i64.wrap (n - 1) = n - 1 := wrap_in (by omega)
  have w2 : IntKind.i64.wrap (i + n) = i + n := wrap_in (by omega)
  by_cases c1 : s < 0
  · by_cases c2 : i < 0
    · repeat' (first | with_reducible first | refine kI (by kernel_rfl) ?_ | refine kN (by kernel_rfl) ?_ | simp -implicitDefEqProofs (disch := omega) only [go_sem, Nat.reduceAdd, Nat.reduceSub, reduceCtorEq, Nat.reduceLT, Nat.reduceLeDiff, Nat.reduceEqDiff, ↓reduceIte, List.take_of_length_le, if_pos, if_neg, cnE, cnV, Tryz.ntmps215, Tryz.results215,  c1, c2, w1, w2])
      all_goals (unfold bndF; simp only [c1, c2, if_true, if_false]; (repeat' split) <;> omega)
    · repeat' (first | with_reducible first | refine kI (by kernel_rfl) ?_ | refine kN (by kernel_rfl) ?_ | simp -implicitDefEqProofs (disch := omega) only [go_sem, Nat.reduceAdd, Nat.reduceSub, reduceCtorEq, Nat.reduceLT, Nat.reduceLeDiff, Nat.reduceEqDiff, ↓reduceIte, List.take_of_length_le, if_pos, if_neg, cnE, cnV, Tryz.ntmps215, Tryz.results215,  c1, c2, w1])
      all_goals (unfold bndF; simp only [c1, c2, if_true, if_false]; (repeat' split) <;> omega)
  · by_cases c2 : i < 0
    · repeat' (first | with_reducible first | refine kI (by kernel_rfl) ?_ | refine kN (by kernel_rfl) ?_ | simp -implicitDefEqProofs (disch := omega) only [go_sem, Nat.reduceAdd, Nat.reduceSub, reduceCtorEq, Nat.reduceLT, Nat.reduceLeDiff, Nat.reduceEqDiff, ↓reduceIte, List.take_of_length_le, if_pos, if_neg, cnE, cnV, Tryz.ntmps215, Tryz.results215,  c1, c2, w2])
      all_goals (unfold bndF; simp only [c1, c2, if_true, if_false]; (repeat' split) <;> omega)
    · repeat' (first | with_reducible first | refine kI (by kernel_rfl) ?_ | refine kN (by kernel_rfl) ?_ | simp -implicitDefEqProofs (disch := omega) only [go_sem, Nat.reduceAdd, Nat.reduceSub, reduceCtorEq, Nat.reduceLT, Nat.reduceLeDiff, Nat.reduceEqDiff, ↓reduceIte, List.take_of_length_le, if_pos, if_neg, cnE, cnV, Tryz.ntmps215, Tryz.results215,  c1, c2])
      all_goals (unfold bndF; simp only [c1, c2, if_true, if_false]; (repeat' split) <;> omega)
set_option maxHeartbeats 4000000 in
set_option maxRecDepth 100000 in
theorem spec_numbersOf {Sg : FuncId → Option (List AV → Option AV)} (hS : Sound Tryz.prog Sg) : ∀ a r, F1 gNumbers a = some r → CSpec Tryz.prog 216 a r := by
  refine F1_spec ?_
  intro g r hr
  obtain ⟨hb, rfl⟩ := gd_some hr
  refine CSpec.intro Tryz.func216 rfl (own _) (vc3_sound Tryz.pf hS hS _ _ _ ?_)
  have hb' := hb
  obtain ⟨⟨b1, b2⟩, ⟨b3, b4⟩, b5, b6⟩ := hb'
  have hl := numF_len hb
  have hd0 : distR g.z g.s g.a ≤ 2000 := by unfold distR; split <;> omega
  repeat' (first | with_reducible first | refine kI (by kernel_rfl) ?_ | refine kN (by kernel_rfl) ?_ | simp -implicitDefEqProofs (disch := omega) only [go_sem, Nat.reduceAdd, Nat.reduceSub, reduceCtorEq, Nat.reduceLT, Nat.reduceLeDiff, Nat.reduceEqDiff, ↓reduceIte, List.take_of_length_le, if_pos, if_neg, cnE, cnV, Tryz.ntmps216, Tryz.results216])
  refine LoopQ.mix (fun t0 L0 nn ss => ∃ (k : Nat) (y : Int) (q : List Int) (_ : Unit), (∃ x : Nat → AV, ss = ⟨mixL 0 (.k :: .k :: .k :: .v (.sl 1 k 0 k k) :: .v (i64 y) :: .k :: .k :: .k :: .s :: .s :: .s :: .s :: .s :: .s :: .s :: .s :: .s :: .s :: .s :: .s :: .s :: .s :: .s :: .s :: .s :: .s :: .s :: .s :: .s :: .s :: .s :: .s :: .s :: .s :: .s :: .s :: .k :: []) t0 x, [⟨3, [.agg [i64 g.a, i64 g.z, i64 g.s]]⟩, ⟨1, q.map fun n => .int .i64 n⟩]⟩) ∧ (q.length = k) ∧ (k + distR g.z g.s y ≤ 2000) ∧ (-2000 ≤ y ∧ y ≤ 2000) ∧ (q ++ numL g.z g.s (distR g.z g.s y) y = numF g) ∧ nn = distR g.z g.s y + 1) ?_ ?_
  · exact ⟨_, ⟨0, g.a, [], (), mixJ rfl (rfl), rfl, by omega, ⟨by omega, by omega⟩, rfl, rfl⟩⟩
  · rintro I0 hI0 nn ss ⟨k, y, q, _, ⟨x, rfl⟩, m1, m2, ⟨m3, m4⟩, m5, rfl⟩
    by_cases hg : goesOn g.z g.s y
    · rw [numF_on hg] at m5
      have h1 := dist_step hg
      have hw : IntKind.i64.wrap (y + g.s) = y + g.s := wrap_in (by omega)
      have h5 : (q ++ [y]) ++ numL g.z g.s (distR g.z g.s (y + g.s)) (y + g.s) = numF g := by rw [← m5]; simp
      have h6 : -2000 ≤ y + g.s ∧ y + g.s ≤ 2000 := by unfold goesOn at hg; omega
      rcases hg with ⟨s1, s2⟩ | ⟨s1, s2⟩
      · repeat' (first | with_reducible first | refine kI (by kernel_rfl) ?_ | refine kN (by kernel_rfl) ?_ | (first | refine kB1 ?_ ?_ | refine kB2 ?_ ?_) <;> intro hp | (first | refine kD1 ?_ ?_ | refine kD2 ?_ ?_ | refine kS1 ?_ ?_ | refine kS2 ?_ ?_) <;> intro hp <;> try simp only [hp] | simp -implicitDefEqProofs (disch := omega) only [go_sem, Nat.reduceAdd, Nat.reduceSub, reduceCtorEq, Nat.reduceLT, Nat.reduceLeDiff, Nat.reduceEqDiff, ↓reduceIte, List.take_of_length_le, if_pos, if_neg, cnE, cnV, Tryz.ntmps216, Tryz.results216,  s1, s2, hw])
        exact ⟨distR g.z g.s (y + g.s) + 1, by omega, hI0 _ _ ⟨k + 1, y + g.s, q ++ [y], (), mixI rfl, by simp [m1], by omega, h6, h5, rfl⟩⟩
      · have s3 : ¬ 0 < g.s := by omega
        repeat' (first | with_reducible first | refine kI (by kernel_rfl) ?_ | refine kN (by kernel_rfl) ?_ | (first | refine kB1 ?_ ?_ | refine kB2 ?_ ?_) <;> intro hp | (first | refine kD1 ?_ ?_ | refine kD2 ?_ ?_ | refine kS1 ?_ ?_ | refine kS2 ?_ ?_) <;> intro hp <;> try simp only [hp] | simp -implicitDefEqProofs (disch := omega) only [go_sem, Nat.reduceAdd, Nat.reduceSub, reduceCtorEq, Nat.reduceLT, Nat.reduceLeDiff, Nat.reduceEqDiff, ↓reduceIte, List.take_of_length_le, if_pos, if_neg, cnE, cnV, Tryz.ntmps216, Tryz.results216,  s1, s2, s3, hw])
        exact ⟨distR g.z g.s (y + g.s) + 1, by omega, hI0 _ _ ⟨k + 1, y + g.s, q ++ [y], (), mixI rfl, by simp [m1], by omega, h6, h5, rfl⟩⟩
    · rw [numF_off hg, List.append_nil] at m5
      have hg' := hg
      unfold goesOn at hg'
      rw [not_or] at hg'
      repeat' (first | with_reducible first | refine kI (by kernel_rfl) ?_ | refine kN (by kernel_rfl) ?_ | (first | refine kB1 ?_ ?_ | refine kB2 ?_ ?_) <;> intro hp | (first | refine kD1 ?_ ?_ | refine kD2 ?_ ?_ | refine kS1 ?_ ?_ | refine kS2 ?_ ?_) <;> intro hp <;> try simp only [hp] | simp -implicitDefEqProofs (disch := omega) only [go_sem, Nat.reduceAdd, Nat.reduceSub, reduceCtorEq, Nat.reduceLT, Nat.reduceLeDiff, Nat.reduceEqDiff, ↓reduceIte, List.take_of_length_le, if_pos, if_neg, cnE, cnV, Tryz.ntmps216, Tryz.results216])
      all_goals rw [m5]
set_option maxHeartbeats 4000000 in
set_option maxRecDepth 100000 in
theorem spec_indicesOf {Sg : FuncId → Option (List AV → Option AV)} (hS : Sound Tryz.prog Sg) (hb : Sg 215 = some (F3 gBound)) (hn : Sg 216 = some (F1 gNumbers)) : ∀ a r, F2 gIndices a = some r → CSpec Tryz.prog 192 a r := by
  refine F2_spec ?_
  intro n s r hr
  obtain ⟨⟨⟨h1, h2⟩, hs⟩, rfl⟩ := gd_some hr
  refine CSpec.intro Tryz.func192 rfl (own _) (vc3_sound Tryz.pf hS hS _ _ _ ?_)
  have q0 := gNumbers_eq (indR_b ⟨h1, h2⟩ hs)
  obtain ⟨⟨b1, b2⟩, ⟨b3, b4⟩, b5, b6⟩ := hs
  have q1 := gBound_eq (n := n) (i := s.f) (s := s.s) ⟨⟨by omega, by omega⟩, by omega, by omega⟩
  have q2 := gBound_eq (n := n) (i := s.t) (s := s.s) ⟨⟨by omega, by omega⟩, by omega, by omega⟩
  have w1 : IntKind.i64.wrap (n - 1) = n - 1 := wrap_in (by omega)
  have hI : indF n s = numF (indR n s) := rfl
  rw [hI]
  generalize hN : numF (indR n s) = N at q0 ⊢
  unfold indR at q0
  by_cases c1 : s.s < 0
  · rw [if_pos c1, if_pos c1] at q0
    cases e1 : s.hf <;> cases e2 : s.ht <;> rw [e1, e2] at q0
    · rw [if_neg (by simp), if_neg (by simp)] at q0
      repeat' (first | with_reducible first | refine kI (by kernel_rfl) ?_ | refine kN (by kernel_rfl) ?_ | simp -implicitDefEqProofs (disch := omega) only [go_sem, Nat.reduceAdd, Nat.reduceSub, reduceCtorEq, Nat.reduceLT, Nat.reduceLeDiff, Nat.reduceEqDiff, ↓reduceIte, List.take_of_length_le, if_pos, if_neg, cnE, cnV, Tryz.ntmps192, Tryz.results192,  c1, w1, e1, e2, hb, q1, q2, hn, q0])
    · rw [if_neg (by simp), if_pos rfl] at q0
      repeat' (first | with_reducible first | refine kI (by kernel_rfl) ?_ | refine kN (by kernel_rfl) ?_ | simp -implicitDefEqProofs (disch := omega) only [go_sem, Nat.reduceAdd, Nat.reduceSub, reduceCtorEq, Nat.reduceLT, Nat.reduceLeDiff, Nat.reduceEqDiff, ↓reduceIte, List.take_of_length_le, if_pos, if_neg, cnE, cnV, Tryz.ntmps192, Tryz.results192,  c1, w1, e1, e2, hb, q1, q2, hn, q0])
    · rw [if_pos rfl, if_neg (by simp)] at q0
      repeat' (first | with_reducible first | refine kI (by kernel_rfl) ?_ | refine kN (by kernel_rfl) ?_ | simp -implicitDefEqProofs (disch := omega) only [go_sem, Nat.reduceAdd, Nat.reduceSub, reduceCtorEq, Nat.reduceLT, Nat.reduceLeDiff, Nat.reduceEqDiff, ↓reduceIte, List.take_of_length_le, if_pos, if_neg, cnE, cnV, Tryz.ntmps192, Tryz.results192,  c1, w1, e1, e2, hb, q1, q2, hn, q0])
    · rw [if_pos rfl, if_pos rfl] at q0
      repeat' (first | with_reducible first | refine kI (by kernel_rfl) ?_ | refine kN (by kernel_rfl) ?_ | simp -implicitDefEqProofs (disch := omega) only [go_sem, Nat.reduceAdd, Nat.reduceSub, reduceCtorEq, Nat.reduceLT, Nat.reduceLeDiff, Nat.reduceEqDiff, ↓reduceIte, List.take_of_length_le, if_pos, if_neg, cnE, cnV, Tryz.ntmps192, Tryz.results192,  c1, w1, e1, e2, hb, q1, q2, hn, q0])
  · rw [if_neg c1, if_neg c1] at q0
    cases e1 : s.hf <;> cases e2 : s.ht <;> rw [e1, e2] at q0
    · rw [if_neg (by simp), if_neg (by simp)] at q0
      repeat' (first | with_reducible first | refine kI (by kernel_rfl) ?_ | refine kN (by kernel_rfl) ?_ | simp -implicitDefEqProofs (disch := omega) only [go_sem, Nat.reduceAdd, Nat.reduceSub, reduceCtorEq, Nat.reduceLT, Nat.reduceLeDiff, Nat.reduceEqDiff, ↓reduceIte, List.take_of_length_le, if_pos, if_neg, cnE, cnV, Tryz.ntmps192, Tryz.results192,  c1, e1, e2, hb, q1, q2, hn, q0])
    · rw [if_neg (by simp), if_pos rfl] at q0
      repeat' (first | with_reducible first | refine kI (by kernel_rfl) ?_ | refine kN (by kernel_rfl) ?_ | simp -implicitDefEqProofs (disch := omega) only [go_sem, Nat.reduceAdd, Nat.reduceSub, reduceCtorEq, Nat.reduceLT, Nat.reduceLeDiff, Nat.reduceEqDiff, ↓reduceIte, List.take_of_length_le, if_pos, if_neg, cnE, cnV, Tryz.ntmps192, Tryz.results192,  c1, e1, e2, hb, q1, q2, hn, q0])
    · rw [if_pos rfl, if_neg (by simp)] at q0
      repeat' (first | with_reducible first | refine kI (by kernel_rfl) ?_ | refine kN (by kernel_rfl) ?_ | simp -implicitDefEqProofs (disch := omega) only [go_sem, Nat.reduceAdd, Nat.reduceSub, reduceCtorEq, Nat.reduceLT, Nat.reduceLeDiff, Nat.reduceEqDiff, ↓reduceIte, List.take_of_length_le, if_pos, if_neg, cnE, cnV, Tryz.ntmps192, Tryz.results192,  c1, e1, e2, hb, q1, q2, hn, q0])
    · rw [if_pos rfl, if_pos rfl] at q0
      repeat' (first | with_reducible first | refine kI (by kernel_rfl) ?_ | refine kN (by kernel_rfl) ?_ | simp -implicitDefEqProofs (disch := omega) only [go_sem, Nat.reduceAdd, Nat.reduceSub, reduceCtorEq, Nat.reduceLT, Nat.reduceLeDiff, Nat.reduceEqDiff, ↓reduceIte, List.take_of_length_le, if_pos, if_neg, cnE, cnV, Tryz.ntmps192, Tryz.results192,  c1, e1, e2, hb, q1, q2, hn, q0])
def gHasDim (v : Vi) (d : Int) : Option Bool := gd (viB v) (viewOK v && inR d 0 (v.sh.length - 1))
theorem gHasDim_eq {v : Vi} (h : viB v) (d : Int) : gHasDim v d = some (viewOK v && inR d 0 (v.sh.length - 1)) := gd_eq h
set_option maxHeartbeats 4000000 in
set_option maxRecDepth 100000 in
theorem spec_hasDim {Sg : FuncId → Option (List AV → Option AV)} (hS : Sound Tryz.prog Sg) (hv : Sg 68 = some (F1 gValidV)) : ∀ a r, F2 gHasDim a = some r → CSpec Tryz.prog 160 a r := by
  refine F2_spec ?_
  intro v d r hr
  obtain ⟨h, rfl⟩ := gd_some hr
  refine CSpec.intro Tryz.func160 rfl (own _) (vc3_sound Tryz.pf hS hS _ _ _ ?_)
  have q1 := gValidV_eq h
  unfold inR
  cases e : viewOK v with
  | false =>
    rw [e] at q1
    repeat' (first | with_reducible first | refine kI (by kernel_rfl) ?_ | refine kN (by kernel_rfl) ?_ | simp -implicitDefEqProofs (disch := omega) only [go_sem, Nat.reduceAdd, Nat.reduceSub, reduceCtorEq, Nat.reduceLT, Nat.reduceLeDiff, Nat.reduceEqDiff, ↓reduceIte, List.take_of_length_le, if_pos, if_neg, cnE, cnV, Tryz.ntmps160, Tryz.results160,  hv, q1])
    try rfl
  | true =>
    rw [e] at q1
    have e2 : decide (d ≤ (v.sh.length : Int) - 1) = decide (d < (v.sh.length : Int)) := by rw [decide_eq_decide]; omega
    by_cases c : 0 ≤ d
    · repeat' (first | with_reducible first | refine kI (by kernel_rfl) ?_ | refine kN (by kernel_rfl) ?_ | simp -implicitDefEqProofs (disch := omega) only [go_sem, Nat.reduceAdd, Nat.reduceSub, reduceCtorEq, Nat.reduceLT, Nat.reduceLeDiff, Nat.reduceEqDiff, ↓reduceIte, List.take_of_length_le, if_pos, if_neg, cnE, cnV, Tryz.ntmps160, Tryz.results160,  hv, q1, c, e2])
      try rfl
    · repeat' (first | with_reducible first | refine kI (by kernel_rfl) ?_ | refine kN (by kernel_rfl) ?_ | simp -implicitDefEqProofs (disch := omega) only [go_sem, Nat.reduceAdd, Nat.reduceSub, reduceCtorEq, Nat.reduceLT, Nat.reduceLeDiff, Nat.reduceEqDiff, ↓reduceIte, List.take_of_length_le, if_pos, if_neg, cnE, cnV, Tryz.ntmps160, Tryz.results160,  hv, q1, c])
      try rfl
set_option maxHeartbeats 2000000 in
set_option maxRecDepth 100000 in
theorem isp_cleared {Sg : FuncId → Option (List AV → Option AV)} (hS : Sound Tryz.prog Sg) (hct : Sg 150 = some (F1 gCountOf)) (v : Vi) (b c : Nat) (L : List Blk) (hb : L[b]? = some (stB v.sh)) (hc : L[c]? = some (stB v.st)) (hv : v.sh.length < 4294967296) {m k : Nat} (hm : v.sh.length = m) (hk : v.st.length = k) : ISpec Tryz.prog 193 [.agg [i64 v.b, .sl b m 0 m m, .sl c k 0 k k]] L (fun r L' => ∃ X d, c ≤ d ∧ r = viA b d (tidyF v) ∧ L' = L ++ X ∧ (L ++ X)[b]? = some (stB (tidyF v).sh) ∧ (L ++ X)[d]? = some (stB (tidyF v).st)) := by
  refine ISpec.intro Tryz.func193 rfl (vc_sound Tryz.pf hS _ _ _ ?_)
  subst hm hk
  have hbl := (List.getElem?_eq_some_iff.1 hb).1
  have hcl := (List.getElem?_eq_some_iff.1 hc).1
  have hbx : ∀ X, (L ++ X)[b]? = some (stB v.sh) := fun X => by rw [List.getElem?_append_left hbl]; exact hb
  have hcx : ∀ X, (L ++ X)[c]? = some (stB v.st) := fun X => by rw [List.getElem?_append_left hcl]; exact hc
  have hbt : ∀ X m, b < m → ((L ++ X).take m)[b]? = some (stB v.sh) := fun X m hm => by rw [List.getElem?_take_of_lt hm, hbx]
  have q2 := gCountOf_eq (l := v.sh) (by omega)
  by_cases e1 : prodW v.sh = 0
  · rw [e1] at q2
    have hn : tidyF v = ⟨0, v.sh, List.replicate v.sh.length 0⟩ := by unfold tidyF; rw [if_pos e1]
    rw [hn]
    repeat' (first | with_reducible first | refine kI (by kernel_rfl) ?_ | refine kN (by kernel_rfl) ?_ | simp -implicitDefEqProofs (disch := omega) only [go_sem, Nat.reduceAdd, Nat.reduceSub, reduceCtorEq, Nat.reduceLT, Nat.reduceLeDiff, Nat.reduceEqDiff, ↓reduceIte, List.take_of_length_le, if_pos, if_neg, cnE, cnV, Tryz.ntmps193, Tryz.results193,  hbt, hbx, hct, q2])
    exact ⟨_, L.length + 2, by omega, by simp only [List.length_replicate, viA], rfl, by rw [List.getElem?_append_right (by omega), Nat.add_sub_cancel_left]; rfl⟩
  · have e1' : (prodW v.sh == 0) = false := beq_f e1
    have hn : tidyF v = v := by unfold tidyF; rw [if_neg e1]
    rw [hn]
    repeat' (first | with_reducible first | refine kI (by kernel_rfl) ?_ | refine kN (by kernel_rfl) ?_ | simp -implicitDefEqProofs (disch := omega) only [go_sem, Nat.reduceAdd, Nat.reduceSub, reduceCtorEq, Nat.reduceLT, Nat.reduceLeDiff, Nat.reduceEqDiff, ↓reduceIte, List.take_of_length_le, if_pos, if_neg, cnE, cnV, Tryz.ntmps193, Tryz.results193,  hbt, hct, q2, e1'])
    exact ⟨_, c, Nat.le_refl _, rfl, rfl, hbx _, hcx _⟩
set_option maxHeartbeats 4000000 in
set_option maxRecDepth 100000 in
theorem o_copyViewI {Sg : FuncId → Option (List AV → Option AV)} (hS : Sound Tryz.prog Sg) (v : Vi) (h : viM v) : OSpec Tryz.prog 130 [.agg [i64 v.b, ints 0 v.sh, ints 0 v.st]] (fun n => viA n (n + 1) v) (fun _ => viN v) := by
  refine OSpec.intro Tryz.func130 rfl (vc3_sound Tryz.pf hS hS _ _ _ ?_)
  have hs := h.1
  have ht := h.2
  repeat' (first | with_reducible first | refine kI (by kernel_rfl) ?_ | simp -implicitDefEqProofs (disch := omega) only [go_sem, Nat.reduceAdd, Nat.reduceSub, reduceCtorEq, Nat.reduceLT, Nat.reduceLeDiff, Nat.reduceEqDiff, ↓reduceIte, List.take_of_length_le, if_pos, if_neg, cnE, cnV, Tryz.ntmps130, Tryz.results130])
  refine DrawQ.pendS 6 24 3 1 [([0, 1, 3, 4, 7, 8], 2, [0, 1, 3, 4, 7, 8]), ([], 5, [0, 1, 3, 4, 7, 8]), ([6], 9, [0, 1, 3, 4, 7, 8]), ([10], 11, [0, 1, 3, 4, 7, 8])] [] [0, 1, 3, 4, 7, 8] rfl rfl rfl rfl (by decide) (by kernel_rfl) ?_
  repeat' (first | with_reducible first | refine kI (by kernel_rfl) ?_ | simp -implicitDefEqProofs (disch := omega) only [go_sem, Nat.reduceAdd, Nat.reduceSub, reduceCtorEq, Nat.reduceLT, Nat.reduceLeDiff, Nat.reduceEqDiff, ↓reduceIte, List.take_of_length_le, if_pos, if_neg, cnE, cnV, Tryz.ntmps130, Tryz.results130])
  exact own_vi (b := 2) (c := 3) rfl rfl (by decide)
end Go.Proofs.YtkmnepmnjpdpkaaGreatDoor
namespace Go.Proofs.YtkmnepmnjpdpkaaGreatDoor
open Go Go.Ev Go.RowKit Go.Ev.Enc Go.Pl

theorem can_copyViewI : CanCall Tryz.prog 130 := ⟨_, Tryz.func130, rfl, rfl⟩
theorem can_cleared : CanCall Tryz.prog 193 := ⟨_, Tryz.func193, rfl, rfl⟩
end Go.Proofs.YtkmnepmnjpdpkaaGreatDoor
namespace Go.Proofs.YtkmnepmnjpdpkaaGreatDoor
open Go Go.Ev Go.RowKit Go.Ev.Enc Go.Pl

def sliR (v : Vi) (d : Int) (s : Sl) : Vi × Bool := if viewOK v = true ∧ inR d 0 (v.sh.length - 1) = true ∧ slOK s = true then (slcF v d.toNat (indF (v.sh.getD d.toNat 0) s), true) else (⟨0, [], []⟩, false)
theorem dim_nat {v : Vi} {d : Int} (h : inR d 0 (v.sh.length - 1) = true) : ∃ m : Nat, d = m ∧ m < v.sh.length := by
  unfold inR at h
  simp only [Bool.and_eq_true, decide_eq_true_eq] at h
  exact ⟨d.toNat, by omega, by omega⟩
def gEqV (a b : Vi) : Option Bool := gd (viB2 a b) (decide (a = b))
theorem gEqV_eq {a b : Vi} (h : viB2 a b) : gEqV a b = some (decide (a = b)) := gd_eq h
end Go.Proofs.YtkmnepmnjpdpkaaGreatDoor
namespace Go.Proofs.YtkmnepmnjpdpkaaGreatDoor
open Go Go.Ev Go.RowKit Go.Ev.Enc Go.Pl

theorem sli_some {v : Vi} {d : Int} {s : Sl} : sliF v d s = if (sliR v d s).2 = true then some (sliR v d s).1 else none := by
  unfold sliF sliR
  by_cases h : viewOK v = true ∧ inR d 0 (v.sh.length - 1) = true ∧ slOK s = true
  · rw [if_pos h, if_pos h, if_pos rfl]
    obtain ⟨m, rfl, hm⟩ := dim_nat h.2.1
    rw [Int.toNat_natCast]
    exact cut_made h.1 hm h.2.2
  · rw [if_neg h, if_neg h]
    rfl
theorem ok_viB {v : Vi} (h : viewOK v = true) : viB v := ⟨by have := (shape_facts (vOK h).1).1; omega, by have := (shape_facts (vOK h).1).1; have := (vOK h).2; omega⟩
end Go.Proofs.YtkmnepmnjpdpkaaGreatDoor
namespace Go.Proofs.YtkmnepmnjpdpkaaGreatDoor
open Go Go.Ev Go.RowKit Go.Ev.Enc Go.Pl

theorem gcV_tup (n : Nat) (L : List Blk) (l : List AV) : gcV n L (.tup l) = .tup (l.map (expE (gcC n L))) := rfl
theorem xE_int (n : Nat) (L : List Blk) (k : IntKind) (m : Int) : expE (gcC n L) (.int k m) = .int k m := rfl
theorem xE_bool (n : Nat) (L : List Blk) (b : Bool) : expE (gcC n L) (.bool b) = .bool b := rfl
theorem xE_agg (n : Nat) (L : List Blk) (l : List AV) : expE (gcC n L) (.agg l) = .agg (l.map (gcC n L)) := rfl
theorem gcC_ints' (n : Nat) (L : List Blk) (t : Nat) (l : List Int) : gcC n L (ints t l) = ints t l := by
  simp [gcC, gcStep, expE, ints, Function.comp_def]
attribute [go_sem] gcV_tup xE_int xE_bool xE_agg gcC_ints'
end Go.Proofs.YtkmnepmnjpdpkaaGreatDoor
namespace Go.Proofs.YtkmnepmnjpdpkaaGreatDoor
open Go Go.Ev Go.RowKit Go.Ev.Enc Go.Pl

def stoV (m : List Int) (v : Vi) (V : List Int) : List Int := stoT m (offF v) V (offF v).length
set_option maxHeartbeats 4000000 in
set_option maxRecDepth 100000 in
theorem spec_load {Sg : FuncId → Option (List AV → Option AV)} (hS : Sound Tryz.prog Sg) (ho : Sg 143 = some (F1 gOffsets)) : ∀ a r, F2 gLoadI a = some r → CSpec Tryz.prog 103 a r := by
  refine F2_spec ?_
  intro m v r hr
  obtain ⟨h, rfl⟩ := gd_some hr
  refine CSpec.intro Tryz.func103 rfl (own _) (vc3_sound Tryz.pf hS hS _ _ _ ?_)
  obtain ⟨h1, h2, h3⟩ := fit_in h
  have hm := (memOK_iff.1 h1).1
  have h6 := offF_60 (vOK h2).1
  have q1 := gOffsets_eq (vOK h2)
  have hv0 : viB0 v = viB0 v := rfl
  repeat' (first | with_reducible first | refine kI (by kernel_rfl) ?_ | refine kN (by kernel_rfl) ?_ | simp -implicitDefEqProofs (disch := omega) only [go_sem, Nat.reduceAdd, Nat.reduceSub, reduceCtorEq, Nat.reduceLT, Nat.reduceLeDiff, Nat.reduceEqDiff, ↓reduceIte, List.take_of_length_le, if_pos, if_neg, cnE, cnV, Tryz.ntmps103, Tryz.results103,  ho, q1])
  generalize offF v = A at *
  refine LoopQ.mix (fun t0 L0 nn ss => ∃ (k : Nat) (q : List Int) (_ : Unit), (∃ x : Nat → AV, ss = ⟨mixL 0 (.k :: .k :: .k :: .k :: .k :: .v (.sl 1 k 0 k k) :: .k :: .v (i64 (k : Nat)) :: .k :: .k :: .k :: .s :: .s :: .s :: .s :: .s :: .s :: .s :: .s :: .s :: .s :: .s :: .s :: .s :: .s :: .s :: .s :: .k :: []) t0 x, [viB0 v, ⟨1, q.map fun n => .int .i64 n⟩]⟩) ∧ (k ≤ A.length) ∧ (q.length = k) ∧ (q = tkn m (A.take k)) ∧ nn = A.length - k) ?_ ?_
  · exact ⟨_, ⟨0, [], (), mixI rfl, Nat.zero_le _, rfl, rfl, rfl⟩⟩
  · rintro I0 hI0 nn s ⟨k, q, _, ⟨x, rfl⟩, g1, g2, g3, rfl⟩
    by_cases hk : k < A.length
    · have hki : (k : Int) < (A.length : Int) := by omega
      obtain ⟨j, hj, hjm⟩ := in_at h3 hk
      have hs := tkn_take (e := m) (l := A) hk
      rw [hj, Int.toNat_natCast, ← g3] at hs
      repeat' (first | with_reducible first | refine kI (by kernel_rfl) ?_ | refine kN (by kernel_rfl) ?_ | simp -implicitDefEqProofs (disch := omega) only [go_sem, Nat.reduceAdd, Nat.reduceSub, reduceCtorEq, Nat.reduceLT, Nat.reduceLeDiff, Nat.reduceEqDiff, ↓reduceIte, List.take_of_length_le, if_pos, if_neg, cnE, cnV, Tryz.ntmps103, Tryz.results103,  hki, getD_ints hk, hj, getD_ints hjm])
      exact ⟨A.length - (k + 1), by omega, hI0 _ _ ⟨k + 1, q ++ [m.getD j 0], (), mixI rfl, hk, by simp [g2], hs, rfl⟩⟩
    · obtain rfl : k = A.length := by omega
      rw [List.take_length] at g3
      subst g3
      repeat' (first | with_reducible first | refine kI (by kernel_rfl) ?_ | refine kN (by kernel_rfl) ?_ | simp -implicitDefEqProofs (disch := omega) only [go_sem, Nat.reduceAdd, Nat.reduceSub, reduceCtorEq, Nat.reduceLT, Nat.reduceLeDiff, Nat.reduceEqDiff, ↓reduceIte, List.take_of_length_le, if_pos, if_neg, cnE, cnV, Tryz.ntmps103, Tryz.results103])
def stB3 (m : List Int) (v : Vi) (V : List Int) : Prop := memB m v ∧ V.length < 4294967296
instance (m : List Int) (v : Vi) (V : List Int) : Decidable (stB3 m v V) := by unfold stB3; infer_instance
end Go.Proofs.YtkmnepmnjpdpkaaGreatDoor
namespace Go.Proofs.YtkmnepmnjpdpkaaGreatDoor
open Go Go.Ev Go.RowKit Go.Ev.Enc Go.Pl

def cpyB (m : List Int) (a b : Vi) : Bool := holdB m a && (holdB m b && decide (a.sh = b.sh))
theorem cpyB_iff {m : List Int} {a b : Vi} : cpyB m a b = true ↔ holdB m a = true ∧ holdB m b = true ∧ a.sh = b.sh := by
  unfold cpyB
  rw [Bool.and_eq_true, Bool.and_eq_true, decide_eq_true_eq]
def mB2 (m : List Int) (a b : Vi) : Prop := m.length < 4294967296 ∧ viB2 a b
instance (m : List Int) (a b : Vi) : Decidable (mB2 m a b) := by unfold mB2; infer_instance
def gCanC (m : List Int) (a b : Vi) : Option Bool := gd (mB2 m a b) (cpyB m a b)
theorem gCanC_eq {m : List Int} {a b : Vi} (h : mB2 m a b) : gCanC m a b = some (cpyB m a b) := gd_eq h
set_option maxHeartbeats 4000000 in
set_option maxRecDepth 100000 in
theorem spec_pair {Sg : FuncId → Option (List AV → Option AV)} (hS : Sound Tryz.prog Sg) (hh : Sg 199 = some (F2 gHolds)) (he : Sg 221 = some (F2 gEqInts)) : ∀ a r, F3 gCanC a = some r → CSpec Tryz.prog 200 a r := by
  refine F3_spec ?_
  intro m a b r hr0
  obtain ⟨⟨h1, h2⟩, rfl⟩ := gd_some hr0
  refine CSpec.intro Tryz.func200 rfl (own _) (vc3_sound Tryz.pf hS hS _ _ _ ?_)
  have q1 := gHolds_eq (m := m) (v := a) ⟨h1, h2.1⟩
  have q2 := gHolds_eq (m := m) (v := b) ⟨h1, h2.2⟩
  have q3 := gEqInts_eq (a := a.sh) (b := b.sh) ⟨h2.1.1, h2.2.1⟩
  unfold cpyB
  cases e1 : holdB m a with
  | false =>
    rw [e1] at q1
    repeat' (first | with_reducible first | refine kI (by kernel_rfl) ?_ | refine kN (by kernel_rfl) ?_ | simp -implicitDefEqProofs (disch := omega) only [go_sem, Nat.reduceAdd, Nat.reduceSub, reduceCtorEq, Nat.reduceLT, Nat.reduceLeDiff, Nat.reduceEqDiff, ↓reduceIte, List.take_of_length_le, if_pos, if_neg, cnE, cnV, Tryz.ntmps200, Tryz.results200,  hh, q1])
    try rfl
  | true =>
    rw [e1] at q1
    cases e2 : holdB m b with
    | false =>
      rw [e2] at q2
      repeat' (first | with_reducible first | refine kI (by kernel_rfl) ?_ | refine kN (by kernel_rfl) ?_ | simp -implicitDefEqProofs (disch := omega) only [go_sem, Nat.reduceAdd, Nat.reduceSub, reduceCtorEq, Nat.reduceLT, Nat.reduceLeDiff, Nat.reduceEqDiff, ↓reduceIte, List.take_of_length_le, if_pos, if_neg, cnE, cnV, Tryz.ntmps200, Tryz.results200,  hh, q1, q2])
      try rfl
    | true =>
      rw [e2] at q2
      repeat' (first | with_reducible first | refine kI (by kernel_rfl) ?_ | refine kN (by kernel_rfl) ?_ | simp -implicitDefEqProofs (disch := omega) only [go_sem, Nat.reduceAdd, Nat.reduceSub, reduceCtorEq, Nat.reduceLT, Nat.reduceLeDiff, Nat.reduceEqDiff, ↓reduceIte, List.take_of_length_le, if_pos, if_neg, cnE, cnV, Tryz.ntmps200, Tryz.results200,  hh, q1, q2, he, q3])
      try rfl
set_option maxHeartbeats 4000000 in
set_option maxRecDepth 100000 in
theorem spec_canCopy {Sg : FuncId → Option (List AV → Option AV)} (hS : Sound Tryz.prog Sg) (hh : Sg 163 = some (F2 gHolds)) (he : Sg 194 = some (F2 gEqInts)) : ∀ a r, F3 gCanC a = some r → CSpec Tryz.prog 164 a r := by
  refine F3_spec ?_
  intro m a b r hr0
  obtain ⟨⟨h1, h2⟩, rfl⟩ := gd_some hr0
  refine CSpec.intro Tryz.func164 rfl (own _) (vc3_sound Tryz.pf hS hS _ _ _ ?_)
  have q1 := gHolds_eq (m := m) (v := a) ⟨h1, h2.1⟩
  have q2 := gHolds_eq (m := m) (v := b) ⟨h1, h2.2⟩
  have q3 := gEqInts_eq (a := a.sh) (b := b.sh) ⟨h2.1.1, h2.2.1⟩
  unfold cpyB
  cases e1 : holdB m a with
  | false =>
    rw [e1] at q1
    repeat' (first | with_reducible first | refine kI (by kernel_rfl) ?_ | refine kN (by kernel_rfl) ?_ | simp -implicitDefEqProofs (disch := omega) only [go_sem, Nat.reduceAdd, Nat.reduceSub, reduceCtorEq, Nat.reduceLT, Nat.reduceLeDiff, Nat.reduceEqDiff, ↓reduceIte, List.take_of_length_le, if_pos, if_neg, cnE, cnV, Tryz.ntmps164, Tryz.results164,  hh, q1])
    try rfl
  | true =>
    rw [e1] at q1
    cases e2 : holdB m b with
    | false =>
      rw [e2] at q2
      repeat' (first | with_reducible first | refine kI (by kernel_rfl) ?_ | refine kN (by kernel_rfl) ?_ | simp -implicitDefEqProofs (disch := omega) only [go_sem, Nat.reduceAdd, Nat.reduceSub, reduceCtorEq, Nat.reduceLT, Nat.reduceLeDiff, Nat.reduceEqDiff, ↓reduceIte, List.take_of_length_le, if_pos, if_neg, cnE, cnV, Tryz.ntmps164, Tryz.results164,  hh, q1, q2])
      try rfl
    | true =>
      rw [e2] at q2
      repeat' (first | with_reducible first | refine kI (by kernel_rfl) ?_ | refine kN (by kernel_rfl) ?_ | simp -implicitDefEqProofs (disch := omega) only [go_sem, Nat.reduceAdd, Nat.reduceSub, reduceCtorEq, Nat.reduceLT, Nat.reduceLeDiff, Nat.reduceEqDiff, ↓reduceIte, List.take_of_length_le, if_pos, if_neg, cnE, cnV, Tryz.ntmps164, Tryz.results164,  hh, q1, q2, he, q3])
      try rfl
theorem len_off {a b : Vi} (h : a.sh = b.sh) : (offF b).length = (offF a).length := by rw [offF_len, offF_len, h]
instance (A : List Int) (n : Nat) : Decidable (inM A n) := by unfold inM; infer_instance
def stB4 (m A B O : List Int) : Prop := (m.length ≤ 1000 ∧ A.length < 4294967296 ∧ B.length < 4294967296 ∧ O.length < 4294967296) ∧ inM A m.length ∧ inM B m.length ∧ inM O A.length ∧ inM O B.length
instance (m A B O : List Int) : Decidable (stB4 m A B O) := by unfold stB4; infer_instance
theorem tkn_val {m A : List Int} (hm : memOK m = true) (hA : inM A m.length) : ∀ x ∈ tkn m A, 0 ≤ x ∧ x ≤ 255 := fun x hx => by
  obtain ⟨y, hy, rfl⟩ := List.mem_map.1 hx
  have := hA y hy
  exact (memOK_iff.1 hm).2 _ (gmem (by omega))
end Go.Proofs.YtkmnepmnjpdpkaaGreatDoor
