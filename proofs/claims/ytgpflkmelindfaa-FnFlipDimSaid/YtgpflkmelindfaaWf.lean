/- Contracts of functions that the laws of this seat call. -/
import Derived.Test.YtgpflkmelindfaaWe
set_option linter.all false
namespace Go.Proofs.Ytgpflkmelindfaa
open Go Go.Ev Go.RowKit Go.Ev.Enc Go.Pl

theorem can_DrawTilesOf : CanCall Try.prog 26 := ⟨_, Try.func26, rfl, rfl⟩
theorem ee_viT (x : Nat × Vi) (t : Nat) (L : List Blk) : expE (expC 0 L) (viT x) = .agg [.int .i64 x.2.b, ints 0 x.2.sh, ints 0 x.2.st] := by
  simp [expE, expC, stepC, Function.comp_def, ints]
set_option maxHeartbeats 8000000 in
set_option maxRecDepth 100000 in
theorem law_TilesOf {Sg Sd : FuncId → Option (List AV → Option AV)} (hS : Sound Try.prog Sg) (hD : Sound Try.prog Sd) (n1 : Sg 26 = none) (h1 : Sg 27 = some (F2 gTiles)) (h2 : Sg 28 = some (F2 gTiles)) (h3 : Sg 29 = some (F2 gHold)) (h4 : Sd 25 = some (F2 gDoOv)) (h5 : Sg 30 = some (F1 gOneT)) (h6 : Sg 31 = some (F2 gFitsT)) (hDr : DrHold 26) : ∀ a r, F1 gTrueW a = some r → CSpec Try.prog 6 a r := by
  refine F1_spec ?_
  intro bs r hr
  obtain ⟨g1, rfl⟩ := gd_some hr
  refine law3 Try.func6 rfl Try.pf hS hD ?_
  by_cases hb : 1048576 < bs.length
  · repeat' (first | with_reducible first | refine kI (by kernel_rfl) ?_ | refine kN (by kernel_rfl) ?_ | (first | refine kB1 ?_ ?_ | refine kB2 ?_ ?_) <;> intro hp | (first | refine kD1 ?_ ?_ | refine kD2 ?_ ?_ | refine kS1 ?_ ?_ | refine kS2 ?_ ?_) <;> intro hp <;> try simp only [hp] | simp -implicitDefEqProofs (disch := omega) only [go_sem, Nat.reduceAdd, Nat.reduceSub, reduceCtorEq, Nat.reduceLT, Nat.reduceLeDiff, Nat.reduceEqDiff, Nat.reduceMul, Int.reduceToNat, ↓reduceIte, List.take_of_length_le, if_pos, if_neg, List.getElem?_set_self, List.set_set, cnE, cnV, Try.ntmps6, Try.results6])
  · repeat' (first | with_reducible first | refine kI (by kernel_rfl) ?_ | refine kN (by kernel_rfl) ?_ | (first | refine kB1 ?_ ?_ | refine kB2 ?_ ?_) <;> intro hp | (first | refine kD1 ?_ ?_ | refine kD2 ?_ ?_ | refine kS1 ?_ ?_ | refine kS2 ?_ ?_) <;> intro hp <;> try simp only [hp] | simp -implicitDefEqProofs (disch := omega) only [go_sem, Nat.reduceAdd, Nat.reduceSub, reduceCtorEq, Nat.reduceLT, Nat.reduceLeDiff, Nat.reduceEqDiff, Nat.reduceMul, Int.reduceToNat, ↓reduceIte, List.take_of_length_le, if_pos, if_neg, List.getElem?_set_self, List.set_set, cnE, cnV, Try.ntmps6, Try.results6,  n1, opQ_none])
    refine InlK_intro rfl rfl can_DrawTilesOf ((hDr bs (by omega) _).mono ?_)
    rintro r L1 ⟨q, z, hl, rfl, rfl⟩
    have hql : (q.map (·.2)).length = q.length := by simp
    have hel := fun k => getD_snd (q := q) (k := k)
    have hee := fun L => ee_vit 1 L q
    generalize q.map (·.2) = l at *
    have hl1 := hl.1
    have q1 := gTiles_eq hl z
    cases e : tilesB l z with
    | false =>
      rw [e] at q1
      repeat' (first | with_reducible first | refine kI (by kernel_rfl) ?_ | refine kN (by kernel_rfl) ?_ | (first | refine kB1 ?_ ?_ | refine kB2 ?_ ?_) <;> intro hp | (first | refine kD1 ?_ ?_ | refine kD2 ?_ ?_ | refine kS1 ?_ ?_ | refine kS2 ?_ ?_) <;> intro hp <;> try simp only [hp] | simp -implicitDefEqProofs (disch := omega) only [go_sem, Nat.reduceAdd, Nat.reduceSub, reduceCtorEq, Nat.reduceLT, Nat.reduceLeDiff, Nat.reduceEqDiff, Nat.reduceMul, Int.reduceToNat, ↓reduceIte, List.take_of_length_le, if_pos, if_neg, List.getElem?_set_self, List.set_set, cnE, cnV, Try.ntmps6, Try.results6,  hee, h1, q1, h2])
    | true =>
      rw [e] at q1
      unfold tilesB at e
      simp only [Bool.and_eq_true] at e
      obtain ⟨e1, e2, e3⟩ := e
      have hzb : 0 ≤ z ∧ z ≤ 60 := by unfold inR at e2; simpa using e2
      obtain ⟨p1, p2, p3, p4⟩ := perm_facts e3
      obtain ⟨h8, hall⟩ := vsOK_all e1
      obtain ⟨n, rfl⟩ : ∃ n : Nat, z = n := ⟨z.toNat, by omega⟩
      repeat' (first | with_reducible first | refine kI (by kernel_rfl) ?_ | refine kN (by kernel_rfl) ?_ | (first | refine kB1 ?_ ?_ | refine kB2 ?_ ?_) <;> intro hp | (first | refine kD1 ?_ ?_ | refine kD2 ?_ ?_ | refine kS1 ?_ ?_ | refine kS2 ?_ ?_) <;> intro hp <;> try simp only [hp] | simp -implicitDefEqProofs (disch := omega) only [go_sem, Nat.reduceAdd, Nat.reduceSub, reduceCtorEq, Nat.reduceLT, Nat.reduceLeDiff, Nat.reduceEqDiff, Nat.reduceMul, Int.reduceToNat, ↓reduceIte, List.take_of_length_le, if_pos, if_neg, List.getElem?_set_self, List.set_set, cnE, cnV, Try.ntmps6, Try.results6,  hee, h1, q1, h2])
      refine LoopQ.mix (fun t0 L0 nn ss => ∃ (k : Nat) (_ : Unit), (∃ x : Nat → AV, ss = ⟨mixL 0 (.k :: .k :: .s :: .k :: .k :: .k :: .v (i64 (k : Nat)) :: .k :: .k :: .k :: .k :: .k :: .k :: .k :: .k :: .k :: .k :: .k :: .k :: .k :: .k :: .k :: .k :: .k :: .k :: .k :: .k :: .k :: .k :: .k :: .k :: .k :: .k :: .k :: .s :: .s :: .s :: .s :: .s :: .s :: .s :: .s :: .s :: .s :: .k :: .k :: .k :: .k :: .k :: .k :: .k :: .k :: .k :: .k :: .k :: .k :: .k :: .k :: .k :: .k :: .k :: .k :: .k :: .k :: .k :: .k :: .k :: .k :: .k :: .k :: .k :: .k :: .k :: .k :: .k :: .k :: .k :: .k :: .k :: []) t0 x, L0⟩) ∧ (k ≤ n) ∧ nn = n - k) ?_ ?_
      · exact ⟨_, ⟨0, (), mixI rfl, Nat.zero_le _, rfl⟩⟩
      · rintro I0 hI0 nn s ⟨k, _, ⟨x, rfl⟩, m1, rfl⟩
        by_cases hk : k < n
        · have hki : (k : Int) < (n : Int) := by omega
          have q3 := gHold_eq hl (k : Int)
          rw [e1, if_pos rfl] at q3
          have q4 := hold_one p1 (p4 (k : Int) (by omega) hki)
          have q5 : ((((hldT l (k : Int) l.length).length : Nat) : Int) == 1) = true := beq_t (by omega)
          generalize hldT l (k : Int) l.length = H at *
          repeat' (first | with_reducible first | refine kI (by kernel_rfl) ?_ | refine kN (by kernel_rfl) ?_ | (first | refine kB1 ?_ ?_ | refine kB2 ?_ ?_) <;> intro hp | (first | refine kD1 ?_ ?_ | refine kD2 ?_ ?_ | refine kS1 ?_ ?_ | refine kS2 ?_ ?_) <;> intro hp <;> try simp only [hp] | simp -implicitDefEqProofs (disch := omega) only [go_sem, Nat.reduceAdd, Nat.reduceSub, reduceCtorEq, Nat.reduceLT, Nat.reduceLeDiff, Nat.reduceEqDiff, Nat.reduceMul, Int.reduceToNat, ↓reduceIte, List.take_of_length_le, if_pos, if_neg, List.getElem?_set_self, List.set_set, cnE, cnV, Try.ntmps6, Try.results6,  hki, hee, h3, q3, q5])
          exact ⟨n - (k + 1), by omega, hI0 _ _ ⟨k + 1, (), mixI rfl, hk, rfl⟩⟩
        · obtain rfl : k = n := by omega
          repeat' (first | with_reducible first | refine kI (by kernel_rfl) ?_ | refine kN (by kernel_rfl) ?_ | (first | refine kB1 ?_ ?_ | refine kB2 ?_ ?_) <;> intro hp | (first | refine kD1 ?_ ?_ | refine kD2 ?_ ?_ | refine kS1 ?_ ?_ | refine kS2 ?_ ?_) <;> intro hp <;> try simp only [hp] | simp -implicitDefEqProofs (disch := omega) only [go_sem, Nat.reduceAdd, Nat.reduceSub, reduceCtorEq, Nat.reduceLT, Nat.reduceLeDiff, Nat.reduceEqDiff, Nat.reduceMul, Int.reduceToNat, ↓reduceIte, List.take_of_length_le, if_pos, if_neg, List.getElem?_set_self, List.set_set, cnE, cnV, Try.ntmps6, Try.results6])
          refine LoopQ.mix (fun t0 L0 nn ss => ∃ (i : Nat) (_ : Unit), (∃ x : Nat → AV, ss = ⟨mixL 0 (.k :: .k :: .s :: .k :: .k :: .k :: .k :: .v (i64 (i : Nat)) :: .s :: .k :: .k :: .k :: .k :: .k :: .k :: .k :: .k :: .k :: .k :: .k :: .k :: .k :: .k :: .k :: .k :: .k :: .k :: .k :: .k :: .k :: .k :: .k :: .k :: .k :: .k :: .k :: .k :: .k :: .k :: .k :: .k :: .k :: .k :: .k :: .s :: .s :: .s :: .s :: .s :: .s :: .s :: .s :: .s :: .s :: .s :: .s :: .s :: .s :: .s :: .s :: .s :: .s :: .s :: .s :: .s :: .s :: .s :: .s :: .s :: .s :: .s :: .s :: .s :: .s :: .s :: .s :: .s :: .s :: .s :: []) t0 x, L0⟩) ∧ (i ≤ q.length) ∧ nn = q.length - i) ?_ ?_
          · exact ⟨_, ⟨0, (), mixI rfl, Nat.zero_le _, rfl⟩⟩
          · rintro I1 hI1 nn1 s1 ⟨i, _, ⟨x1, rfl⟩, m1, rfl⟩
            by_cases hi : i < q.length
            · have hii : (i : Int) < (q.length : Int) := by omega
              have hil : i < l.length := by omega
              have hmi : l.getD i ⟨0, [], []⟩ ∈ l := by simp [hil]
              have hoi := hall _ hmi
              have hbi := hl.2 _ hmi
              have g1 := gOneT_eq hbi
              rw [hoi, all_one p1 hmi] at g1
              have g2 := gFitsT_eq hbi (k : Int)
              have hfit : fitB (l.getD i ⟨0, [], []⟩) (k : Int) = true := by
                unfold fitB
                rw [List.all_eq_true]
                intro y hy
                have := p2 y (List.mem_flatten.2 ⟨_, List.mem_map.2 ⟨_, hmi, rfl⟩, hy⟩)
                exact decide_eq_true this.2
              rw [hoi, e2, hfit] at g2
              have gd' := hel i
              repeat' (first | with_reducible first | refine kI (by kernel_rfl) ?_ | refine kN (by kernel_rfl) ?_ | (first | refine kB1 ?_ ?_ | refine kB2 ?_ ?_) <;> intro hp | (first | refine kD1 ?_ ?_ | refine kD2 ?_ ?_ | refine kS1 ?_ ?_ | refine kS2 ?_ ?_) <;> intro hp <;> try simp only [hp] | simp -implicitDefEqProofs (disch := omega) only [go_sem, Nat.reduceAdd, Nat.reduceSub, reduceCtorEq, Nat.reduceLT, Nat.reduceLeDiff, Nat.reduceEqDiff, Nat.reduceMul, Int.reduceToNat, ↓reduceIte, List.take_of_length_le, if_pos, if_neg, List.getElem?_set_self, List.set_set, cnE, cnV, Try.ntmps6, Try.results6,  hii])
              refine LoopQ.mix (fun t0 L0 nn ss => ∃ (j : Nat) (_ : Unit), (∃ x : Nat → AV, ss = ⟨mixL 0 (.k :: .k :: .s :: .k :: .k :: .k :: .k :: .k :: .v (i64 (j : Nat)) :: .k :: .k :: .k :: .k :: .k :: .k :: .k :: .k :: .k :: .k :: .k :: .k :: .k :: .k :: .k :: .k :: .k :: .k :: .k :: .k :: .k :: .k :: .k :: .k :: .k :: .k :: .k :: .k :: .k :: .k :: .k :: .k :: .k :: .k :: .k :: .k :: .k :: .k :: .k :: .k :: .k :: .s :: .s :: .s :: .s :: .s :: .s :: .s :: .s :: .s :: .s :: .s :: .s :: .s :: .s :: .k :: .k :: .k :: .k :: .k :: .k :: .k :: .k :: .k :: .k :: .k :: .k :: .k :: .k :: .k :: []) t0 x, L0⟩) ∧ (j ≤ i) ∧ nn = i - j) ?_ ?_
              · exact ⟨_, ⟨0, (), mixI rfl, Nat.zero_le _, rfl⟩⟩
              · rintro I2 hI2 nn2 s2 ⟨j, _, ⟨x2, rfl⟩, m2, rfl⟩
                by_cases hj : j < i
                · have hji : (j : Int) < (i : Int) := by omega
                  have hjq : j < q.length := by omega
                  have hjl : j < l.length := by omega
                  have hmj : l.getD j ⟨0, [], []⟩ ∈ l := by simp [hjl]
                  have hoj := hall _ hmj
                  have hbj := hl.2 _ hmj
                  have g3 := gDoOv_eq (a := l.getD i ⟨0, [], []⟩) (b := l.getD j ⟨0, [], []⟩) ⟨hbi, hbj⟩
                  rw [okk_iff.2 ⟨hoi, hoj⟩, Bool.true_and, decide_eq_false (all_disj p1 hil hj)] at g3
                  rw [hel i, hel j] at g3
                  repeat' (first | with_reducible first | refine kI (by kernel_rfl) ?_ | refine kN (by kernel_rfl) ?_ | (first | refine kB1 ?_ ?_ | refine kB2 ?_ ?_) <;> intro hp | (first | refine kD1 ?_ ?_ | refine kD2 ?_ ?_ | refine kS1 ?_ ?_ | refine kS2 ?_ ?_) <;> intro hp <;> try simp only [hp] | simp -implicitDefEqProofs (disch := omega) only [go_sem, Nat.reduceAdd, Nat.reduceSub, reduceCtorEq, Nat.reduceLT, Nat.reduceLeDiff, Nat.reduceEqDiff, Nat.reduceMul, Int.reduceToNat, ↓reduceIte, List.take_of_length_le, if_pos, if_neg, List.getElem?_set_self, List.set_set, cnE, cnV, Try.ntmps6, Try.results6,  hji, getD_vit hi, getD_vit hjq, h4, g3])
                  exact ⟨i - (j + 1), by omega, hI2 _ _ ⟨j + 1, (), mixI rfl, hj, rfl⟩⟩
                · obtain rfl : j = i := by omega
                  rw [hel j] at g1 g2
                  repeat' (first | with_reducible first | refine kI (by kernel_rfl) ?_ | refine kN (by kernel_rfl) ?_ | (first | refine kB1 ?_ ?_ | refine kB2 ?_ ?_) <;> intro hp | (first | refine kD1 ?_ ?_ | refine kD2 ?_ ?_ | refine kS1 ?_ ?_ | refine kS2 ?_ ?_) <;> intro hp <;> try simp only [hp] | simp -implicitDefEqProofs (disch := omega) only [go_sem, Nat.reduceAdd, Nat.reduceSub, reduceCtorEq, Nat.reduceLT, Nat.reduceLeDiff, Nat.reduceEqDiff, Nat.reduceMul, Int.reduceToNat, ↓reduceIte, List.take_of_length_le, if_pos, if_neg, List.getElem?_set_self, List.set_set, cnE, cnV, Try.ntmps6, Try.results6,  getD_vit hi, h5, g1, h6, g2])
                  exact ⟨q.length - (j + 1), by omega, hI1 _ _ ⟨j + 1, (), mixI rfl, hi, rfl⟩⟩
            · obtain rfl : i = q.length := by omega
              repeat' (first | with_reducible first | refine kI (by kernel_rfl) ?_ | refine kN (by kernel_rfl) ?_ | (first | refine kB1 ?_ ?_ | refine kB2 ?_ ?_) <;> intro hp | (first | refine kD1 ?_ ?_ | refine kD2 ?_ ?_ | refine kS1 ?_ ?_ | refine kS2 ?_ ?_) <;> intro hp <;> try simp only [hp] | simp -implicitDefEqProofs (disch := omega) only [go_sem, Nat.reduceAdd, Nat.reduceSub, reduceCtorEq, Nat.reduceLT, Nat.reduceLeDiff, Nat.reduceEqDiff, Nat.reduceMul, Int.reduceToNat, ↓reduceIte, List.take_of_length_le, if_pos, if_neg, List.getElem?_set_self, List.set_set, cnE, cnV, Try.ntmps6, Try.results6])
set_option maxHeartbeats 4000000 in
set_option maxRecDepth 100000 in
theorem isp_DrawTilesOf {Sg : FuncId → Option (List AV → Option AV)} (hS : Sound Try.prog Sg) (h6 : Sg 48 = none) (h7 : Sg 74 = none) (bs : List UInt8) (hb : bs.length ≤ 1048576) (L : List Blk) (hti : TilO) : ISpec Try.prog 26 [bytesA 0 bs] (L) (fun r L' => ∃ (q : List (Nat × Vi)) (x : Int), vsB (q.map (·.2)) ∧ r = .tup [.ds 1 (q.map viT), i64 x] ∧ L' = L) := by
  refine ISpec.ret Try.func26 rfl (vc3_sound Try.pf hS hS _ _ _ ?_)
  repeat' (first | with_reducible first | refine kI (by kernel_rfl) ?_ | refine kN (by kernel_rfl) ?_ | (first | refine kB1 ?_ ?_ | refine kB2 ?_ ?_) <;> intro hp | (first | refine kD1 ?_ ?_ | refine kD2 ?_ ?_ | refine kS1 ?_ ?_ | refine kS2 ?_ ?_) <;> intro hp <;> try simp only [hp] | simp -implicitDefEqProofs (disch := omega) only [go_sem, Nat.reduceAdd, Nat.reduceSub, reduceCtorEq, Nat.reduceLT, Nat.reduceLeDiff, Nat.reduceEqDiff, Nat.reduceMul, Int.reduceToNat, ↓reduceIte, List.take_of_length_le, if_pos, if_neg, List.getElem?_set_self, List.set_set, cnE, cnV, Try.ntmps26, Try.results26,  h6, opQ_none])
  refine InlK_intro rfl rfl can_newRd ((isp_newReader hS bs hb _).mono ?_)
  rintro r L1 ⟨rfl, rfl⟩
  have hb2 : (bs.take 2000).length ≤ 2000 := by simp; omega
  repeat' (first | with_reducible first | refine kI (by kernel_rfl) ?_ | refine kN (by kernel_rfl) ?_ | (first | refine kB1 ?_ ?_ | refine kB2 ?_ ?_) <;> intro hp | (first | refine kD1 ?_ ?_ | refine kD2 ?_ ?_ | refine kS1 ?_ ?_ | refine kS2 ?_ ?_) <;> intro hp <;> try simp only [hp] | simp -implicitDefEqProofs (disch := omega) only [go_sem, Nat.reduceAdd, Nat.reduceSub, reduceCtorEq, Nat.reduceLT, Nat.reduceLeDiff, Nat.reduceEqDiff, Nat.reduceMul, Int.reduceToNat, ↓reduceIte, List.take_of_length_le, if_pos, if_neg, List.getElem?_set_self, List.set_set, cnE, cnV, Try.ntmps26, Try.results26,  h7, opQ_none])
  refine InlK_intro rfl rfl can_tiling ((hti (RC.new (bs.take 2000) L) hb2 0 (by omega)).mono ?_)
  rintro r L1 ⟨q, z, p', k1, rfl, m1, m2, rfl⟩
  repeat' (first | with_reducible first | refine kI (by kernel_rfl) ?_ | refine kN (by kernel_rfl) ?_ | (first | refine kB1 ?_ ?_ | refine kB2 ?_ ?_) <;> intro hp | (first | refine kD1 ?_ ?_ | refine kD2 ?_ ?_ | refine kS1 ?_ ?_ | refine kS2 ?_ ?_) <;> intro hp <;> try simp only [hp] | simp -implicitDefEqProofs (disch := omega) only [go_sem, Nat.reduceAdd, Nat.reduceSub, reduceCtorEq, Nat.reduceLT, Nat.reduceLeDiff, Nat.reduceEqDiff, Nat.reduceMul, Int.reduceToNat, ↓reduceIte, List.take_of_length_le, if_pos, if_neg, List.getElem?_set_self, List.set_set, cnE, cnV, Try.ntmps26, Try.results26])
  refine RetQ.top ⟨q, z, k1, ?_, rfl⟩
  rw [selV_tup]
  simp only [List.map_cons, List.map_nil, expE, selC_vit, selC_int]
end Go.Proofs.Ytgpflkmelindfaa
