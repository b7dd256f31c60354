/- Contracts of functions that the laws of this seat call. -/
import Derived.Test.YtgepbcakcjdmoaaVt
set_option linter.all false
namespace Go.Proofs.Ytgepbcakcjdmoaa
open Go Go.Ev Go.RowKit Go.Ev.Enc Go.Pl

def DrTwo (f : FuncId) : Prop := ∀ (bs : List UInt8), bs.length ≤ 1048576 → ∀ L : List Blk, ISpec Try.prog f [bytesA 0 bs] L fun r L' => ∃ a b : Vi, ((a.sh.length ≤ 4 ∧ a.st.length ≤ 5) ∧ (b.sh.length ≤ 4 ∧ b.st.length ≤ 5)) ∧ r = .tup [viD a, viD b] ∧ L' = L
theorem both_comm (A B : List Int) : bothF A B = bothF B A := by
  unfold bothF
  congr 1
  funext x
  exact Bool.and_comm _ _
theorem okk_comm (a b : Vi) : okk a b = okk b a := Bool.and_comm _ _
theorem both_has {A B : List Int} (h : inC A) {x : Int} (hx : x ∈ A) : (bothF A B).contains x = B.contains x := by
  rw [Bool.eq_iff_iff, List.contains_iff_mem, List.contains_iff_mem, mem_both]
  exact ⟨fun h' => h'.2.2, fun h' => ⟨h x hx, hx, h'⟩⟩
theorem can_DrawOverlapOf : CanCall Try.prog 53 := ⟨_, Try.func53, rfl, rfl⟩
theorem can_DrawDoOverlap : CanCall Try.prog 43 := ⟨_, Try.func43, rfl, rfl⟩
theorem can_DrawMayOverlap : CanCall Try.prog 51 := ⟨_, Try.func51, rfl, rfl⟩
theorem can_DrawCoversView : CanCall Try.prog 28 := ⟨_, Try.func28, rfl, rfl⟩
theorem can_DrawWitnessOf : CanCall Try.prog 36 := ⟨_, Try.func36, rfl, rfl⟩
set_option maxHeartbeats 8000000 in
set_option maxRecDepth 100000 in
theorem law_OverlapOf {Sg Sd : FuncId → Option (List AV → Option AV)} (hS : Sound Try.prog Sg) (hD : Sound Try.prog Sd) (n1 : Sg 53 = none) (h1 : Sg 31 = some (F2 gOvT)) (h2 : Sg 54 = some (F2 gOvT)) (h3 : Sg 23 = some (F2 gEqInts)) (h4 : Sg 18 = some (F1 gValidV)) (h5 : Sg 25 = some (F1 gOffT)) (d1 : Sd 31 = some (F2 gOvT)) (d2 : Sd 23 = some (F2 gEqInts)) (d3 : Sd 42 = some (F2 gIsIn)) (d4 : Sd 26 = some (F1 gAscends)) (d5 : Sd 27 = some (F2 gWithin)) (d6 : Sd 20 = some (F1 gCellsT)) (hDr : DrTwo 53) : ∀ a r, F1 gTrueW a = some r → CSpec Try.prog 12 a r := by
  refine F1_spec ?_
  intro bs r hr
  obtain ⟨g1, rfl⟩ := gd_some hr
  refine law3 Try.func12 rfl Try.pf hS hD ?_
  by_cases hb : 1048576 < bs.length
  · repeat' (first | with_reducible first | refine kI (by kernel_rfl) ?_ | refine kN (by kernel_rfl) ?_ | (first | refine kB1 ?_ ?_ | refine kB2 ?_ ?_) <;> intro hp | (first | refine kD1 ?_ ?_ | refine kD2 ?_ ?_ | refine kS1 ?_ ?_ | refine kS2 ?_ ?_) <;> intro hp <;> try simp only [hp] | simp -implicitDefEqProofs (disch := omega) only [go_sem, Nat.reduceAdd, Nat.reduceSub, reduceCtorEq, Nat.reduceLT, Nat.reduceLeDiff, Nat.reduceEqDiff, Nat.reduceMul, Int.reduceToNat, ↓reduceIte, List.take_of_length_le, if_pos, if_neg, List.getElem?_set_self, List.set_set, cnE, cnV, Try.ntmps12, Try.results12])
  · repeat' (first | with_reducible first | refine kI (by kernel_rfl) ?_ | refine kN (by kernel_rfl) ?_ | (first | refine kB1 ?_ ?_ | refine kB2 ?_ ?_) <;> intro hp | (first | refine kD1 ?_ ?_ | refine kD2 ?_ ?_ | refine kS1 ?_ ?_ | refine kS2 ?_ ?_) <;> intro hp <;> try simp only [hp] | simp -implicitDefEqProofs (disch := omega) only [go_sem, Nat.reduceAdd, Nat.reduceSub, reduceCtorEq, Nat.reduceLT, Nat.reduceLeDiff, Nat.reduceEqDiff, Nat.reduceMul, Int.reduceToNat, ↓reduceIte, List.take_of_length_le, if_pos, if_neg, List.getElem?_set_self, List.set_set, cnE, cnV, Try.ntmps12, Try.results12,  n1, opQ_none])
    refine InlK_intro rfl rfl can_DrawOverlapOf ((hDr bs (by omega) _).mono ?_)
    rintro r L1 ⟨a, b, ⟨⟨k1, k2⟩, ⟨k3, k4⟩⟩, rfl, rfl⟩
    have hab : viB2 a b := ⟨⟨by omega, by omega⟩, ⟨by omega, by omega⟩⟩
    have hba : viB2 b a := ⟨hab.2, hab.1⟩
    have haa : viB2 a a := ⟨hab.1, hab.1⟩
    have v1 := gValidV_eq hab.1
    have v2 := gValidV_eq hab.2
    have q1 := gOvT_eq hab
    cases eo : okk a b with
    | false =>
      rw [eo, if_neg (by simp)] at q1
      have q3 : gEqInts [] [] = some true := gEqInts_eq (a := []) (b := []) ⟨by decide, by decide⟩
      cases e1 : viewOK a with
      | false =>
        rw [e1] at v1
        repeat' (first | with_reducible first | refine kI (by kernel_rfl) ?_ | refine kN (by kernel_rfl) ?_ | (first | refine kB1 ?_ ?_ | refine kB2 ?_ ?_) <;> intro hp | (first | refine kD1 ?_ ?_ | refine kD2 ?_ ?_ | refine kS1 ?_ ?_ | refine kS2 ?_ ?_) <;> intro hp <;> try simp only [hp] | simp -implicitDefEqProofs (disch := omega) only [go_sem, Nat.reduceAdd, Nat.reduceSub, reduceCtorEq, Nat.reduceLT, Nat.reduceLeDiff, Nat.reduceEqDiff, Nat.reduceMul, Int.reduceToNat, ↓reduceIte, List.take_of_length_le, if_pos, if_neg, List.getElem?_set_self, List.set_set, cnE, cnV, Try.ntmps12, Try.results12,  h1, q1, h2, h3, q3, h4, v1, dec_i0])
      | true =>
        have e2 : viewOK b = false := by unfold okk at eo; rw [e1] at eo; simpa using eo
        rw [e1] at v1
        rw [e2] at v2
        repeat' (first | with_reducible first | refine kI (by kernel_rfl) ?_ | refine kN (by kernel_rfl) ?_ | (first | refine kB1 ?_ ?_ | refine kB2 ?_ ?_) <;> intro hp | (first | refine kD1 ?_ ?_ | refine kD2 ?_ ?_ | refine kS1 ?_ ?_ | refine kS2 ?_ ?_) <;> intro hp <;> try simp only [hp] | simp -implicitDefEqProofs (disch := omega) only [go_sem, Nat.reduceAdd, Nat.reduceSub, reduceCtorEq, Nat.reduceLT, Nat.reduceLeDiff, Nat.reduceEqDiff, Nat.reduceMul, Int.reduceToNat, ↓reduceIte, List.take_of_length_le, if_pos, if_neg, List.getElem?_set_self, List.set_set, cnE, cnV, Try.ntmps12, Try.results12,  h1, q1, h2, h3, q3, h4, v1, v2, dec_i0])
    | true =>
      obtain ⟨e1, e2⟩ := okk_iff.1 eo
      rw [e1] at v1
      rw [e2] at v2
      have q2 := gOvT_eq hba
      have q3 := gOvT_eq haa
      have q4 := gCellsT_eq hab.1
      have q5 := gOffT_eq hab.1
      have q6 := gOffT_eq hab.2
      rw [eo, if_pos rfl] at q1
      rw [okk_comm, eo, if_pos rfl, both_comm] at q2
      rw [okk_iff.2 ⟨e1, e1⟩, if_pos rfl, ← srt_both (offF_in e1)] at q3
      rw [e1, if_pos rfl] at q4 q5
      rw [e2, if_pos rfl] at q6
      have a6 := offF_60 (vOK e1).1
      have b6 := offF_60 (vOK e2).1
      have hin := offF_in e1
      generalize offF a = A at *
      generalize offF b = B at *
      have o6 := both_len A B
      have s6 := srt_len A
      have w1 : gEqInts (bothF A B) (bothF A B) = some true := (gEqInts_eq ⟨by omega, by omega⟩).trans (by simp)
      have w2 : gEqInts (srt A) (srt A) = some true := (gEqInts_eq ⟨by omega, by omega⟩).trans (by simp)
      have w3 := (gAscends_eq (l := bothF A B) (by omega)).trans (by rw [ascB_pw (both_asc A B)])
      have w4 := (gWithin_eq (a := bothF A B) (b := A) ⟨by omega, by omega⟩).trans (by rw [within_mem fun x hx => (mem_both.1 hx).2.1])
      repeat' (first | with_reducible first | refine kI (by kernel_rfl) ?_ | refine kN (by kernel_rfl) ?_ | (first | refine kB1 ?_ ?_ | refine kB2 ?_ ?_) <;> intro hp | (first | refine kD1 ?_ ?_ | refine kD2 ?_ ?_ | refine kS1 ?_ ?_ | refine kS2 ?_ ?_) <;> intro hp <;> try simp only [hp] | simp -implicitDefEqProofs (disch := omega) only [go_sem, Nat.reduceAdd, Nat.reduceSub, reduceCtorEq, Nat.reduceLT, Nat.reduceLeDiff, Nat.reduceEqDiff, Nat.reduceMul, Int.reduceToNat, ↓reduceIte, List.take_of_length_le, if_pos, if_neg, List.getElem?_set_self, List.set_set, cnE, cnV, Try.ntmps12, Try.results12,  h1, q1, h2, h3, w1, h4, v1, v2, h5, q5, q6])
      refine LoopQ.mix (fun t0 L0 nn ss => ∃ (k : Nat) (_ : Unit), (∃ x : Nat → AV, ss = ⟨mixL 0 (.k :: .k :: .s :: .k :: .k :: .k :: .k :: .k :: .v (i64 (k : Nat)) :: .k :: .k :: .k :: .k :: .k :: .k :: .k :: .k :: .k :: .k :: .k :: .k :: .k :: .k :: .k :: .k :: .k :: .k :: .k :: .k :: .k :: .k :: .k :: .k :: .k :: .k :: .k :: .k :: .k :: .k :: .k :: .k :: .k :: .k :: .k :: .k :: .s :: .s :: .s :: .s :: .s :: .s :: .s :: .s :: .s :: .s :: .s :: .s :: .s :: .s :: .s :: .s :: .s :: .s :: .s :: .k :: .k :: .k :: .k :: .k :: .k :: .k :: .k :: .k :: .k :: .k :: .k :: .k :: .k :: .k :: .k :: .k :: .k :: .k :: .k :: .k :: .k :: []) t0 x, L0⟩) ∧ (k ≤ A.length) ∧ nn = A.length - k) ?_ ?_
      · exact ⟨_, ⟨0, (), mixI rfl, Nat.zero_le _, rfl⟩⟩
      · rintro I0 hI0 nn s ⟨k, _, ⟨x, rfl⟩, g1, rfl⟩
        by_cases hk : k < A.length
        · have hki : (k : Int) < (A.length : Int) := by omega
          have p1 := gIsIn_eq (l := bothF A B) (by omega) (A.getD k 0)
          have p2 := gIsIn_eq (l := B) (by omega) (A.getD k 0)
          rw [both_has hin (gmem hk)] at p1
          cases eb : B.contains (A.getD k 0) with
          | false =>
            rw [eb] at p1 p2
            repeat' (first | with_reducible first | refine kI (by kernel_rfl) ?_ | refine kN (by kernel_rfl) ?_ | (first | refine kB1 ?_ ?_ | refine kB2 ?_ ?_) <;> intro hp | (first | refine kD1 ?_ ?_ | refine kD2 ?_ ?_ | refine kS1 ?_ ?_ | refine kS2 ?_ ?_) <;> intro hp <;> try simp only [hp] | simp -implicitDefEqProofs (disch := omega) only [go_sem, Nat.reduceAdd, Nat.reduceSub, reduceCtorEq, Nat.reduceLT, Nat.reduceLeDiff, Nat.reduceEqDiff, Nat.reduceMul, Int.reduceToNat, ↓reduceIte, List.take_of_length_le, if_pos, if_neg, List.getElem?_set_self, List.set_set, cnE, cnV, Try.ntmps12, Try.results12,  hki, d3, p1, p2])
            exact ⟨A.length - (k + 1), by omega, hI0 _ _ ⟨k + 1, (), mixI rfl, hk, rfl⟩⟩
          | true =>
            rw [eb] at p1 p2
            repeat' (first | with_reducible first | refine kI (by kernel_rfl) ?_ | refine kN (by kernel_rfl) ?_ | (first | refine kB1 ?_ ?_ | refine kB2 ?_ ?_) <;> intro hp | (first | refine kD1 ?_ ?_ | refine kD2 ?_ ?_ | refine kS1 ?_ ?_ | refine kS2 ?_ ?_) <;> intro hp <;> try simp only [hp] | simp -implicitDefEqProofs (disch := omega) only [go_sem, Nat.reduceAdd, Nat.reduceSub, reduceCtorEq, Nat.reduceLT, Nat.reduceLeDiff, Nat.reduceEqDiff, Nat.reduceMul, Int.reduceToNat, ↓reduceIte, List.take_of_length_le, if_pos, if_neg, List.getElem?_set_self, List.set_set, cnE, cnV, Try.ntmps12, Try.results12,  hki, d3, p1, p2])
            exact ⟨A.length - (k + 1), by omega, hI0 _ _ ⟨k + 1, (), mixI rfl, hk, rfl⟩⟩
        · obtain rfl : k = A.length := by omega
          repeat' (first | with_reducible first | refine kI (by kernel_rfl) ?_ | refine kN (by kernel_rfl) ?_ | (first | refine kB1 ?_ ?_ | refine kB2 ?_ ?_) <;> intro hp | (first | refine kD1 ?_ ?_ | refine kD2 ?_ ?_ | refine kS1 ?_ ?_ | refine kS2 ?_ ?_) <;> intro hp <;> try simp only [hp] | simp -implicitDefEqProofs (disch := omega) only [go_sem, Nat.reduceAdd, Nat.reduceSub, reduceCtorEq, Nat.reduceLT, Nat.reduceLeDiff, Nat.reduceEqDiff, Nat.reduceMul, Int.reduceToNat, ↓reduceIte, List.take_of_length_le, if_pos, if_neg, List.getElem?_set_self, List.set_set, cnE, cnV, Try.ntmps12, Try.results12,  d1, q2, q3, d2, w1, w2, d4, w3, d5, w4, d6, q4])
theorem do_may {a b : Vi} (h1 : viewOK a = true) (h2 : viewOK b = true) (h : 0 < (bothF (offF a) (offF b)).length) : mayF a b = true := by
  obtain ⟨x, hx⟩ : ∃ x, x ∈ bothF (offF a) (offF b) := ⟨_, gmem h⟩
  obtain ⟨hx0, ha, hb⟩ := mem_both.1 hx
  have bnd : ∀ v : Vi, viewOK v = true → x ∈ offF v → 0 ≤ (bdF v).1 ∧ (bdF v).1 ≤ x ∧ x ≤ (bdF v).2 := fun v hv hm => by
    have hp : 0 < (offF v).length := List.length_pos_of_mem hm
    have hz : ¬ prodW v.sh = 0 := fun hz => by rw [offF_zero hz] at hp; simp at hp
    unfold bdF
    rw [if_pos ⟨hv, hz⟩]
    obtain ⟨m1, m2⟩ := mnT_b (l := offF v) _ hp (Nat.le_refl _)
    obtain ⟨m3, m4⟩ := mxT_b (l := offF v) _ hp (Nat.le_refl _)
    obtain ⟨i, hi, e⟩ := mem_getI hm
    have := m2 i hi
    have := m4 i hi
    have := offF_in hv _ m1
    dsimp only
    omega
  have b1 := bnd a h1 ha
  have b2 := bnd b h2 hb
  unfold mayF
  simp only [Bool.and_eq_true, decide_eq_true_eq]
  omega
set_option maxHeartbeats 8000000 in
set_option maxRecDepth 100000 in
theorem law_DoOverlap {Sg Sd : FuncId → Option (List AV → Option AV)} (hS : Sound Try.prog Sg) (hD : Sound Try.prog Sd) (n1 : Sg 43 = none) (h1 : Sg 44 = some (F2 gDoOv)) (h2 : Sg 45 = some (F2 gDoOv)) (h4 : Sg 18 = some (F1 gValidV)) (h5 : Sg 31 = some (F2 gOvT)) (h6 : Sg 46 = some (F2 gMay)) (hDr : DrTwo 43) : ∀ a r, F1 gTrueW a = some r → CSpec Try.prog 9 a r := by
  refine F1_spec ?_
  intro bs r hr
  obtain ⟨g1, rfl⟩ := gd_some hr
  refine law3 Try.func9 rfl Try.pf hS hD ?_
  by_cases hb : 1048576 < bs.length
  · repeat' (first | with_reducible first | refine kI (by kernel_rfl) ?_ | refine kN (by kernel_rfl) ?_ | (first | refine kB1 ?_ ?_ | refine kB2 ?_ ?_) <;> intro hp | (first | refine kD1 ?_ ?_ | refine kD2 ?_ ?_ | refine kS1 ?_ ?_ | refine kS2 ?_ ?_) <;> intro hp <;> try simp only [hp] | simp -implicitDefEqProofs (disch := omega) only [go_sem, Nat.reduceAdd, Nat.reduceSub, reduceCtorEq, Nat.reduceLT, Nat.reduceLeDiff, Nat.reduceEqDiff, Nat.reduceMul, Int.reduceToNat, ↓reduceIte, List.take_of_length_le, if_pos, if_neg, List.getElem?_set_self, List.set_set, cnE, cnV, Try.ntmps9, Try.results9])
  · repeat' (first | with_reducible first | refine kI (by kernel_rfl) ?_ | refine kN (by kernel_rfl) ?_ | (first | refine kB1 ?_ ?_ | refine kB2 ?_ ?_) <;> intro hp | (first | refine kD1 ?_ ?_ | refine kD2 ?_ ?_ | refine kS1 ?_ ?_ | refine kS2 ?_ ?_) <;> intro hp <;> try simp only [hp] | simp -implicitDefEqProofs (disch := omega) only [go_sem, Nat.reduceAdd, Nat.reduceSub, reduceCtorEq, Nat.reduceLT, Nat.reduceLeDiff, Nat.reduceEqDiff, Nat.reduceMul, Int.reduceToNat, ↓reduceIte, List.take_of_length_le, if_pos, if_neg, List.getElem?_set_self, List.set_set, cnE, cnV, Try.ntmps9, Try.results9,  n1, opQ_none])
    refine InlK_intro rfl rfl can_DrawDoOverlap ((hDr bs (by omega) _).mono ?_)
    rintro r L1 ⟨a, b, ⟨⟨k1, k2⟩, ⟨k3, k4⟩⟩, rfl, rfl⟩
    have hab : viB2 a b := ⟨⟨by omega, by omega⟩, ⟨by omega, by omega⟩⟩
    have hba : viB2 b a := ⟨hab.2, hab.1⟩
    have haa : viB2 a a := ⟨hab.1, hab.1⟩
    have v1 := gValidV_eq hab.1
    have v2 := gValidV_eq hab.2
    have q1 := gDoOv_eq hab
    have q2 := gDoOv_eq hba
    have q5 := gOvT_eq hab
    have q6 := gMay_eq hab
    rw [okk_comm, both_comm] at q2
    cases eo : okk a b with
    | false =>
      rw [eo, Bool.false_and] at q1
      cases e1 : viewOK a with
      | false =>
        rw [e1] at v1
        repeat' (first | with_reducible first | refine kI (by kernel_rfl) ?_ | refine kN (by kernel_rfl) ?_ | (first | refine kB1 ?_ ?_ | refine kB2 ?_ ?_) <;> intro hp | (first | refine kD1 ?_ ?_ | refine kD2 ?_ ?_ | refine kS1 ?_ ?_ | refine kS2 ?_ ?_) <;> intro hp <;> try simp only [hp] | simp -implicitDefEqProofs (disch := omega) only [go_sem, Nat.reduceAdd, Nat.reduceSub, reduceCtorEq, Nat.reduceLT, Nat.reduceLeDiff, Nat.reduceEqDiff, Nat.reduceMul, Int.reduceToNat, ↓reduceIte, List.take_of_length_le, if_pos, if_neg, List.getElem?_set_self, List.set_set, cnE, cnV, Try.ntmps9, Try.results9,  h1, q1, h2, h4, v1])
      | true =>
        have e2 : viewOK b = false := by unfold okk at eo; rw [e1] at eo; simpa using eo
        rw [e1] at v1
        rw [e2] at v2
        repeat' (first | with_reducible first | refine kI (by kernel_rfl) ?_ | refine kN (by kernel_rfl) ?_ | (first | refine kB1 ?_ ?_ | refine kB2 ?_ ?_) <;> intro hp | (first | refine kD1 ?_ ?_ | refine kD2 ?_ ?_ | refine kS1 ?_ ?_ | refine kS2 ?_ ?_) <;> intro hp <;> try simp only [hp] | simp -implicitDefEqProofs (disch := omega) only [go_sem, Nat.reduceAdd, Nat.reduceSub, reduceCtorEq, Nat.reduceLT, Nat.reduceLeDiff, Nat.reduceEqDiff, Nat.reduceMul, Int.reduceToNat, ↓reduceIte, List.take_of_length_le, if_pos, if_neg, List.getElem?_set_self, List.set_set, cnE, cnV, Try.ntmps9, Try.results9,  h1, q1, h2, h4, v1, v2])
    | true =>
      obtain ⟨e1, e2⟩ := okk_iff.1 eo
      rw [e1] at v1
      rw [e2] at v2
      rw [eo, Bool.true_and] at q1 q2
      rw [eo, if_pos rfl] at q5
      by_cases h0 : 0 < (bothF (offF a) (offF b)).length
      · have h0' : (0 : Int) < ((bothF (offF a) (offF b)).length : Int) := by omega
        rw [decide_eq_true h0] at q1 q2
        rw [do_may e1 e2 h0] at q6
        repeat' (first | with_reducible first | refine kI (by kernel_rfl) ?_ | refine kN (by kernel_rfl) ?_ | (first | refine kB1 ?_ ?_ | refine kB2 ?_ ?_) <;> intro hp | (first | refine kD1 ?_ ?_ | refine kD2 ?_ ?_ | refine kS1 ?_ ?_ | refine kS2 ?_ ?_) <;> intro hp <;> try simp only [hp] | simp -implicitDefEqProofs (disch := omega) only [go_sem, Nat.reduceAdd, Nat.reduceSub, reduceCtorEq, Nat.reduceLT, Nat.reduceLeDiff, Nat.reduceEqDiff, Nat.reduceMul, Int.reduceToNat, ↓reduceIte, List.take_of_length_le, if_pos, if_neg, List.getElem?_set_self, List.set_set, cnE, cnV, Try.ntmps9, Try.results9,  h1, q1, q2, h2, h4, v1, v2, h5, q5, h6, q6, h0'])
      · have h0' : ¬ (0 : Int) < ((bothF (offF a) (offF b)).length : Int) := by omega
        rw [decide_eq_false h0] at q1 q2
        repeat' (first | with_reducible first | refine kI (by kernel_rfl) ?_ | refine kN (by kernel_rfl) ?_ | (first | refine kB1 ?_ ?_ | refine kB2 ?_ ?_) <;> intro hp | (first | refine kD1 ?_ ?_ | refine kD2 ?_ ?_ | refine kS1 ?_ ?_ | refine kS2 ?_ ?_) <;> intro hp <;> try simp only [hp] | simp -implicitDefEqProofs (disch := omega) only [go_sem, Nat.reduceAdd, Nat.reduceSub, reduceCtorEq, Nat.reduceLT, Nat.reduceLeDiff, Nat.reduceEqDiff, Nat.reduceMul, Int.reduceToNat, ↓reduceIte, List.take_of_length_le, if_pos, if_neg, List.getElem?_set_self, List.set_set, cnE, cnV, Try.ntmps9, Try.results9,  h1, q1, q2, h2, h4, v1, v2, h5, q5, h6, q6, h0'])
theorem may_do {a b : Vi} (h1 : viewOK a = true) (h2 : viewOK b = true) (ga : (gapF (srt (offF a))).length = 0) (gb : (gapF (srt (offF b))).length = 0) (h : mayF a b = true) : 0 < (bothF (offF a) (offF b)).length := by
  unfold mayF at h
  simp only [Bool.and_eq_true, decide_eq_true_eq] at h
  have all : ∀ v : Vi, viewOK v = true → (gapF (srt (offF v))).length = 0 → 0 ≤ (bdF v).1 → ∀ x, (bdF v).1 ≤ x → x ≤ (bdF v).2 → x ∈ offF v := fun v hv hg h0 x hx1 hx2 => by
    by_cases hz : prodW v.sh = 0
    · rw [bd_none hz] at h0; exact absurd h0 (by decide)
    · have hp := offF_pos hv hz
      unfold bdF at hx1 hx2
      rw [if_pos ⟨hv, hz⟩] at hx1 hx2
      dsimp only at hx1 hx2
      rw [mn_srt hp] at hx1
      rw [mx_srt hp] at hx2
      have hc0 : 0 < (srt (offF v)).length := List.length_pos_of_mem ((srt_mem _ _).2 (gmem hp))
      have := gap_has (srt_in60 (offF_in hv)) hc0 hx1 hx2
      rw [List.eq_nil_of_length_eq_zero hg] at this
      have hc : (srt (offF v)).contains x = true := by simpa using this
      exact (srt_mem _ _).1 (List.contains_iff_mem.1 hc)
  have l1 := bd_le a
  have l2 := bd_le b
  obtain ⟨x, x1, x2, x3, x4⟩ : ∃ x, (bdF a).1 ≤ x ∧ x ≤ (bdF a).2 ∧ (bdF b).1 ≤ x ∧ x ≤ (bdF b).2 := by
    by_cases hc : (bdF a).1 ≤ (bdF b).1
    · exact ⟨(bdF b).1, by omega, by omega, by omega, by omega⟩
    · exact ⟨(bdF a).1, by omega, by omega, by omega, by omega⟩
  have m1 := all a h1 ga (by omega) x x1 x2
  have m2 := all b h2 gb (by omega) x x3 x4
  exact List.length_pos_of_mem (mem_both.2 ⟨offF_in h1 x m1, m1, m2⟩)
set_option maxHeartbeats 8000000 in
set_option maxRecDepth 100000 in
theorem law_MayOverlap {Sg Sd : FuncId → Option (List AV → Option AV)} (hS : Sound Try.prog Sg) (hD : Sound Try.prog Sd) (n1 : Sg 51 = none) (h1 : Sg 46 = some (F2 gMay)) (h2 : Sg 52 = some (F2 gMay)) (h4 : Sg 18 = some (F1 gValidV)) (h5 : Sg 48 = some (F1 gGap)) (h6 : Sg 44 = some (F2 gDoOv)) (hDr : DrTwo 51) : ∀ a r, F1 gTrueW a = some r → CSpec Try.prog 11 a r := by
  refine F1_spec ?_
  intro bs r hr
  obtain ⟨g1, rfl⟩ := gd_some hr
  refine law3 Try.func11 rfl Try.pf hS hD ?_
  by_cases hb : 1048576 < bs.length
  · repeat' (first | with_reducible first | refine kI (by kernel_rfl) ?_ | refine kN (by kernel_rfl) ?_ | (first | refine kB1 ?_ ?_ | refine kB2 ?_ ?_) <;> intro hp | (first | refine kD1 ?_ ?_ | refine kD2 ?_ ?_ | refine kS1 ?_ ?_ | refine kS2 ?_ ?_) <;> intro hp <;> try simp only [hp] | simp -implicitDefEqProofs (disch := omega) only [go_sem, Nat.reduceAdd, Nat.reduceSub, reduceCtorEq, Nat.reduceLT, Nat.reduceLeDiff, Nat.reduceEqDiff, Nat.reduceMul, Int.reduceToNat, ↓reduceIte, List.take_of_length_le, if_pos, if_neg, List.getElem?_set_self, List.set_set, cnE, cnV, Try.ntmps11, Try.results11])
  · repeat' (first | with_reducible first | refine kI (by kernel_rfl) ?_ | refine kN (by kernel_rfl) ?_ | (first | refine kB1 ?_ ?_ | refine kB2 ?_ ?_) <;> intro hp | (first | refine kD1 ?_ ?_ | refine kD2 ?_ ?_ | refine kS1 ?_ ?_ | refine kS2 ?_ ?_) <;> intro hp <;> try simp only [hp] | simp -implicitDefEqProofs (disch := omega) only [go_sem, Nat.reduceAdd, Nat.reduceSub, reduceCtorEq, Nat.reduceLT, Nat.reduceLeDiff, Nat.reduceEqDiff, Nat.reduceMul, Int.reduceToNat, ↓reduceIte, List.take_of_length_le, if_pos, if_neg, List.getElem?_set_self, List.set_set, cnE, cnV, Try.ntmps11, Try.results11,  n1, opQ_none])
    refine InlK_intro rfl rfl can_DrawMayOverlap ((hDr bs (by omega) _).mono ?_)
    rintro r L1 ⟨a, b, ⟨⟨k1, k2⟩, ⟨k3, k4⟩⟩, rfl, rfl⟩
    have hab : viB2 a b := ⟨⟨by omega, by omega⟩, ⟨by omega, by omega⟩⟩
    have hba : viB2 b a := ⟨hab.2, hab.1⟩
    have haa : viB2 a a := ⟨hab.1, hab.1⟩
    have v1 := gValidV_eq hab.1
    have v2 := gValidV_eq hab.2
    have q1 := gMay_eq hab
    have q5 := gGap_eq hab.1
    have q6 := gGap_eq hab.2
    have q7 := gDoOv_eq hab
    cases eo : okk a b with
    | false =>
      cases e1 : viewOK a with
      | false =>
        rw [e1] at v1
        repeat' (first | with_reducible first | refine kI (by kernel_rfl) ?_ | refine kN (by kernel_rfl) ?_ | (first | refine kB1 ?_ ?_ | refine kB2 ?_ ?_) <;> intro hp | (first | refine kD1 ?_ ?_ | refine kD2 ?_ ?_ | refine kS1 ?_ ?_ | refine kS2 ?_ ?_) <;> intro hp <;> try simp only [hp] | simp -implicitDefEqProofs (disch := omega) only [go_sem, Nat.reduceAdd, Nat.reduceSub, reduceCtorEq, Nat.reduceLT, Nat.reduceLeDiff, Nat.reduceEqDiff, Nat.reduceMul, Int.reduceToNat, ↓reduceIte, List.take_of_length_le, if_pos, if_neg, List.getElem?_set_self, List.set_set, cnE, cnV, Try.ntmps11, Try.results11,  h1, q1, h2, h4, v1])
      | true =>
        have e2 : viewOK b = false := by unfold okk at eo; rw [e1] at eo; simpa using eo
        rw [e1] at v1
        rw [e2] at v2
        repeat' (first | with_reducible first | refine kI (by kernel_rfl) ?_ | refine kN (by kernel_rfl) ?_ | (first | refine kB1 ?_ ?_ | refine kB2 ?_ ?_) <;> intro hp | (first | refine kD1 ?_ ?_ | refine kD2 ?_ ?_ | refine kS1 ?_ ?_ | refine kS2 ?_ ?_) <;> intro hp <;> try simp only [hp] | simp -implicitDefEqProofs (disch := omega) only [go_sem, Nat.reduceAdd, Nat.reduceSub, reduceCtorEq, Nat.reduceLT, Nat.reduceLeDiff, Nat.reduceEqDiff, Nat.reduceMul, Int.reduceToNat, ↓reduceIte, List.take_of_length_le, if_pos, if_neg, List.getElem?_set_self, List.set_set, cnE, cnV, Try.ntmps11, Try.results11,  h1, q1, h2, h4, v1, v2])
    | true =>
      obtain ⟨e1, e2⟩ := okk_iff.1 eo
      rw [e1] at v1
      rw [e2] at v2
      rw [e1, if_pos rfl] at q5
      rw [e2, if_pos rfl] at q6
      rw [eo, Bool.true_and] at q7
      have dm := do_may e1 e2
      have md := may_do e1 e2
      have gl1 := gap_60 (srt_in60 (offF_in e1)) (srt_asc (offF a))
      have gl2 := gap_60 (srt_in60 (offF_in e2)) (srt_asc (offF b))
      cases em : mayF a b with
      | true =>
        rw [em] at q1 md
        by_cases ha : 0 < (gapF (srt (offF a))).length
        · have ha' : (0 : Int) < ((gapF (srt (offF a))).length : Int) := by omega
          repeat' (first | with_reducible first | refine kI (by kernel_rfl) ?_ | refine kN (by kernel_rfl) ?_ | (first | refine kB1 ?_ ?_ | refine kB2 ?_ ?_) <;> intro hp | (first | refine kD1 ?_ ?_ | refine kD2 ?_ ?_ | refine kS1 ?_ ?_ | refine kS2 ?_ ?_) <;> intro hp <;> try simp only [hp] | simp -implicitDefEqProofs (disch := omega) only [go_sem, Nat.reduceAdd, Nat.reduceSub, reduceCtorEq, Nat.reduceLT, Nat.reduceLeDiff, Nat.reduceEqDiff, Nat.reduceMul, Int.reduceToNat, ↓reduceIte, List.take_of_length_le, if_pos, if_neg, List.getElem?_set_self, List.set_set, cnE, cnV, Try.ntmps11, Try.results11,  h1, q1, h2, h4, v1, v2, h5, q5, q6, h6, q7, ha'])
        · have ha' : ¬ (0 : Int) < ((gapF (srt (offF a))).length : Int) := by omega
          by_cases hb : 0 < (gapF (srt (offF b))).length
          · have hb' : (0 : Int) < ((gapF (srt (offF b))).length : Int) := by omega
            repeat' (first | with_reducible first | refine kI (by kernel_rfl) ?_ | refine kN (by kernel_rfl) ?_ | (first | refine kB1 ?_ ?_ | refine kB2 ?_ ?_) <;> intro hp | (first | refine kD1 ?_ ?_ | refine kD2 ?_ ?_ | refine kS1 ?_ ?_ | refine kS2 ?_ ?_) <;> intro hp <;> try simp only [hp] | simp -implicitDefEqProofs (disch := omega) only [go_sem, Nat.reduceAdd, Nat.reduceSub, reduceCtorEq, Nat.reduceLT, Nat.reduceLeDiff, Nat.reduceEqDiff, Nat.reduceMul, Int.reduceToNat, ↓reduceIte, List.take_of_length_le, if_pos, if_neg, List.getElem?_set_self, List.set_set, cnE, cnV, Try.ntmps11, Try.results11,  h1, q1, h2, h4, v1, v2, h5, q5, q6, h6, q7, ha', hb'])
          · have hb' : ¬ (0 : Int) < ((gapF (srt (offF b))).length : Int) := by omega
            rw [decide_eq_true (md (by omega) (by omega) rfl)] at q7
            repeat' (first | with_reducible first | refine kI (by kernel_rfl) ?_ | refine kN (by kernel_rfl) ?_ | (first | refine kB1 ?_ ?_ | refine kB2 ?_ ?_) <;> intro hp | (first | refine kD1 ?_ ?_ | refine kD2 ?_ ?_ | refine kS1 ?_ ?_ | refine kS2 ?_ ?_) <;> intro hp <;> try simp only [hp] | simp -implicitDefEqProofs (disch := omega) only [go_sem, Nat.reduceAdd, Nat.reduceSub, reduceCtorEq, Nat.reduceLT, Nat.reduceLeDiff, Nat.reduceEqDiff, Nat.reduceMul, Int.reduceToNat, ↓reduceIte, List.take_of_length_le, if_pos, if_neg, List.getElem?_set_self, List.set_set, cnE, cnV, Try.ntmps11, Try.results11,  h1, q1, h2, h4, v1, v2, h5, q5, q6, h6, q7, ha', hb'])
      | false =>
        rw [em] at q1 dm
        have hd : ¬ 0 < (bothF (offF a) (offF b)).length := fun h => by have := dm h; simp at this
        rw [decide_eq_false hd] at q7
        by_cases ha : 0 < (gapF (srt (offF a))).length
        · have ha' : (0 : Int) < ((gapF (srt (offF a))).length : Int) := by omega
          repeat' (first | with_reducible first | refine kI (by kernel_rfl) ?_ | refine kN (by kernel_rfl) ?_ | (first | refine kB1 ?_ ?_ | refine kB2 ?_ ?_) <;> intro hp | (first | refine kD1 ?_ ?_ | refine kD2 ?_ ?_ | refine kS1 ?_ ?_ | refine kS2 ?_ ?_) <;> intro hp <;> try simp only [hp] | simp -implicitDefEqProofs (disch := omega) only [go_sem, Nat.reduceAdd, Nat.reduceSub, reduceCtorEq, Nat.reduceLT, Nat.reduceLeDiff, Nat.reduceEqDiff, Nat.reduceMul, Int.reduceToNat, ↓reduceIte, List.take_of_length_le, if_pos, if_neg, List.getElem?_set_self, List.set_set, cnE, cnV, Try.ntmps11, Try.results11,  h1, q1, h2, h4, v1, v2, h5, q5, q6, h6, q7, ha'])
        · have ha' : ¬ (0 : Int) < ((gapF (srt (offF a))).length : Int) := by omega
          by_cases hb : 0 < (gapF (srt (offF b))).length
          · have hb' : (0 : Int) < ((gapF (srt (offF b))).length : Int) := by omega
            repeat' (first | with_reducible first | refine kI (by kernel_rfl) ?_ | refine kN (by kernel_rfl) ?_ | (first | refine kB1 ?_ ?_ | refine kB2 ?_ ?_) <;> intro hp | (first | refine kD1 ?_ ?_ | refine kD2 ?_ ?_ | refine kS1 ?_ ?_ | refine kS2 ?_ ?_) <;> intro hp <;> try simp only [hp] | simp -implicitDefEqProofs (disch := omega) only [go_sem, Nat.reduceAdd, Nat.reduceSub, reduceCtorEq, Nat.reduceLT, Nat.reduceLeDiff, Nat.reduceEqDiff, Nat.reduceMul, Int.reduceToNat, ↓reduceIte, List.take_of_length_le, if_pos, if_neg, List.getElem?_set_self, List.set_set, cnE, cnV, Try.ntmps11, Try.results11,  h1, q1, h2, h4, v1, v2, h5, q5, q6, h6, q7, ha', hb'])
          · have hb' : ¬ (0 : Int) < ((gapF (srt (offF b))).length : Int) := by omega
            repeat' (first | with_reducible first | refine kI (by kernel_rfl) ?_ | refine kN (by kernel_rfl) ?_ | (first | refine kB1 ?_ ?_ | refine kB2 ?_ ?_) <;> intro hp | (first | refine kD1 ?_ ?_ | refine kD2 ?_ ?_ | refine kS1 ?_ ?_ | refine kS2 ?_ ?_) <;> intro hp <;> try simp only [hp] | simp -implicitDefEqProofs (disch := omega) only [go_sem, Nat.reduceAdd, Nat.reduceSub, reduceCtorEq, Nat.reduceLT, Nat.reduceLeDiff, Nat.reduceEqDiff, Nat.reduceMul, Int.reduceToNat, ↓reduceIte, List.take_of_length_le, if_pos, if_neg, List.getElem?_set_self, List.set_set, cnE, cnV, Try.ntmps11, Try.results11,  h1, q1, h2, h4, v1, v2, h5, q5, q6, h6, q7, ha', hb'])
theorem both_srt {A B : List Int} (hB : inC B) : decide (bothF A B = srt B) = B.all fun x => A.contains x := by
  rw [← both_all hB, Bool.eq_iff_iff, decide_eq_true_eq, decide_eq_true_eq]
  constructor
  · intro h; rw [h]
  · intro h
    have e : bothF A B = (srt B).filter fun x => A.contains x := by
      refine asc_ext (both_asc A B) ((srt_asc B).sublist List.filter_sublist) fun x => ?_
      rw [List.mem_filter, List.contains_iff_mem, srt_mem, mem_both]
      exact ⟨fun h => ⟨h.2.2, h.2.1⟩, fun h => ⟨hB x h.1, h.2, h.1⟩⟩
    rw [e] at h ⊢
    exact List.filter_eq_self.2 (List.length_filter_eq_length_iff.1 h)
set_option maxHeartbeats 8000000 in
set_option maxRecDepth 100000 in
theorem law_CoversView {Sg Sd : FuncId → Option (List AV → Option AV)} (hS : Sound Try.prog Sg) (hD : Sound Try.prog Sd) (n1 : Sg 28 = none) (h1 : Sg 29 = some (F2 gCov)) (h2 : Sg 30 = some (F2 gCov)) (h4 : Sg 18 = some (F1 gValidV)) (d1 : Sd 31 = some (F2 gOvT)) (d2 : Sd 23 = some (F2 gEqInts)) (d3 : Sd 29 = some (F2 gCov)) (d6 : Sd 20 = some (F1 gCellsT)) (hDr : DrTwo 28) : ∀ a r, F1 gTrueW a = some r → CSpec Try.prog 5 a r := by
  refine F1_spec ?_
  intro bs r hr
  obtain ⟨g1, rfl⟩ := gd_some hr
  refine law3 Try.func5 rfl Try.pf hS hD ?_
  by_cases hb : 1048576 < bs.length
  · repeat' (first | with_reducible first | refine kI (by kernel_rfl) ?_ | refine kN (by kernel_rfl) ?_ | (first | refine kB1 ?_ ?_ | refine kB2 ?_ ?_) <;> intro hp | (first | refine kD1 ?_ ?_ | refine kD2 ?_ ?_ | refine kS1 ?_ ?_ | refine kS2 ?_ ?_) <;> intro hp <;> try simp only [hp] | simp -implicitDefEqProofs (disch := omega) only [go_sem, Nat.reduceAdd, Nat.reduceSub, reduceCtorEq, Nat.reduceLT, Nat.reduceLeDiff, Nat.reduceEqDiff, Nat.reduceMul, Int.reduceToNat, ↓reduceIte, List.take_of_length_le, if_pos, if_neg, List.getElem?_set_self, List.set_set, cnE, cnV, Try.ntmps5, Try.results5])
  · repeat' (first | with_reducible first | refine kI (by kernel_rfl) ?_ | refine kN (by kernel_rfl) ?_ | (first | refine kB1 ?_ ?_ | refine kB2 ?_ ?_) <;> intro hp | (first | refine kD1 ?_ ?_ | refine kD2 ?_ ?_ | refine kS1 ?_ ?_ | refine kS2 ?_ ?_) <;> intro hp <;> try simp only [hp] | simp -implicitDefEqProofs (disch := omega) only [go_sem, Nat.reduceAdd, Nat.reduceSub, reduceCtorEq, Nat.reduceLT, Nat.reduceLeDiff, Nat.reduceEqDiff, Nat.reduceMul, Int.reduceToNat, ↓reduceIte, List.take_of_length_le, if_pos, if_neg, List.getElem?_set_self, List.set_set, cnE, cnV, Try.ntmps5, Try.results5,  n1, opQ_none])
    refine InlK_intro rfl rfl can_DrawCoversView ((hDr bs (by omega) _).mono ?_)
    rintro r L1 ⟨a, b, ⟨⟨k1, k2⟩, ⟨k3, k4⟩⟩, rfl, rfl⟩
    have hab : viB2 a b := ⟨⟨by omega, by omega⟩, ⟨by omega, by omega⟩⟩
    have hba : viB2 b a := ⟨hab.2, hab.1⟩
    have haa : viB2 a a := ⟨hab.1, hab.1⟩
    have v1 := gValidV_eq hab.1
    have v2 := gValidV_eq hab.2
    have q1 := gCov_eq hab
    have q2 := gCov_eq haa
    have q3 := gOvT_eq hab
    have q4 := gCellsT_eq hab.2
    cases eo : okk a b with
    | false =>
      rw [eo, Bool.false_and] at q1
      cases e1 : viewOK a with
      | false =>
        rw [e1] at v1
        repeat' (first | with_reducible first | refine kI (by kernel_rfl) ?_ | refine kN (by kernel_rfl) ?_ | (first | refine kB1 ?_ ?_ | refine kB2 ?_ ?_) <;> intro hp | (first | refine kD1 ?_ ?_ | refine kD2 ?_ ?_ | refine kS1 ?_ ?_ | refine kS2 ?_ ?_) <;> intro hp <;> try simp only [hp] | simp -implicitDefEqProofs (disch := omega) only [go_sem, Nat.reduceAdd, Nat.reduceSub, reduceCtorEq, Nat.reduceLT, Nat.reduceLeDiff, Nat.reduceEqDiff, Nat.reduceMul, Int.reduceToNat, ↓reduceIte, List.take_of_length_le, if_pos, if_neg, List.getElem?_set_self, List.set_set, cnE, cnV, Try.ntmps5, Try.results5,  h1, q1, h2, h4, v1])
      | true =>
        have e2 : viewOK b = false := by unfold okk at eo; rw [e1] at eo; simpa using eo
        rw [e1] at v1
        rw [e2] at v2
        repeat' (first | with_reducible first | refine kI (by kernel_rfl) ?_ | refine kN (by kernel_rfl) ?_ | (first | refine kB1 ?_ ?_ | refine kB2 ?_ ?_) <;> intro hp | (first | refine kD1 ?_ ?_ | refine kD2 ?_ ?_ | refine kS1 ?_ ?_ | refine kS2 ?_ ?_) <;> intro hp <;> try simp only [hp] | simp -implicitDefEqProofs (disch := omega) only [go_sem, Nat.reduceAdd, Nat.reduceSub, reduceCtorEq, Nat.reduceLT, Nat.reduceLeDiff, Nat.reduceEqDiff, Nat.reduceMul, Int.reduceToNat, ↓reduceIte, List.take_of_length_le, if_pos, if_neg, List.getElem?_set_self, List.set_set, cnE, cnV, Try.ntmps5, Try.results5,  h1, q1, h2, h4, v1, v2])
    | true =>
      obtain ⟨e1, e2⟩ := okk_iff.1 eo
      rw [e1] at v1
      rw [e2] at v2
      have a6 := offF_60 (vOK e1).1
      have b6 := offF_60 (vOK e2).1
      have o6 := both_len (offF a) (offF b)
      have s6 := srt_len (offF b)
      rw [okk_iff.2 ⟨e1, e1⟩, Bool.true_and, within_mem fun x hx => hx] at q2
      rw [eo, Bool.true_and] at q1
      rw [eo, if_pos rfl] at q3
      rw [e2, if_pos rfl] at q4
      have w1 := gEqInts_eq (a := bothF (offF a) (offF b)) (b := srt (offF b)) ⟨by omega, by omega⟩
      rw [both_srt (offF_in e2)] at w1
      generalize ((offF b).all fun x => (offF a).contains x) = z at *
      cases z with
      | false => repeat' (first | with_reducible first | refine kI (by kernel_rfl) ?_ | refine kN (by kernel_rfl) ?_ | (first | refine kB1 ?_ ?_ | refine kB2 ?_ ?_) <;> intro hp | (first | refine kD1 ?_ ?_ | refine kD2 ?_ ?_ | refine kS1 ?_ ?_ | refine kS2 ?_ ?_) <;> intro hp <;> try simp only [hp] | simp -implicitDefEqProofs (disch := omega) only [go_sem, Nat.reduceAdd, Nat.reduceSub, reduceCtorEq, Nat.reduceLT, Nat.reduceLeDiff, Nat.reduceEqDiff, Nat.reduceMul, Int.reduceToNat, ↓reduceIte, List.take_of_length_le, if_pos, if_neg, List.getElem?_set_self, List.set_set, cnE, cnV, Try.ntmps5, Try.results5,  h1, q1, h2, h4, v1, v2, d1, q3, d2, w1, d3, q2, d6, q4])
      | true => repeat' (first | with_reducible first | refine kI (by kernel_rfl) ?_ | refine kN (by kernel_rfl) ?_ | (first | refine kB1 ?_ ?_ | refine kB2 ?_ ?_) <;> intro hp | (first | refine kD1 ?_ ?_ | refine kD2 ?_ ?_ | refine kS1 ?_ ?_ | refine kS2 ?_ ?_) <;> intro hp <;> try simp only [hp] | simp -implicitDefEqProofs (disch := omega) only [go_sem, Nat.reduceAdd, Nat.reduceSub, reduceCtorEq, Nat.reduceLT, Nat.reduceLeDiff, Nat.reduceEqDiff, Nat.reduceMul, Int.reduceToNat, ↓reduceIte, List.take_of_length_le, if_pos, if_neg, List.getElem?_set_self, List.set_set, cnE, cnV, Try.ntmps5, Try.results5,  h1, q1, h2, h4, v1, v2, d1, q3, d2, w1, d3, q2, d6, q4])
set_option maxHeartbeats 8000000 in
set_option maxRecDepth 100000 in
theorem law_WitnessOf {Sg Sd : FuncId → Option (List AV → Option AV)} (hS : Sound Try.prog Sg) (hD : Sound Try.prog Sd) (n1 : Sg 36 = none) (h1 : Sg 37 = some (F2 gWit)) (h2 : Sg 38 = some (F2 gWit)) (h3 : Sg 31 = some (F2 gOvT)) (h5 : Sg 25 = some (F1 gOffT)) (h6 : Sg 39 = some (F2 gPlaceIn)) (hDr : DrTwo 36) : ∀ a r, F1 gTrueW a = some r → CSpec Try.prog 7 a r := by
  refine F1_spec ?_
  intro bs r hr
  obtain ⟨g1, rfl⟩ := gd_some hr
  refine law3 Try.func7 rfl Try.pf hS hD ?_
  by_cases hb : 1048576 < bs.length
  · repeat' (first | with_reducible first | refine kI (by kernel_rfl) ?_ | refine kN (by kernel_rfl) ?_ | (first | refine kB1 ?_ ?_ | refine kB2 ?_ ?_) <;> intro hp | (first | refine kD1 ?_ ?_ | refine kD2 ?_ ?_ | refine kS1 ?_ ?_ | refine kS2 ?_ ?_) <;> intro hp <;> try simp only [hp] | simp -implicitDefEqProofs (disch := omega) only [go_sem, Nat.reduceAdd, Nat.reduceSub, reduceCtorEq, Nat.reduceLT, Nat.reduceLeDiff, Nat.reduceEqDiff, Nat.reduceMul, Int.reduceToNat, ↓reduceIte, List.take_of_length_le, if_pos, if_neg, List.getElem?_set_self, List.set_set, cnE, cnV, Try.ntmps7, Try.results7])
  · repeat' (first | with_reducible first | refine kI (by kernel_rfl) ?_ | refine kN (by kernel_rfl) ?_ | (first | refine kB1 ?_ ?_ | refine kB2 ?_ ?_) <;> intro hp | (first | refine kD1 ?_ ?_ | refine kD2 ?_ ?_ | refine kS1 ?_ ?_ | refine kS2 ?_ ?_) <;> intro hp <;> try simp only [hp] | simp -implicitDefEqProofs (disch := omega) only [go_sem, Nat.reduceAdd, Nat.reduceSub, reduceCtorEq, Nat.reduceLT, Nat.reduceLeDiff, Nat.reduceEqDiff, Nat.reduceMul, Int.reduceToNat, ↓reduceIte, List.take_of_length_le, if_pos, if_neg, List.getElem?_set_self, List.set_set, cnE, cnV, Try.ntmps7, Try.results7,  n1, opQ_none])
    refine InlK_intro rfl rfl can_DrawWitnessOf ((hDr bs (by omega) _).mono ?_)
    rintro r L1 ⟨a, b, ⟨⟨k1, k2⟩, ⟨k3, k4⟩⟩, rfl, rfl⟩
    have hab : viB2 a b := ⟨⟨by omega, by omega⟩, ⟨by omega, by omega⟩⟩
    have hba : viB2 b a := ⟨hab.2, hab.1⟩
    have haa : viB2 a a := ⟨hab.1, hab.1⟩
    have v1 := gValidV_eq hab.1
    have v2 := gValidV_eq hab.2
    have q1 := gWit_eq hab
    unfold witF at q1
    by_cases hc : okk a b = true ∧ 0 < (bothF (offF a) (offF b)).length
    · rw [if_pos hc] at q1
      obtain ⟨eo, h0⟩ := hc
      obtain ⟨e1, e2⟩ := okk_iff.1 eo
      have h0' : (0 : Int) < ((bothF (offF a) (offF b)).length : Int) := by omega
      obtain ⟨_, m1, m2⟩ := mem_both.1 (gmem h0)
      obtain ⟨i, ei, hi, hi2, -⟩ := plc_at m1
      obtain ⟨j, ej, hj, hj2, -⟩ := plc_at m2
      have a6 := offF_60 (vOK e1).1
      have p1 := gPlaceIn_eq (l := offF a) (by omega) ((bothF (offF a) (offF b)).getD 0 0)
      rw [ei, ej] at q1
      rw [ei] at p1
      have q3 := gOvT_eq hab
      have q5 := gOffT_eq hab.1
      have q6 := gOffT_eq hab.2
      rw [eo, if_pos rfl] at q3
      rw [e1, if_pos rfl] at q5
      rw [e2, if_pos rfl] at q6
      have hi' : (i : Int) < ((offF a).length : Int) := by omega
      have hj' : (j : Int) < ((offF b).length : Int) := by omega
      repeat' (first | with_reducible first | refine kI (by kernel_rfl) ?_ | refine kN (by kernel_rfl) ?_ | (first | refine kB1 ?_ ?_ | refine kB2 ?_ ?_) <;> intro hp | (first | refine kD1 ?_ ?_ | refine kD2 ?_ ?_ | refine kS1 ?_ ?_ | refine kS2 ?_ ?_) <;> intro hp <;> try simp only [hp] | simp -implicitDefEqProofs (disch := omega) only [go_sem, Nat.reduceAdd, Nat.reduceSub, reduceCtorEq, Nat.reduceLT, Nat.reduceLeDiff, Nat.reduceEqDiff, Nat.reduceMul, Int.reduceToNat, ↓reduceIte, List.take_of_length_le, if_pos, if_neg, List.getElem?_set_self, List.set_set, cnE, cnV, Try.ntmps7, Try.results7,  h1, q1, h2, h3, q3, h5, q5, q6, h6, p1, h0', hi', hj', hi2, hj2])
    · rw [if_neg hc] at q1
      repeat' (first | with_reducible first | refine kI (by kernel_rfl) ?_ | refine kN (by kernel_rfl) ?_ | (first | refine kB1 ?_ ?_ | refine kB2 ?_ ?_) <;> intro hp | (first | refine kD1 ?_ ?_ | refine kD2 ?_ ?_ | refine kS1 ?_ ?_ | refine kS2 ?_ ?_) <;> intro hp <;> try simp only [hp] | simp -implicitDefEqProofs (disch := omega) only [go_sem, Nat.reduceAdd, Nat.reduceSub, reduceCtorEq, Nat.reduceLT, Nat.reduceLeDiff, Nat.reduceEqDiff, Nat.reduceMul, Int.reduceToNat, ↓reduceIte, List.take_of_length_le, if_pos, if_neg, List.getElem?_set_self, List.set_set, cnE, cnV, Try.ntmps7, Try.results7,  h1, q1, h2])
end Go.Proofs.Ytgepbcakcjdmoaa
