/- Contracts of functions that the laws of this seat call. -/
import Derived.Test.YtgpflkmelindfaaVr
set_option linter.all false
namespace Go.Proofs.Ytgpflkmelindfaa
open Go Go.Ev Go.RowKit Go.Ev.Enc Go.Pl

/-! ### two views -/
def ovF (A B : List Int) : List Int := (srt A).filter fun x => (srt B).contains x
theorem ovF_eq {A B : List Int} (h : inC A) : ovF A B = bothF A B := by
  refine asc_ext ((srt_asc A).sublist List.filter_sublist) (both_asc A B) fun x => ?_
  unfold ovF
  rw [List.mem_filter, List.contains_iff_mem, srt_mem, srt_mem, mem_both]
  exact ⟨fun h' => ⟨h x h'.1, h'⟩, fun h' => h'.2⟩
theorem flt_take {p : Int → Bool} {l : List Int} {k : Nat} (hk : k < l.length) : (l.take (k + 1)).filter p = (l.take k).filter p ++ (if p (l.getD k 0) = true then [l.getD k 0] else []) := by
  rw [take_snocI hk, List.filter_append]
  congr 1
  simp only [List.filter_cons, List.filter_nil]
def gOv (a b : Vi) : Option (List Int) := gd ((shapeOK a.sh = true ∧ a.st.length = a.sh.length) ∧ (shapeOK b.sh = true ∧ b.st.length = b.sh.length)) (ovF (offF a) (offF b))
theorem gOv_eq {a b : Vi} (h : (shapeOK a.sh = true ∧ a.st.length = a.sh.length) ∧ (shapeOK b.sh = true ∧ b.st.length = b.sh.length)) : gOv a b = some (ovF (offF a) (offF b)) := gd_eq h
set_option maxHeartbeats 4000000 in
set_option maxRecDepth 100000 in
theorem spec_overlapOf {Sg : FuncId → Option (List AV → Option AV)} (hS : Sound Try.prog Sg) (hc : Sg 54 = some (F1 gCells)) (hi : Sg 67 = some (F2 gContains)) : ∀ a r, F2 gOv a = some r → CSpec Try.prog 73 a r := by
  refine F2_spec ?_
  intro a b r hr
  obtain ⟨⟨ha, hb⟩, rfl⟩ := gd_some hr
  refine CSpec.intro Try.func73 rfl (own _) (vc3_sound Try.pf hS hS _ _ _ ?_)
  have a6 := offF_60 ha.1
  have b6 := offF_60 hb.1
  have q1 := gCells_eq (v := a) ha
  have q2 := gCells_eq (v := b) hb
  have la := srt_len (offF a)
  have lb := srt_len (offF b)
  unfold ovF
  repeat' (first | with_reducible first | refine kI (by kernel_rfl) ?_ | refine kN (by kernel_rfl) ?_ | (first | refine kB1 ?_ ?_ | refine kB2 ?_ ?_) <;> intro hp | (first | refine kD1 ?_ ?_ | refine kD2 ?_ ?_ | refine kS1 ?_ ?_ | refine kS2 ?_ ?_) <;> intro hp <;> try simp only [hp] | simp -implicitDefEqProofs (disch := omega) only [go_sem, Nat.reduceAdd, Nat.reduceSub, reduceCtorEq, Nat.reduceLT, Nat.reduceLeDiff, Nat.reduceEqDiff, Nat.reduceMul, Int.reduceToNat, ↓reduceIte, List.take_of_length_le, if_pos, if_neg, List.getElem?_set_self, List.set_set, cnE, cnV, Try.ntmps73, Try.results73,  hc, q1, q2])
  generalize srt (offF a) = A at *
  generalize srt (offF b) = B at *
  generalize offF a = A0 at *
  generalize offF b = B0 at *
  refine LoopQ.mix (fun t0 L0 nn ss => ∃ (k : Nat) (q : List Int) (m : Nat) (_ : Unit), (∃ x : Nat → AV, ss = ⟨mixL 0 (.k :: .k :: .k :: .k :: .k :: .k :: .v (.sl 2 m 0 m m) :: .k :: .s :: .k :: .k :: .k :: .k :: .k :: .k :: .v (i64 (k : Nat)) :: .s :: .s :: .s :: .s :: .s :: .s :: .s :: .s :: .s :: .s :: .s :: .k :: []) t0 x, [viB0 a, viB0 b, ⟨1, q.map fun n => .int .i64 n⟩]⟩) ∧ (k ≤ A.length) ∧ (q.length = m ∧ m ≤ k) ∧ (q = (A.take k).filter fun x => B.contains x) ∧ nn = A.length - k) ?_ ?_
  · exact ⟨_, ⟨0, [], 0, (), mixI rfl, Nat.zero_le _, ⟨rfl, Nat.zero_le _⟩, rfl, rfl⟩⟩
  · rintro I0 hI0 nn s ⟨k, q, m, _, ⟨x, rfl⟩, g1, ⟨g2, g2'⟩, g3, rfl⟩
    by_cases hk : k < A.length
    · have hki : (k : Int) < (A.length : Int) := by omega
      have p1 := gContains_eq (l := B) (by omega) (A.getD k 0)
      have hf := flt_take (p := fun x => B.contains x) hk
      rw [← g3] at hf
      cases eb : B.contains (A.getD k 0) with
      | true =>
        simp only [eb, if_true] at hf
        rw [eb] at p1
        repeat' (first | with_reducible first | refine kI (by kernel_rfl) ?_ | refine kN (by kernel_rfl) ?_ | (first | refine kB1 ?_ ?_ | refine kB2 ?_ ?_) <;> intro hp | (first | refine kD1 ?_ ?_ | refine kD2 ?_ ?_ | refine kS1 ?_ ?_ | refine kS2 ?_ ?_) <;> intro hp <;> try simp only [hp] | simp -implicitDefEqProofs (disch := omega) only [go_sem, Nat.reduceAdd, Nat.reduceSub, reduceCtorEq, Nat.reduceLT, Nat.reduceLeDiff, Nat.reduceEqDiff, Nat.reduceMul, Int.reduceToNat, ↓reduceIte, List.take_of_length_le, if_pos, if_neg, List.getElem?_set_self, List.set_set, cnE, cnV, Try.ntmps73, Try.results73,  hki, hi, p1])
        exact ⟨A.length - (k + 1), by omega, hI0 _ _ ⟨k + 1, q ++ [A.getD k 0], m + 1, (), mixI rfl, hk, ⟨by simp [g2], by omega⟩, hf.symm, rfl⟩⟩
      | false =>
        simp only [eb, Bool.false_eq_true, if_false, List.append_nil] at hf
        rw [eb] at p1
        repeat' (first | with_reducible first | refine kI (by kernel_rfl) ?_ | refine kN (by kernel_rfl) ?_ | (first | refine kB1 ?_ ?_ | refine kB2 ?_ ?_) <;> intro hp | (first | refine kD1 ?_ ?_ | refine kD2 ?_ ?_ | refine kS1 ?_ ?_ | refine kS2 ?_ ?_) <;> intro hp <;> try simp only [hp] | simp -implicitDefEqProofs (disch := omega) only [go_sem, Nat.reduceAdd, Nat.reduceSub, reduceCtorEq, Nat.reduceLT, Nat.reduceLeDiff, Nat.reduceEqDiff, Nat.reduceMul, Int.reduceToNat, ↓reduceIte, List.take_of_length_le, if_pos, if_neg, List.getElem?_set_self, List.set_set, cnE, cnV, Try.ntmps73, Try.results73,  hki, hi, p1])
        exact ⟨A.length - (k + 1), by omega, hI0 _ _ ⟨k + 1, q, m, (), mixI rfl, hk, ⟨g2, by omega⟩, hf.symm, rfl⟩⟩
    · obtain rfl : k = A.length := by omega
      rw [List.take_length] at g3
      repeat' (first | with_reducible first | refine kI (by kernel_rfl) ?_ | refine kN (by kernel_rfl) ?_ | (first | refine kB1 ?_ ?_ | refine kB2 ?_ ?_) <;> intro hp | (first | refine kD1 ?_ ?_ | refine kD2 ?_ ?_ | refine kS1 ?_ ?_ | refine kS2 ?_ ?_) <;> intro hp <;> try simp only [hp] | simp -implicitDefEqProofs (disch := omega) only [go_sem, Nat.reduceAdd, Nat.reduceSub, reduceCtorEq, Nat.reduceLT, Nat.reduceLeDiff, Nat.reduceEqDiff, Nat.reduceMul, Int.reduceToNat, ↓reduceIte, List.take_of_length_le, if_pos, if_neg, List.getElem?_set_self, List.set_set, cnE, cnV, Try.ntmps73, Try.results73])
      rw [g3]
def viB2 (a b : Vi) : Prop := viB a ∧ viB b
instance (a b : Vi) : Decidable (viB2 a b) := by unfold viB2; infer_instance
def okk (a b : Vi) : Bool := viewOK a && viewOK b
theorem okk_iff {a b : Vi} : okk a b = true ↔ viewOK a = true ∧ viewOK b = true := by unfold okk; rw [Bool.and_eq_true]
theorem vOK {v : Vi} (h : viewOK v = true) : shapeOK v.sh = true ∧ v.st.length = v.sh.length := ⟨(viewOK_iff.1 h).1, (viewOK_iff.1 h).2.1⟩
def gOvT (a b : Vi) : Option (List Int) := gd (viB2 a b) (if okk a b = true then bothF (offF a) (offF b) else [])
theorem gOvT_eq {a b : Vi} (h : viB2 a b) : gOvT a b = some (if okk a b = true then bothF (offF a) (offF b) else []) := gd_eq h
def gDoOv (a b : Vi) : Option Bool := gd (viB2 a b) (okk a b && decide (0 < (bothF (offF a) (offF b)).length))
theorem gDoOv_eq {a b : Vi} (h : viB2 a b) : gDoOv a b = some (okk a b && decide (0 < (bothF (offF a) (offF b)).length)) := gd_eq h
set_option maxHeartbeats 4000000 in
set_option maxRecDepth 100000 in
theorem spec_OverlapOfI {Sg : FuncId → Option (List AV → Option AV)} (hS : Sound Try.prog Sg) (hv : Sg 51 = some (F1 gValidV)) (ho : Sg 73 = some (F2 gOv)) : ∀ a r, F2 gOvT a = some r → CSpec Try.prog 38 a r := by
  refine F2_spec ?_
  intro a b r hr
  obtain ⟨⟨ha, hb⟩, rfl⟩ := gd_some hr
  refine CSpec.intro Try.func38 rfl (own _) (vc3_sound Try.pf hS hS _ _ _ ?_)
  have q1 := gValidV_eq ha
  have q2 := gValidV_eq hb
  cases e1 : viewOK a with
  | false =>
    rw [e1] at q1
    have eo : okk a b = false := by unfold okk; rw [e1]; rfl
    rw [eo, if_neg (by simp)]
    repeat' (first | with_reducible first | refine kI (by kernel_rfl) ?_ | refine kN (by kernel_rfl) ?_ | (first | refine kB1 ?_ ?_ | refine kB2 ?_ ?_) <;> intro hp | (first | refine kD1 ?_ ?_ | refine kD2 ?_ ?_ | refine kS1 ?_ ?_ | refine kS2 ?_ ?_) <;> intro hp <;> try simp only [hp] | simp -implicitDefEqProofs (disch := omega) only [go_sem, Nat.reduceAdd, Nat.reduceSub, reduceCtorEq, Nat.reduceLT, Nat.reduceLeDiff, Nat.reduceEqDiff, Nat.reduceMul, Int.reduceToNat, ↓reduceIte, List.take_of_length_le, if_pos, if_neg, List.getElem?_set_self, List.set_set, cnE, cnV, Try.ntmps38, Try.results38,  hv, q1])
  | true =>
    rw [e1] at q1
    cases e2 : viewOK b with
    | false =>
      rw [e2] at q2
      have eo : okk a b = false := by unfold okk; rw [e1, e2]; rfl
      rw [eo, if_neg (by simp)]
      repeat' (first | with_reducible first | refine kI (by kernel_rfl) ?_ | refine kN (by kernel_rfl) ?_ | (first | refine kB1 ?_ ?_ | refine kB2 ?_ ?_) <;> intro hp | (first | refine kD1 ?_ ?_ | refine kD2 ?_ ?_ | refine kS1 ?_ ?_ | refine kS2 ?_ ?_) <;> intro hp <;> try simp only [hp] | simp -implicitDefEqProofs (disch := omega) only [go_sem, Nat.reduceAdd, Nat.reduceSub, reduceCtorEq, Nat.reduceLT, Nat.reduceLeDiff, Nat.reduceEqDiff, Nat.reduceMul, Int.reduceToNat, ↓reduceIte, List.take_of_length_le, if_pos, if_neg, List.getElem?_set_self, List.set_set, cnE, cnV, Try.ntmps38, Try.results38,  hv, q1, q2])
    | true =>
      rw [e2] at q2
      rw [okk_iff.2 ⟨e1, e2⟩, if_pos rfl]
      have a6 := offF_60 (vOK e1).1
      have b6 := offF_60 (vOK e2).1
      have q3 := gOv_eq ⟨vOK e1, vOK e2⟩
      have q4 := ovF_eq (B := offF b) (offF_in e1)
      have q5 := gBoth_eq (a := offF a) (b := offF b) ⟨by omega, by omega⟩
      repeat' (first | with_reducible first | refine kI (by kernel_rfl) ?_ | refine kN (by kernel_rfl) ?_ | (first | refine kB1 ?_ ?_ | refine kB2 ?_ ?_) <;> intro hp | (first | refine kD1 ?_ ?_ | refine kD2 ?_ ?_ | refine kS1 ?_ ?_ | refine kS2 ?_ ?_) <;> intro hp <;> try simp only [hp] | simp -implicitDefEqProofs (disch := omega) only [go_sem, Nat.reduceAdd, Nat.reduceSub, reduceCtorEq, Nat.reduceLT, Nat.reduceLeDiff, Nat.reduceEqDiff, Nat.reduceMul, Int.reduceToNat, ↓reduceIte, List.take_of_length_le, if_pos, if_neg, List.getElem?_set_self, List.set_set, cnE, cnV, Try.ntmps38, Try.results38,  hv, q1, q2, ho, q3, q4, q4])
set_option maxHeartbeats 4000000 in
set_option maxRecDepth 100000 in
theorem spec_DoOverlapI {Sg : FuncId → Option (List AV → Option AV)} (hS : Sound Try.prog Sg) (hv : Sg 51 = some (F1 gValidV)) (ho : Sg 73 = some (F2 gOv)) : ∀ a r, F2 gDoOv a = some r → CSpec Try.prog 25 a r := by
  refine F2_spec ?_
  intro a b r hr
  obtain ⟨⟨ha, hb⟩, rfl⟩ := gd_some hr
  refine CSpec.intro Try.func25 rfl (own _) (vc3_sound Try.pf hS hS _ _ _ ?_)
  have q1 := gValidV_eq ha
  have q2 := gValidV_eq hb
  cases e1 : viewOK a with
  | false =>
    rw [e1] at q1
    have eo : okk a b = false := by unfold okk; rw [e1]; rfl
    rw [eo, Bool.false_and]
    repeat' (first | with_reducible first | refine kI (by kernel_rfl) ?_ | refine kN (by kernel_rfl) ?_ | (first | refine kB1 ?_ ?_ | refine kB2 ?_ ?_) <;> intro hp | (first | refine kD1 ?_ ?_ | refine kD2 ?_ ?_ | refine kS1 ?_ ?_ | refine kS2 ?_ ?_) <;> intro hp <;> try simp only [hp] | simp -implicitDefEqProofs (disch := omega) only [go_sem, Nat.reduceAdd, Nat.reduceSub, reduceCtorEq, Nat.reduceLT, Nat.reduceLeDiff, Nat.reduceEqDiff, Nat.reduceMul, Int.reduceToNat, ↓reduceIte, List.take_of_length_le, if_pos, if_neg, List.getElem?_set_self, List.set_set, cnE, cnV, Try.ntmps25, Try.results25,  hv, q1])
  | true =>
    rw [e1] at q1
    cases e2 : viewOK b with
    | false =>
      rw [e2] at q2
      have eo : okk a b = false := by unfold okk; rw [e1, e2]; rfl
      rw [eo, Bool.false_and]
      repeat' (first | with_reducible first | refine kI (by kernel_rfl) ?_ | refine kN (by kernel_rfl) ?_ | (first | refine kB1 ?_ ?_ | refine kB2 ?_ ?_) <;> intro hp | (first | refine kD1 ?_ ?_ | refine kD2 ?_ ?_ | refine kS1 ?_ ?_ | refine kS2 ?_ ?_) <;> intro hp <;> try simp only [hp] | simp -implicitDefEqProofs (disch := omega) only [go_sem, Nat.reduceAdd, Nat.reduceSub, reduceCtorEq, Nat.reduceLT, Nat.reduceLeDiff, Nat.reduceEqDiff, Nat.reduceMul, Int.reduceToNat, ↓reduceIte, List.take_of_length_le, if_pos, if_neg, List.getElem?_set_self, List.set_set, cnE, cnV, Try.ntmps25, Try.results25,  hv, q1, q2])
    | true =>
      rw [e2] at q2
      rw [okk_iff.2 ⟨e1, e2⟩, Bool.true_and]
      have a6 := offF_60 (vOK e1).1
      have b6 := offF_60 (vOK e2).1
      have q3 := gOv_eq ⟨vOK e1, vOK e2⟩
      have q4 := ovF_eq (B := offF b) (offF_in e1)
      have q5 := gBoth_eq (a := offF a) (b := offF b) ⟨by omega, by omega⟩
      by_cases h0 : 0 < (bothF (offF a) (offF b)).length
      · have h0' : (0 : Int) < ((bothF (offF a) (offF b)).length : Int) := by omega
        rw [decide_eq_true h0]
        repeat' (first | with_reducible first | refine kI (by kernel_rfl) ?_ | refine kN (by kernel_rfl) ?_ | (first | refine kB1 ?_ ?_ | refine kB2 ?_ ?_) <;> intro hp | (first | refine kD1 ?_ ?_ | refine kD2 ?_ ?_ | refine kS1 ?_ ?_ | refine kS2 ?_ ?_) <;> intro hp <;> try simp only [hp] | simp -implicitDefEqProofs (disch := omega) only [go_sem, Nat.reduceAdd, Nat.reduceSub, reduceCtorEq, Nat.reduceLT, Nat.reduceLeDiff, Nat.reduceEqDiff, Nat.reduceMul, Int.reduceToNat, ↓reduceIte, List.take_of_length_le, if_pos, if_neg, List.getElem?_set_self, List.set_set, cnE, cnV, Try.ntmps25, Try.results25,  hv, q1, q2, ho, q3, q4, q4, h0'])
      · have h0' : ¬ (0 : Int) < ((bothF (offF a) (offF b)).length : Int) := by omega
        rw [decide_eq_false h0]
        repeat' (first | with_reducible first | refine kI (by kernel_rfl) ?_ | refine kN (by kernel_rfl) ?_ | (first | refine kB1 ?_ ?_ | refine kB2 ?_ ?_) <;> intro hp | (first | refine kD1 ?_ ?_ | refine kD2 ?_ ?_ | refine kS1 ?_ ?_ | refine kS2 ?_ ?_) <;> intro hp <;> try simp only [hp] | simp -implicitDefEqProofs (disch := omega) only [go_sem, Nat.reduceAdd, Nat.reduceSub, reduceCtorEq, Nat.reduceLT, Nat.reduceLeDiff, Nat.reduceEqDiff, Nat.reduceMul, Int.reduceToNat, ↓reduceIte, List.take_of_length_le, if_pos, if_neg, List.getElem?_set_self, List.set_set, cnE, cnV, Try.ntmps25, Try.results25,  hv, q1, q2, ho, q3, q4, q4, h0'])
theorem bd_le (v : Vi) : (bdF v).1 ≤ (bdF v).2 := by
  unfold bdF
  split
  · rename_i h
    have hp := offF_pos h.1 h.2
    have h1 := (mnT_b (l := offF v) _ hp (Nat.le_refl _)).2 0 hp
    have h2 := (mxT_b (l := offF v) _ hp (Nat.le_refl _)).2 0 hp
    show mnT _ _ ≤ mxT _ _
    omega
  · exact Int.le_refl _
def mayF (a b : Vi) : Bool := decide (0 ≤ (bdF a).1) && (decide (0 ≤ (bdF b).1) && (decide ((bdF a).1 ≤ (bdF b).2) && decide ((bdF b).1 ≤ (bdF a).2)))
def gMay (a b : Vi) : Option Bool := gd (viB2 a b) (mayF a b)
theorem gMay_eq {a b : Vi} (h : viB2 a b) : gMay a b = some (mayF a b) := gd_eq h
end Go.Proofs.Ytgpflkmelindfaa
