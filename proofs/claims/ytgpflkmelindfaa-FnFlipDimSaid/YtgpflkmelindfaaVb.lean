/- Contracts of functions that the laws of this seat call. -/
import Derived.Test.YtgpflkmelindfaaVa
set_option linter.all false
namespace Go.Proofs.Ytgpflkmelindfaa
open Go Go.Ev Go.RowKit Go.Ev.Enc Go.Pl

theorem exp_ownI (q : List Int) (n : Nat) (h : q.length = n) : exp 1 [⟨1, q.map fun n => .int .i64 n⟩] (.sl 0 n 0 n n) = ints 1 q := by
  subst h
  simp [exp, expE, expC, stepC, ints, Function.comp_def, List.take_of_length_le]
theorem map_vi0 (v : Vi) : exp 0 [] (.agg [i64 v.b, ints 0 v.sh, ints 0 v.st]) = .agg [i64 v.b, ints 0 v.sh, ints 0 v.st] := by
  simp [exp, expE, expC, stepC, ints, Function.comp_def]
set_option maxHeartbeats 4000000 in
set_option maxRecDepth 100000 in
theorem spec_offsetsS {Sg : FuncId → Option (List AV → Option AV)} (hS : Sound Try.prog Sg) (hc : Sg 109 = some (F1 gCount)) (hu : Sg 111 = some (F2 gUnrank)) (ho : Sg 110 = some (F2 gOffset)) : ∀ a r, F1 gOffsets a = some r → CSpec Try.prog 62 a r := by
  refine F1_spec ?_
  intro v r hr
  obtain ⟨⟨h1, h2⟩, rfl⟩ := gd_some hr
  refine (o_offsetsS hS hc hu ho v h1 h2).cspec ?_ (own (offF v)) (exp_ownI _ _ rfl)
  show [_] = [_]
  rw [map_vi0]
set_option maxHeartbeats 4000000 in
set_option maxRecDepth 100000 in
theorem spec_offsetsI {Sg : FuncId → Option (List AV → Option AV)} (hS : Sound Try.prog Sg) (hc : Sg 97 = some (F1 gCountOf)) (hu : Sg 98 = some (F2 gUnrank)) (ho : Sg 100 = some (F2 gOffset)) : ∀ a r, F1 gOffsets a = some r → CSpec Try.prog 53 a r := by
  refine F1_spec ?_
  intro v r hr
  obtain ⟨⟨h1, h2⟩, rfl⟩ := gd_some hr
  refine (o_offsetsI hS hc hu ho v h1 h2).cspec ?_ (own (offF v)) (exp_ownI _ _ rfl)
  show [_] = [_]
  rw [map_vi0]
theorem viewOK_iff {v : Vi} : viewOK v = true ↔ shapeOK v.sh = true ∧ v.st.length = v.sh.length ∧ (∀ x ∈ v.st, -60 ≤ x ∧ x ≤ 60) ∧ (0 ≤ v.b ∧ v.b ≤ 60) ∧ ∀ x ∈ offF v, 0 ≤ x ∧ x < 60 := by
  unfold viewOK inR
  simp only [Bool.and_eq_true, decide_eq_true_eq, List.all_eq_true]
  constructor
  · rintro ⟨h1, h2, h3, h4, h5⟩
    exact ⟨h1, h2, h3, h4, fun x hx => by have := h5 x hx; omega⟩
  · rintro ⟨h1, h2, h3, h4, h5⟩
    exact ⟨h1, h2, h3, h4, fun x hx => by have := h5 x hx; omega⟩
theorem offF_zero {v : Vi} (h : prodW v.sh = 0) : offF v = [] := by unfold offF; rw [h]; rfl
set_option maxHeartbeats 4000000 in
set_option maxRecDepth 100000 in
theorem spec_validViewS {Sg : FuncId → Option (List AV → Option AV)} (hS : Sound Try.prog Sg) (hs : Sg 116 = some (F1 gIsShape)) (ha : Sg 79 = some (F3 gAllIn)) (hr : Sg 60 = some (F3 gInRange)) (hc : Sg 109 = some (F1 gCount)) (ho : Sg 62 = some (F1 gOffsets)) : ∀ a r, F1 gValidV a = some r → CSpec Try.prog 69 a r := by
  refine F1_spec ?_
  intro v r hr0
  obtain ⟨⟨h1, h2⟩, rfl⟩ := gd_some hr0
  refine CSpec.intro Try.func69 rfl (own _) (vc3_sound Try.pf hS hS _ _ _ ?_)
  have q1 := gIsShape_eq (l := v.sh) h1
  cases e1 : shapeOK v.sh with
  | false =>
    have hf : viewOK v = false := by unfold viewOK; rw [e1]; rfl
    rw [e1] at q1
    repeat' (first | with_reducible first | refine kI (by kernel_rfl) ?_ | refine kN (by kernel_rfl) ?_ | (first | refine kB1 ?_ ?_ | refine kB2 ?_ ?_) <;> intro hp | (first | refine kD1 ?_ ?_ | refine kD2 ?_ ?_ | refine kS1 ?_ ?_ | refine kS2 ?_ ?_) <;> intro hp <;> try simp only [hp] | simp -implicitDefEqProofs (disch := omega) only [go_sem, Nat.reduceAdd, Nat.reduceSub, reduceCtorEq, Nat.reduceLT, Nat.reduceLeDiff, Nat.reduceEqDiff, Nat.reduceMul, Int.reduceToNat, ↓reduceIte, List.take_of_length_le, if_pos, if_neg, List.getElem?_set_self, List.set_set, cnE, cnV, Try.ntmps69, Try.results69,  hs, q1, hf])
  | true =>
    rw [e1] at q1
    obtain ⟨s1, s2, s3, s4, s5⟩ := shape_facts e1
    cases e2 : decide (v.st.length = v.sh.length) with
    | false =>
      have hf : viewOK v = false := by unfold viewOK; rw [e1, e2]; rfl
      have e2' : ((v.st.length : Int) == (v.sh.length : Int)) = false := beq_f (by have := of_decide_eq_false e2; omega)
      repeat' (first | with_reducible first | refine kI (by kernel_rfl) ?_ | refine kN (by kernel_rfl) ?_ | (first | refine kB1 ?_ ?_ | refine kB2 ?_ ?_) <;> intro hp | (first | refine kD1 ?_ ?_ | refine kD2 ?_ ?_ | refine kS1 ?_ ?_ | refine kS2 ?_ ?_) <;> intro hp <;> try simp only [hp] | simp -implicitDefEqProofs (disch := omega) only [go_sem, Nat.reduceAdd, Nat.reduceSub, reduceCtorEq, Nat.reduceLT, Nat.reduceLeDiff, Nat.reduceEqDiff, Nat.reduceMul, Int.reduceToNat, ↓reduceIte, List.take_of_length_le, if_pos, if_neg, List.getElem?_set_self, List.set_set, cnE, cnV, Try.ntmps69, Try.results69,  hs, q1, e2', hf])
    | true =>
      have e2n := of_decide_eq_true e2
      have e2' : ((v.st.length : Int) == (v.sh.length : Int)) = true := beq_t (by omega)
      have q2 := gAllIn_eq (l := v.st) h2 (-60) 60
      cases e3 : v.st.all (fun n => inR n (-60) 60) with
      | false =>
        have hf : viewOK v = false := by unfold viewOK; rw [e1, e2, e3]; rfl
        rw [e3] at q2
        repeat' (first | with_reducible first | refine kI (by kernel_rfl) ?_ | refine kN (by kernel_rfl) ?_ | (first | refine kB1 ?_ ?_ | refine kB2 ?_ ?_) <;> intro hp | (first | refine kD1 ?_ ?_ | refine kD2 ?_ ?_ | refine kS1 ?_ ?_ | refine kS2 ?_ ?_) <;> intro hp <;> try simp only [hp] | simp -implicitDefEqProofs (disch := omega) only [go_sem, Nat.reduceAdd, Nat.reduceSub, reduceCtorEq, Nat.reduceLT, Nat.reduceLeDiff, Nat.reduceEqDiff, Nat.reduceMul, Int.reduceToNat, ↓reduceIte, List.take_of_length_le, if_pos, if_neg, List.getElem?_set_self, List.set_set, cnE, cnV, Try.ntmps69, Try.results69,  hs, q1, e2', ha, q2, hf])
      | true =>
        rw [e3] at q2
        have q3 := gInRange_eq v.b 0 60
        cases e4 : inR v.b 0 60 with
        | false =>
          have hf : viewOK v = false := by unfold viewOK; rw [e1, e2, e3, e4]; rfl
          rw [e4] at q3
          repeat' (first | with_reducible first | refine kI (by kernel_rfl) ?_ | refine kN (by kernel_rfl) ?_ | (first | refine kB1 ?_ ?_ | refine kB2 ?_ ?_) <;> intro hp | (first | refine kD1 ?_ ?_ | refine kD2 ?_ ?_ | refine kS1 ?_ ?_ | refine kS2 ?_ ?_) <;> intro hp <;> try simp only [hp] | simp -implicitDefEqProofs (disch := omega) only [go_sem, Nat.reduceAdd, Nat.reduceSub, reduceCtorEq, Nat.reduceLT, Nat.reduceLeDiff, Nat.reduceEqDiff, Nat.reduceMul, Int.reduceToNat, ↓reduceIte, List.take_of_length_le, if_pos, if_neg, List.getElem?_set_self, List.set_set, cnE, cnV, Try.ntmps69, Try.results69,  hs, q1, e2', ha, q2, hr, q3, hf])
        | true =>
          rw [e4] at q3
          have q4 := gCount_eq (l := v.sh) h1
          have hf : viewOK v = (offF v).all fun n => inR n 0 59 := by unfold viewOK; rw [e1, e2, e3, e4]; rfl
          by_cases e5 : prodW v.sh = 0
          · have hf2 : viewOK v = true := by rw [hf, offF_zero e5]; rfl
            rw [e5] at q4
            repeat' (first | with_reducible first | refine kI (by kernel_rfl) ?_ | refine kN (by kernel_rfl) ?_ | (first | refine kB1 ?_ ?_ | refine kB2 ?_ ?_) <;> intro hp | (first | refine kD1 ?_ ?_ | refine kD2 ?_ ?_ | refine kS1 ?_ ?_ | refine kS2 ?_ ?_) <;> intro hp <;> try simp only [hp] | simp -implicitDefEqProofs (disch := omega) only [go_sem, Nat.reduceAdd, Nat.reduceSub, reduceCtorEq, Nat.reduceLT, Nat.reduceLeDiff, Nat.reduceEqDiff, Nat.reduceMul, Int.reduceToNat, ↓reduceIte, List.take_of_length_le, if_pos, if_neg, List.getElem?_set_self, List.set_set, cnE, cnV, Try.ntmps69, Try.results69,  hs, q1, e2', ha, q2, hr, q3, hc, q4, hf2])
          · have e5' : (prodW v.sh == 0) = false := beq_f e5
            have q5 := gOffsets_eq (v := v) ⟨e1, e2n⟩
            have q6 := gAllIn_eq (l := offF v) (by rw [offF_len]; omega) 0 59
            rw [← hf] at q6
            repeat' (first | with_reducible first | refine kI (by kernel_rfl) ?_ | refine kN (by kernel_rfl) ?_ | (first | refine kB1 ?_ ?_ | refine kB2 ?_ ?_) <;> intro hp | (first | refine kD1 ?_ ?_ | refine kD2 ?_ ?_ | refine kS1 ?_ ?_ | refine kS2 ?_ ?_) <;> intro hp <;> try simp only [hp] | simp -implicitDefEqProofs (disch := omega) only [go_sem, Nat.reduceAdd, Nat.reduceSub, reduceCtorEq, Nat.reduceLT, Nat.reduceLeDiff, Nat.reduceEqDiff, Nat.reduceMul, Int.reduceToNat, ↓reduceIte, List.take_of_length_le, if_pos, if_neg, List.getElem?_set_self, List.set_set, cnE, cnV, Try.ntmps69, Try.results69,  hs, q1, e2', ha, q2, hr, q3, hc, q4, e5', ho, q5, q6])
def notCell (x : Int) : Bool := decide (x < 0) || decide (60 ≤ x)
set_option maxHeartbeats 2000000 in
set_option maxRecDepth 100000 in
theorem ispec_isView1 {Sg : FuncId → Option (List AV → Option AV)} (hS : Sound Try.prog Sg) (x : Int) (L : List Blk) : ISpec Try.prog 104 [i64 x] L (fun r L' => r = .bool (notCell x) ∧ L' = L) := by
  refine ISpec.intro Try.func104 rfl (vc_sound Try.pf hS _ _ _ ?_)
  by_cases h : x < 0
  · repeat' (first | with_reducible first | refine kI (by kernel_rfl) ?_ | refine kN (by kernel_rfl) ?_ | (first | refine kB1 ?_ ?_ | refine kB2 ?_ ?_) <;> intro hp | (first | refine kD1 ?_ ?_ | refine kD2 ?_ ?_ | refine kS1 ?_ ?_ | refine kS2 ?_ ?_) <;> intro hp <;> try simp only [hp] | simp -implicitDefEqProofs (disch := omega) only [go_sem, Nat.reduceAdd, Nat.reduceSub, reduceCtorEq, Nat.reduceLT, Nat.reduceLeDiff, Nat.reduceEqDiff, Nat.reduceMul, Int.reduceToNat, ↓reduceIte, List.take_of_length_le, if_pos, if_neg, List.getElem?_set_self, List.set_set, cnE, cnV, Try.ntmps104, Try.results104,  h, notCell])
  · by_cases h' : 60 ≤ x
    · repeat' (first | with_reducible first | refine kI (by kernel_rfl) ?_ | refine kN (by kernel_rfl) ?_ | (first | refine kB1 ?_ ?_ | refine kB2 ?_ ?_) <;> intro hp | (first | refine kD1 ?_ ?_ | refine kD2 ?_ ?_ | refine kS1 ?_ ?_ | refine kS2 ?_ ?_) <;> intro hp <;> try simp only [hp] | simp -implicitDefEqProofs (disch := omega) only [go_sem, Nat.reduceAdd, Nat.reduceSub, reduceCtorEq, Nat.reduceLT, Nat.reduceLeDiff, Nat.reduceEqDiff, Nat.reduceMul, Int.reduceToNat, ↓reduceIte, List.take_of_length_le, if_pos, if_neg, List.getElem?_set_self, List.set_set, cnE, cnV, Try.ntmps104, Try.results104,  h, h', notCell])
    · repeat' (first | with_reducible first | refine kI (by kernel_rfl) ?_ | refine kN (by kernel_rfl) ?_ | (first | refine kB1 ?_ ?_ | refine kB2 ?_ ?_) <;> intro hp | (first | refine kD1 ?_ ?_ | refine kD2 ?_ ?_ | refine kS1 ?_ ?_ | refine kS2 ?_ ?_) <;> intro hp <;> try simp only [hp] | simp -implicitDefEqProofs (disch := omega) only [go_sem, Nat.reduceAdd, Nat.reduceSub, reduceCtorEq, Nat.reduceLT, Nat.reduceLeDiff, Nat.reduceEqDiff, Nat.reduceMul, Int.reduceToNat, ↓reduceIte, List.take_of_length_le, if_pos, if_neg, List.getElem?_set_self, List.set_set, cnE, cnV, Try.ntmps104, Try.results104,  h, h', notCell])
theorem can_ContainsFunc : CanCall Try.prog 103 := ⟨_, Try.func103, rfl, rfl⟩
theorem any_all {l : List Int} : (!l.any notCell) = l.all fun n => inR n 0 59 := by
  rw [Bool.eq_iff_iff, Bool.not_eq_true', List.any_eq_false, List.all_eq_true]
  constructor
  · intro h x hx
    have := h x hx
    unfold notCell at this
    unfold inR
    simp only [Bool.or_eq_true, decide_eq_true_eq, Bool.and_eq_true, not_or] at this ⊢
    omega
  · intro h x hx
    have := h x hx
    unfold inR at this
    unfold notCell
    simp only [Bool.or_eq_true, decide_eq_true_eq, Bool.and_eq_true, not_or] at this ⊢
    omega
set_option maxHeartbeats 4000000 in
set_option maxRecDepth 100000 in
theorem spec_isView {Sg : FuncId → Option (List AV → Option AV)} (hS : Sound Try.prog Sg) (hs : Sg 96 = some (F1 gIsShape)) (ho : Sg 53 = some (F1 gOffsets)) (n1 : Sg 103 = none) (hi : Sg 130 = none) : ∀ a r, F1 gValidV a = some r → CSpec Try.prog 51 a r := by
  refine F1_spec ?_
  intro v r hr0
  obtain ⟨⟨h1, h2⟩, rfl⟩ := gd_some hr0
  refine CSpec.intro Try.func51 rfl (own _) (vc3_sound Try.pf hS hS _ _ _ ?_)
  have q1 := gIsShape_eq (l := v.sh) h1
  cases e1 : shapeOK v.sh with
  | false =>
    have hf : viewOK v = false := by unfold viewOK; rw [e1]; rfl
    rw [e1] at q1
    repeat' (first | with_reducible first | refine kI (by kernel_rfl) ?_ | refine kN (by kernel_rfl) ?_ | (first | refine kB1 ?_ ?_ | refine kB2 ?_ ?_) <;> intro hp | (first | refine kD1 ?_ ?_ | refine kD2 ?_ ?_ | refine kS1 ?_ ?_ | refine kS2 ?_ ?_) <;> intro hp <;> try simp only [hp] | simp -implicitDefEqProofs (disch := omega) only [go_sem, Nat.reduceAdd, Nat.reduceSub, reduceCtorEq, Nat.reduceLT, Nat.reduceLeDiff, Nat.reduceEqDiff, Nat.reduceMul, Int.reduceToNat, ↓reduceIte, List.take_of_length_le, if_pos, if_neg, List.getElem?_set_self, List.set_set, cnE, cnV, Try.ntmps51, Try.results51,  hs, q1, hf])
  | true =>
    rw [e1] at q1
    obtain ⟨s1, s2, s3, s4, s5⟩ := shape_facts e1
    by_cases e2 : v.st.length = v.sh.length
    · have e2' : ((v.st.length : Int) == (v.sh.length : Int)) = true := beq_t (by omega)
      by_cases e3 : v.b < 0
      · have hf : viewOK v = false := by rw [← Bool.not_eq_true, viewOK_iff]; rintro ⟨_, _, _, h, _⟩; omega
        repeat' (first | with_reducible first | refine kI (by kernel_rfl) ?_ | refine kN (by kernel_rfl) ?_ | (first | refine kB1 ?_ ?_ | refine kB2 ?_ ?_) <;> intro hp | (first | refine kD1 ?_ ?_ | refine kD2 ?_ ?_ | refine kS1 ?_ ?_ | refine kS2 ?_ ?_) <;> intro hp <;> try simp only [hp] | simp -implicitDefEqProofs (disch := omega) only [go_sem, Nat.reduceAdd, Nat.reduceSub, reduceCtorEq, Nat.reduceLT, Nat.reduceLeDiff, Nat.reduceEqDiff, Nat.reduceMul, Int.reduceToNat, ↓reduceIte, List.take_of_length_le, if_pos, if_neg, List.getElem?_set_self, List.set_set, cnE, cnV, Try.ntmps51, Try.results51,  hs, q1, e2', e3, hf])
      · by_cases e4 : 60 < v.b
        · have hf : viewOK v = false := by rw [← Bool.not_eq_true, viewOK_iff]; rintro ⟨_, _, _, h, _⟩; omega
          repeat' (first | with_reducible first | refine kI (by kernel_rfl) ?_ | refine kN (by kernel_rfl) ?_ | (first | refine kB1 ?_ ?_ | refine kB2 ?_ ?_) <;> intro hp | (first | refine kD1 ?_ ?_ | refine kD2 ?_ ?_ | refine kS1 ?_ ?_ | refine kS2 ?_ ?_) <;> intro hp <;> try simp only [hp] | simp -implicitDefEqProofs (disch := omega) only [go_sem, Nat.reduceAdd, Nat.reduceSub, reduceCtorEq, Nat.reduceLT, Nat.reduceLeDiff, Nat.reduceEqDiff, Nat.reduceMul, Int.reduceToNat, ↓reduceIte, List.take_of_length_le, if_pos, if_neg, List.getElem?_set_self, List.set_set, cnE, cnV, Try.ntmps51, Try.results51,  hs, q1, e2', e3, e4, hf])
        · repeat' (first | with_reducible first | refine kI (by kernel_rfl) ?_ | refine kN (by kernel_rfl) ?_ | (first | refine kB1 ?_ ?_ | refine kB2 ?_ ?_) <;> intro hp | (first | refine kD1 ?_ ?_ | refine kD2 ?_ ?_ | refine kS1 ?_ ?_ | refine kS2 ?_ ?_) <;> intro hp <;> try simp only [hp] | simp -implicitDefEqProofs (disch := omega) only [go_sem, Nat.reduceAdd, Nat.reduceSub, reduceCtorEq, Nat.reduceLT, Nat.reduceLeDiff, Nat.reduceEqDiff, Nat.reduceMul, Int.reduceToNat, ↓reduceIte, List.take_of_length_le, if_pos, if_neg, List.getElem?_set_self, List.set_set, cnE, cnV, Try.ntmps51, Try.results51,  hs, q1, e2', e3, e4])
          refine LoopQ.mix (fun t0 L0 nn ss => ∃ (k : Nat) (_ : Unit), (∃ x : Nat → AV, ss = ⟨mixL 0 (.k :: .k :: .s :: .k :: .s :: .k :: .k :: .k :: .k :: .k :: .k :: .k :: .k :: .k :: .k :: .k :: .k :: .k :: .k :: .k :: .k :: .k :: .k :: .k :: .k :: .k :: .k :: .k :: .k :: .k :: .k :: .v (i64 (k : Nat)) :: .s :: .s :: .s :: .s :: .s :: .s :: .s :: .s :: .s :: .s :: .k :: .k :: .k :: .k :: []) t0 x, L0⟩) ∧ (k ≤ v.st.length) ∧ (∀ i, i < k → -60 ≤ v.st.getD i 0 ∧ v.st.getD i 0 ≤ 60) ∧ nn = v.st.length - k) ?_ ?_
          · exact ⟨_, ⟨0, (), mixI rfl, Nat.zero_le _, fun i hi => absurd hi (Nat.not_lt_zero _), rfl⟩⟩
          · rintro I0 hI0 n ss ⟨k, _, ⟨y, rfl⟩, m1, m2, rfl⟩
            by_cases hk : k < v.st.length
            · have hm : v.st.getD k 0 ∈ v.st := gmem hk
              by_cases e5 : v.st.getD k 0 < -60
              · have hf : viewOK v = false := by rw [← Bool.not_eq_true, viewOK_iff]; rintro ⟨_, _, h, _⟩; have := h _ hm; omega
                repeat' (first | with_reducible first | refine kI (by kernel_rfl) ?_ | refine kN (by kernel_rfl) ?_ | (first | refine kB1 ?_ ?_ | refine kB2 ?_ ?_) <;> intro hp | (first | refine kD1 ?_ ?_ | refine kD2 ?_ ?_ | refine kS1 ?_ ?_ | refine kS2 ?_ ?_) <;> intro hp <;> try simp only [hp] | simp -implicitDefEqProofs (disch := omega) only [go_sem, Nat.reduceAdd, Nat.reduceSub, reduceCtorEq, Nat.reduceLT, Nat.reduceLeDiff, Nat.reduceEqDiff, Nat.reduceMul, Int.reduceToNat, ↓reduceIte, List.take_of_length_le, if_pos, if_neg, List.getElem?_set_self, List.set_set, cnE, cnV, Try.ntmps51, Try.results51,  e5, hf])
              · by_cases e6 : 60 < v.st.getD k 0
                · have hf : viewOK v = false := by rw [← Bool.not_eq_true, viewOK_iff]; rintro ⟨_, _, h, _⟩; have := h _ hm; omega
                  repeat' (first | with_reducible first | refine kI (by kernel_rfl) ?_ | refine kN (by kernel_rfl) ?_ | (first | refine kB1 ?_ ?_ | refine kB2 ?_ ?_) <;> intro hp | (first | refine kD1 ?_ ?_ | refine kD2 ?_ ?_ | refine kS1 ?_ ?_ | refine kS2 ?_ ?_) <;> intro hp <;> try simp only [hp] | simp -implicitDefEqProofs (disch := omega) only [go_sem, Nat.reduceAdd, Nat.reduceSub, reduceCtorEq, Nat.reduceLT, Nat.reduceLeDiff, Nat.reduceEqDiff, Nat.reduceMul, Int.reduceToNat, ↓reduceIte, List.take_of_length_le, if_pos, if_neg, List.getElem?_set_self, List.set_set, cnE, cnV, Try.ntmps51, Try.results51,  e5, e6, hf])
                · repeat' (first | with_reducible first | refine kI (by kernel_rfl) ?_ | refine kN (by kernel_rfl) ?_ | (first | refine kB1 ?_ ?_ | refine kB2 ?_ ?_) <;> intro hp | (first | refine kD1 ?_ ?_ | refine kD2 ?_ ?_ | refine kS1 ?_ ?_ | refine kS2 ?_ ?_) <;> intro hp <;> try simp only [hp] | simp -implicitDefEqProofs (disch := omega) only [go_sem, Nat.reduceAdd, Nat.reduceSub, reduceCtorEq, Nat.reduceLT, Nat.reduceLeDiff, Nat.reduceEqDiff, Nat.reduceMul, Int.reduceToNat, ↓reduceIte, List.take_of_length_le, if_pos, if_neg, List.getElem?_set_self, List.set_set, cnE, cnV, Try.ntmps51, Try.results51,  e5, e6])
                  exact ⟨v.st.length - (k + 1), by omega, hI0 _ _ ⟨k + 1, (), mixI rfl, hk, fun i hi => by rcases Nat.lt_or_eq_of_le (Nat.le_of_lt_succ hi) with h | rfl; exact m2 i h; omega, rfl⟩⟩
            · obtain rfl : k = v.st.length := by omega
              have hst : v.st.all (fun n => inR n (-60) 60) = true := by
                rw [List.all_eq_true]
                intro x hx
                obtain ⟨i, hi, rfl⟩ := List.mem_iff_getElem.1 hx
                have := m2 i hi
                simp only [List.getD_eq_getElem?_getD, List.getElem?_eq_getElem hi, Option.getD_some] at this
                unfold inR
                simp only [Bool.and_eq_true, decide_eq_true_eq]; exact this
              have hb : inR v.b 0 60 = true := by unfold inR; simp only [Bool.and_eq_true, decide_eq_true_eq]; omega
              have hf : viewOK v = (offF v).all fun n => inR n 0 59 := by unfold viewOK; rw [e1, decide_eq_true e2, hst, hb]; rfl
              rw [← any_all] at hf
              have q5 := gOffsets_eq (v := v) ⟨e1, e2⟩
              repeat' (first | with_reducible first | refine kI (by kernel_rfl) ?_ | refine kN (by kernel_rfl) ?_ | (first | refine kB1 ?_ ?_ | refine kB2 ?_ ?_) <;> intro hp | (first | refine kD1 ?_ ?_ | refine kD2 ?_ ?_ | refine kS1 ?_ ?_ | refine kS2 ?_ ?_) <;> intro hp <;> try simp only [hp] | simp -implicitDefEqProofs (disch := omega) only [go_sem, Nat.reduceAdd, Nat.reduceSub, reduceCtorEq, Nat.reduceLT, Nat.reduceLeDiff, Nat.reduceEqDiff, Nat.reduceMul, Int.reduceToNat, ↓reduceIte, List.take_of_length_le, if_pos, if_neg, List.getElem?_set_self, List.set_set, cnE, cnV, Try.ntmps51, Try.results51,  ho, q5, n1, opQ_none])
              refine InlK_intro rfl rfl can_ContainsFunc ((ispec_ContainsFunc hS hi ⟨_, Try.func104, rfl, rfl⟩ (ispec_isView1 hS) 1 (offF v) (by rw [offF_len]; omega) _).mono ?_)
              rintro r L' ⟨rfl, rfl⟩
              repeat' (first | with_reducible first | refine kI (by kernel_rfl) ?_ | refine kN (by kernel_rfl) ?_ | (first | refine kB1 ?_ ?_ | refine kB2 ?_ ?_) <;> intro hp | (first | refine kD1 ?_ ?_ | refine kD2 ?_ ?_ | refine kS1 ?_ ?_ | refine kS2 ?_ ?_) <;> intro hp <;> try simp only [hp] | simp -implicitDefEqProofs (disch := omega) only [go_sem, Nat.reduceAdd, Nat.reduceSub, reduceCtorEq, Nat.reduceLT, Nat.reduceLeDiff, Nat.reduceEqDiff, Nat.reduceMul, Int.reduceToNat, ↓reduceIte, List.take_of_length_le, if_pos, if_neg, List.getElem?_set_self, List.set_set, cnE, cnV, Try.ntmps51, Try.results51,  hf])
    · have e2' : ((v.st.length : Int) == (v.sh.length : Int)) = false := beq_f (by omega)
      have hf : viewOK v = false := by rw [← Bool.not_eq_true, viewOK_iff]; rintro ⟨_, h, _⟩; exact e2 h
      repeat' (first | with_reducible first | refine kI (by kernel_rfl) ?_ | refine kN (by kernel_rfl) ?_ | (first | refine kB1 ?_ ?_ | refine kB2 ?_ ?_) <;> intro hp | (first | refine kD1 ?_ ?_ | refine kD2 ?_ ?_ | refine kS1 ?_ ?_ | refine kS2 ?_ ?_) <;> intro hp <;> try simp only [hp] | simp -implicitDefEqProofs (disch := omega) only [go_sem, Nat.reduceAdd, Nat.reduceSub, reduceCtorEq, Nat.reduceLT, Nat.reduceLeDiff, Nat.reduceEqDiff, Nat.reduceMul, Int.reduceToNat, ↓reduceIte, List.take_of_length_le, if_pos, if_neg, List.getElem?_set_self, List.set_set, cnE, cnV, Try.ntmps51, Try.results51,  hs, q1, e2', hf])
end Go.Proofs.Ytgpflkmelindfaa
