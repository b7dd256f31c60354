/- Contracts of functions that the laws of this seat call. -/
import Derived.Test.YtgpflkmelindfaaWf
set_option linter.all false
namespace Go.Proofs.Ytgpflkmelindfaa
open Go Go.Ev Go.RowKit Go.Ev.Enc Go.Pl

/-! ### values stored one by one -/
def stoT (m A V : List Int) : Nat → List Int
  | 0 => m
  | k + 1 => (stoT m A V k).set (A.getD k 0).toNat (V.getD k 0)
theorem stoT_len (m A V : List Int) : ∀ k, (stoT m A V k).length = m.length
  | 0 => rfl
  | k + 1 => by rw [stoT, List.length_set, stoT_len m A V k]
theorem stoT_out {m A V : List Int} {i : Nat} : ∀ k, (∀ j, j < k → (A.getD j 0).toNat ≠ i) → (stoT m A V k).getD i 0 = m.getD i 0
  | 0, _ => rfl
  | k + 1, h => by
    rw [stoT, getD_set_ne (Ne.symm (h k (by omega))), stoT_out k fun j hj => h j (by omega)]
theorem stoT_val {m A V : List Int} (P : Int → Prop) (hm : ∀ x ∈ m, P x) : ∀ k, k ≤ V.length → (∀ x ∈ V, P x) → ∀ x ∈ stoT m A V k, P x
  | 0, _, _ => hm
  | k + 1, hk, hV => fun x hx => by
    rcases List.mem_or_eq_of_mem_set hx with hx | rfl
    · exact stoT_val P hm k (by omega) hV x hx
    · exact hV _ (gmem (by omega))
/-- cells of a memory -/
def inM (A : List Int) (n : Nat) : Prop := ∀ x ∈ A, 0 ≤ x ∧ x < n
theorem fit_in {m : List Int} {v : Vi} (h : holdB m v = true) : memOK m = true ∧ viewOK v = true ∧ inM (offF v) m.length := by
  unfold holdB at h
  simp only [Bool.and_eq_true] at h
  refine ⟨h.1, h.2.1, fun x hx => ?_⟩
  have h1 := (viewOK_iff.1 h.2.1).2.2.2.2 x hx
  have h2 := of_decide_eq_true (List.all_eq_true.1 h.2.2 x hx)
  exact ⟨h1.1, h2⟩
theorem hold_of {m m' : List Int} {v : Vi} (h : holdB m v = true) (hm : memOK m' = true) (hl : m'.length = m.length) : holdB m' v = true := by
  unfold holdB at *
  simp only [Bool.and_eq_true] at *
  rw [hl]
  exact ⟨hm, h.2⟩
theorem sto_mem {m A V : List Int} (hm : memOK m = true) (hV : ∀ x ∈ V, 0 ≤ x ∧ x ≤ 255) {k : Nat} (hk : k ≤ V.length) : memOK (stoT m A V k) = true := by
  obtain ⟨h1, h2⟩ := memOK_iff.1 hm
  exact memOK_iff.2 ⟨by rw [stoT_len]; exact h1, stoT_val _ h2 k hk hV⟩
/-- a cell that was stored holds the value of the last index that has it -/
theorem stoT_last {m A V : List Int} {i j : Nat} (hi : i < m.length) (hj : (A.getD j 0).toNat = i) : ∀ k, j < k → (∀ t, j < t → t < k → (A.getD t 0).toNat ≠ i) → (stoT m A V k).getD i 0 = V.getD j 0
  | k + 1, h, hn => by
    rw [stoT]
    by_cases hjk : j = k
    · subst hjk
      rw [hj, getD_set_eq (by rw [stoT_len]; exact hi)]
    · rw [getD_set_ne (Ne.symm (hn k (by omega) (by omega)))]
      exact stoT_last hi hj k (by omega) fun t h1 h2 => hn t h1 (by omega)
theorem in_at {A : List Int} {n k : Nat} (h : inM A n) (hk : k < A.length) : ∃ j : Nat, A.getD k 0 = j ∧ j < n := by
  have := h _ (gmem hk)
  exact ⟨(A.getD k 0).toNat, by omega, by omega⟩
/-! ### what is loaded -/
def gLoadI (m : List Int) (v : Vi) : Option (List Int) := gd (holdB m v = true) (tkn m (offF v))
theorem gLoadI_eq {m : List Int} {v : Vi} (h : holdB m v = true) : gLoadI m v = some (tkn m (offF v)) := gd_eq h
set_option maxHeartbeats 4000000 in
set_option maxRecDepth 100000 in
theorem spec_loadView {Sg : FuncId → Option (List AV → Option AV)} (hS : Sound Try.prog Sg) (ho : Sg 53 = some (F1 gOffsets)) (ht : Sg 112 = some (F2 gTakenOf)) : ∀ a r, F2 gLoadI a = some r → CSpec Try.prog 63 a r := by
  refine F2_spec ?_
  intro m v r hr
  obtain ⟨h, rfl⟩ := gd_some hr
  refine CSpec.intro Try.func63 rfl (own _) (vc3_sound Try.pf hS hS _ _ _ ?_)
  obtain ⟨h1, h2, h3⟩ := fit_in h
  have hm := (memOK_iff.1 h1).1
  have h6 := offF_60 (vOK h2).1
  have q1 := gOffsets_eq (vOK h2)
  have q2 := gTakenOf_eq (e := m) (l := offF v) ⟨by omega, fun i hi => h3 _ (gmem hi)⟩
  have hl := tkn_len m (offF v)
  repeat' (first | with_reducible first | refine kI (by kernel_rfl) ?_ | refine kN (by kernel_rfl) ?_ | (first | refine kB1 ?_ ?_ | refine kB2 ?_ ?_) <;> intro hp | (first | refine kD1 ?_ ?_ | refine kD2 ?_ ?_ | refine kS1 ?_ ?_ | refine kS2 ?_ ?_) <;> intro hp <;> try simp only [hp] | simp -implicitDefEqProofs (disch := omega) only [go_sem, Nat.reduceAdd, Nat.reduceSub, reduceCtorEq, Nat.reduceLT, Nat.reduceLeDiff, Nat.reduceEqDiff, Nat.reduceMul, Int.reduceToNat, ↓reduceIte, List.take_of_length_le, if_pos, if_neg, List.getElem?_set_self, List.set_set, cnE, cnV, Try.ntmps63, Try.results63,  ho, q1, ht, q2])
def gLoad (m : List Int) (v : Vi) : Option (List Int) := gd (memB m v) (if holdB m v = true then tkn m (offF v) else [])
theorem gLoad_eq {m : List Int} {v : Vi} (h : memB m v) : gLoad m v = some (if holdB m v = true then tkn m (offF v) else []) := gd_eq h
set_option maxHeartbeats 4000000 in
set_option maxRecDepth 100000 in
theorem spec_LoadView {Sg : FuncId → Option (List AV → Option AV)} (hS : Sound Try.prog Sg) (hc : Sg 57 = some (F2 gHolds)) (hl : Sg 63 = some (F2 gLoadI)) : ∀ a r, F2 gLoad a = some r → CSpec Try.prog 19 a r := by
  refine F2_spec ?_
  intro m v r hr
  obtain ⟨h, rfl⟩ := gd_some hr
  refine CSpec.intro Try.func19 rfl (own _) (vc3_sound Try.pf hS hS _ _ _ ?_)
  have q1 := gHolds_eq h
  cases e : holdB m v with
  | false =>
    rw [e] at q1
    rw [if_neg (by simp)]
    repeat' (first | with_reducible first | refine kI (by kernel_rfl) ?_ | refine kN (by kernel_rfl) ?_ | (first | refine kB1 ?_ ?_ | refine kB2 ?_ ?_) <;> intro hp | (first | refine kD1 ?_ ?_ | refine kD2 ?_ ?_ | refine kS1 ?_ ?_ | refine kS2 ?_ ?_) <;> intro hp <;> try simp only [hp] | simp -implicitDefEqProofs (disch := omega) only [go_sem, Nat.reduceAdd, Nat.reduceSub, reduceCtorEq, Nat.reduceLT, Nat.reduceLeDiff, Nat.reduceEqDiff, Nat.reduceMul, Int.reduceToNat, ↓reduceIte, List.take_of_length_le, if_pos, if_neg, List.getElem?_set_self, List.set_set, cnE, cnV, Try.ntmps19, Try.results19,  hc, q1])
  | true =>
    rw [e] at q1
    rw [if_pos rfl]
    have q2 := gLoadI_eq e
    repeat' (first | with_reducible first | refine kI (by kernel_rfl) ?_ | refine kN (by kernel_rfl) ?_ | (first | refine kB1 ?_ ?_ | refine kB2 ?_ ?_) <;> intro hp | (first | refine kD1 ?_ ?_ | refine kD2 ?_ ?_ | refine kS1 ?_ ?_ | refine kS2 ?_ ?_) <;> intro hp <;> try simp only [hp] | simp -implicitDefEqProofs (disch := omega) only [go_sem, Nat.reduceAdd, Nat.reduceSub, reduceCtorEq, Nat.reduceLT, Nat.reduceLeDiff, Nat.reduceEqDiff, Nat.reduceMul, Int.reduceToNat, ↓reduceIte, List.take_of_length_le, if_pos, if_neg, List.getElem?_set_self, List.set_set, cnE, cnV, Try.ntmps19, Try.results19,  hc, q1, hl, q2])
/-! ### what is filled -/
def repV (v : Vi) (x : Int) : List Int := List.replicate (offF v).length x
def filR (m : List Int) (v : Vi) (x : Int) : List Int × Bool := if holdB m v = true ∧ inR x 0 255 = true then (stoT m (offF v) (repV v x) (offF v).length, true) else ([], false)
def gFill (m : List Int) (v : Vi) (x : Int) : Option (List Int × Bool) := gd (memB m v) (filR m v x)
theorem gFill_eq {m : List Int} {v : Vi} (h : memB m v) (x : Int) : gFill m v x = some (filR m v x) := gd_eq h
set_option maxHeartbeats 4000000 in
set_option maxRecDepth 100000 in
theorem law_FillViewS {Sg : FuncId → Option (List AV → Option AV)} (hS : Sound Try.prog Sg) (hc : Sg 59 = some (F2 gHolds)) (hr : Sg 60 = some (F3 gInRange)) (ho : Sg 62 = some (F1 gOffsets)) (n1 : Sg 61 = none) : ∀ a r, F3 gFill a = some r → CSpec Try.prog 18 a r := by
  refine F3_spec ?_
  intro m v y r hr0
  obtain ⟨h, rfl⟩ := gd_some hr0
  refine CSpec.intro Try.func18 rfl (own _) (vc3_sound Try.pf hS hS _ _ _ ?_)
  have q1 := gHolds_eq h
  have q2 := gInRange_eq y 0 255
  unfold filR
  cases e : holdB m v with
  | false =>
    rw [e] at q1
    rw [if_neg (by simp)]
    repeat' (first | with_reducible first | refine kI (by kernel_rfl) ?_ | refine kN (by kernel_rfl) ?_ | (first | refine kB1 ?_ ?_ | refine kB2 ?_ ?_) <;> intro hp | (first | refine kD1 ?_ ?_ | refine kD2 ?_ ?_ | refine kS1 ?_ ?_ | refine kS2 ?_ ?_) <;> intro hp <;> try simp only [hp] | simp -implicitDefEqProofs (disch := omega) only [go_sem, Nat.reduceAdd, Nat.reduceSub, reduceCtorEq, Nat.reduceLT, Nat.reduceLeDiff, Nat.reduceEqDiff, Nat.reduceMul, Int.reduceToNat, ↓reduceIte, List.take_of_length_le, if_pos, if_neg, List.getElem?_set_self, List.set_set, cnE, cnV, Try.ntmps18, Try.results18,  hc, q1])
  | true =>
    rw [e] at q1
    cases e2 : inR y 0 255 with
    | false =>
      rw [e2] at q2
      rw [if_neg (by simp)]
      repeat' (first | with_reducible first | refine kI (by kernel_rfl) ?_ | refine kN (by kernel_rfl) ?_ | (first | refine kB1 ?_ ?_ | refine kB2 ?_ ?_) <;> intro hp | (first | refine kD1 ?_ ?_ | refine kD2 ?_ ?_ | refine kS1 ?_ ?_ | refine kS2 ?_ ?_) <;> intro hp <;> try simp only [hp] | simp -implicitDefEqProofs (disch := omega) only [go_sem, Nat.reduceAdd, Nat.reduceSub, reduceCtorEq, Nat.reduceLT, Nat.reduceLeDiff, Nat.reduceEqDiff, Nat.reduceMul, Int.reduceToNat, ↓reduceIte, List.take_of_length_le, if_pos, if_neg, List.getElem?_set_self, List.set_set, cnE, cnV, Try.ntmps18, Try.results18,  hc, q1, hr, q2])
    | true =>
      rw [e2] at q2
      rw [if_pos ⟨rfl, rfl⟩]
      obtain ⟨h1, h2, h3⟩ := fit_in e
      have hm := (memOK_iff.1 h1).1
      have h6 := offF_60 (vOK h2).1
      have q3 := gOffsets_eq (vOK h2)
      have hV : ∀ k, k < (offF v).length → (repV v y).getD k 0 = y := fun k hk => by simp [repV, hk]
      generalize repV v y = V at *
      have hv0 : viB0 v = viB0 v := rfl
      repeat' (first | with_reducible first | refine kI (by kernel_rfl) ?_ | refine kN (by kernel_rfl) ?_ | (first | refine kB1 ?_ ?_ | refine kB2 ?_ ?_) <;> intro hp | (first | refine kD1 ?_ ?_ | refine kD2 ?_ ?_ | refine kS1 ?_ ?_ | refine kS2 ?_ ?_) <;> intro hp <;> try simp only [hp] | simp -implicitDefEqProofs (disch := omega) only [go_sem, Nat.reduceAdd, Nat.reduceSub, reduceCtorEq, Nat.reduceLT, Nat.reduceLeDiff, Nat.reduceEqDiff, Nat.reduceMul, Int.reduceToNat, ↓reduceIte, List.take_of_length_le, if_pos, if_neg, List.getElem?_set_self, List.set_set, cnE, cnV, Try.ntmps18, Try.results18,  hc, q1, hr, q2, ho, q3, n1, opQ_none])
      refine InlK_intro rfl rfl can_copyV ((o_copyInts hS m (by omega)).call (by simp only [go_sem, ints]) ?_)
      repeat' (first | with_reducible first | refine kI (by kernel_rfl) ?_ | refine kN (by kernel_rfl) ?_ | (first | refine kB1 ?_ ?_ | refine kB2 ?_ ?_) <;> intro hp | (first | refine kD1 ?_ ?_ | refine kD2 ?_ ?_ | refine kS1 ?_ ?_ | refine kS2 ?_ ?_) <;> intro hp <;> try simp only [hp] | simp -implicitDefEqProofs (disch := omega) only [go_sem, Nat.reduceAdd, Nat.reduceSub, reduceCtorEq, Nat.reduceLT, Nat.reduceLeDiff, Nat.reduceEqDiff, Nat.reduceMul, Int.reduceToNat, ↓reduceIte, List.take_of_length_le, if_pos, if_neg, List.getElem?_set_self, List.set_set, cnE, cnV, Try.ntmps18, Try.results18,  hc, q1, hr, q2, ho, q3])
      generalize offF v = A at *
      refine LoopQ.mix (fun t0 L0 nn ss => ∃ (k : Nat) (_ : Unit), (∃ x : Nat → AV, ss = ⟨mixL 0 (.k :: .k :: .k :: .k :: .k :: .k :: .k :: .k :: .k :: .k :: .v (i64 (k : Nat)) :: .k :: .k :: .k :: .k :: .k :: .k :: .k :: .k :: .k :: .k :: .k :: .k :: .k :: .s :: .s :: .s :: .s :: .s :: .s :: .s :: .s :: .s :: .s :: .s :: .s :: .s :: .k :: []) t0 x, [viB0 v, ⟨1, (stoT m A V k).map fun n => .int .i64 n⟩]⟩) ∧ (k ≤ A.length) ∧ nn = A.length - k) ?_ ?_
      · exact ⟨_, ⟨0, (), mixI rfl, Nat.zero_le _, rfl⟩⟩
      · rintro I0 hI0 nn s ⟨k, _, ⟨x, rfl⟩, g1, rfl⟩
        have hl := stoT_len m A V k
        by_cases hk : k < A.length
        · have hki : (k : Int) < (A.length : Int) := by omega
          obtain ⟨j, hj, hjm⟩ := in_at h3 hk
          have hs : (stoT m A V k).set j y = stoT m A V (k + 1) := by rw [stoT, hj, Int.toNat_natCast, hV k hk]
          have hjl : j < (stoT m A V k).length := by omega
          repeat' (first | with_reducible first | refine kI (by kernel_rfl) ?_ | refine kN (by kernel_rfl) ?_ | (first | refine kB1 ?_ ?_ | refine kB2 ?_ ?_) <;> intro hp | (first | refine kD1 ?_ ?_ | refine kD2 ?_ ?_ | refine kS1 ?_ ?_ | refine kS2 ?_ ?_) <;> intro hp <;> try simp only [hp] | simp -implicitDefEqProofs (disch := omega) only [go_sem, Nat.reduceAdd, Nat.reduceSub, reduceCtorEq, Nat.reduceLT, Nat.reduceLeDiff, Nat.reduceEqDiff, Nat.reduceMul, Int.reduceToNat, ↓reduceIte, List.take_of_length_le, if_pos, if_neg, List.getElem?_set_self, List.set_set, cnE, cnV, Try.ntmps18, Try.results18,  hki, getD_ints hk, hj, hl, hjm, hs])
          exact ⟨A.length - (k + 1), by omega, hI0 _ _ ⟨k + 1, (), mixI rfl, hk, rfl⟩⟩
        · obtain rfl : k = A.length := by omega
          repeat' (first | with_reducible first | refine kI (by kernel_rfl) ?_ | refine kN (by kernel_rfl) ?_ | (first | refine kB1 ?_ ?_ | refine kB2 ?_ ?_) <;> intro hp | (first | refine kD1 ?_ ?_ | refine kD2 ?_ ?_ | refine kS1 ?_ ?_ | refine kS2 ?_ ?_) <;> intro hp <;> try simp only [hp] | simp -implicitDefEqProofs (disch := omega) only [go_sem, Nat.reduceAdd, Nat.reduceSub, reduceCtorEq, Nat.reduceLT, Nat.reduceLeDiff, Nat.reduceEqDiff, Nat.reduceMul, Int.reduceToNat, ↓reduceIte, List.take_of_length_le, if_pos, if_neg, List.getElem?_set_self, List.set_set, cnE, cnV, Try.ntmps18, Try.results18,  hl])
set_option maxHeartbeats 4000000 in
set_option maxRecDepth 100000 in
theorem spec_FillViewI {Sg : FuncId → Option (List AV → Option AV)} (hS : Sound Try.prog Sg) (hc : Sg 57 = some (F2 gHolds)) (hr : Sg 58 = some (F1 gIsVal)) (ho : Sg 53 = some (F1 gOffsets)) : ∀ a r, F3 gFill a = some r → CSpec Try.prog 17 a r := by
  refine F3_spec ?_
  intro m v y r hr0
  obtain ⟨h, rfl⟩ := gd_some hr0
  refine CSpec.intro Try.func17 rfl (own _) (vc3_sound Try.pf hS hS _ _ _ ?_)
  have q1 := gHolds_eq h
  have q2 := gIsVal_eq y
  unfold filR
  cases e : holdB m v with
  | false =>
    rw [e] at q1
    rw [if_neg (by simp)]
    repeat' (first | with_reducible first | refine kI (by kernel_rfl) ?_ | refine kN (by kernel_rfl) ?_ | (first | refine kB1 ?_ ?_ | refine kB2 ?_ ?_) <;> intro hp | (first | refine kD1 ?_ ?_ | refine kD2 ?_ ?_ | refine kS1 ?_ ?_ | refine kS2 ?_ ?_) <;> intro hp <;> try simp only [hp] | simp -implicitDefEqProofs (disch := omega) only [go_sem, Nat.reduceAdd, Nat.reduceSub, reduceCtorEq, Nat.reduceLT, Nat.reduceLeDiff, Nat.reduceEqDiff, Nat.reduceMul, Int.reduceToNat, ↓reduceIte, List.take_of_length_le, if_pos, if_neg, List.getElem?_set_self, List.set_set, cnE, cnV, Try.ntmps17, Try.results17,  hc, q1])
  | true =>
    rw [e] at q1
    cases e2 : inR y 0 255 with
    | false =>
      rw [e2] at q2
      rw [if_neg (by simp)]
      repeat' (first | with_reducible first | refine kI (by kernel_rfl) ?_ | refine kN (by kernel_rfl) ?_ | (first | refine kB1 ?_ ?_ | refine kB2 ?_ ?_) <;> intro hp | (first | refine kD1 ?_ ?_ | refine kD2 ?_ ?_ | refine kS1 ?_ ?_ | refine kS2 ?_ ?_) <;> intro hp <;> try simp only [hp] | simp -implicitDefEqProofs (disch := omega) only [go_sem, Nat.reduceAdd, Nat.reduceSub, reduceCtorEq, Nat.reduceLT, Nat.reduceLeDiff, Nat.reduceEqDiff, Nat.reduceMul, Int.reduceToNat, ↓reduceIte, List.take_of_length_le, if_pos, if_neg, List.getElem?_set_self, List.set_set, cnE, cnV, Try.ntmps17, Try.results17,  hc, q1, hr, q2])
    | true =>
      rw [e2] at q2
      rw [if_pos ⟨rfl, rfl⟩]
      obtain ⟨h1, h2, h3⟩ := fit_in e
      have hm := (memOK_iff.1 h1).1
      have h6 := offF_60 (vOK h2).1
      have q3 := gOffsets_eq (vOK h2)
      have hV : ∀ k, k < (offF v).length → (repV v y).getD k 0 = y := fun k hk => by simp [repV, hk]
      generalize repV v y = V at *
      have hv0 : viB0 v = viB0 v := rfl
      repeat' (first | with_reducible first | refine kI (by kernel_rfl) ?_ | refine kN (by kernel_rfl) ?_ | (first | refine kB1 ?_ ?_ | refine kB2 ?_ ?_) <;> intro hp | (first | refine kD1 ?_ ?_ | refine kD2 ?_ ?_ | refine kS1 ?_ ?_ | refine kS2 ?_ ?_) <;> intro hp <;> try simp only [hp] | simp -implicitDefEqProofs (disch := omega) only [go_sem, Nat.reduceAdd, Nat.reduceSub, reduceCtorEq, Nat.reduceLT, Nat.reduceLeDiff, Nat.reduceEqDiff, Nat.reduceMul, Int.reduceToNat, ↓reduceIte, List.take_of_length_le, if_pos, if_neg, List.getElem?_set_self, List.set_set, cnE, cnV, Try.ntmps17, Try.results17,  hc, q1, hr, q2, ho, q3])
      skip
      skip
      generalize offF v = A at *
      refine LoopQ.mix (fun t0 L0 nn ss => ∃ (k : Nat) (_ : Unit), (∃ x : Nat → AV, ss = ⟨mixL 0 (.k :: .k :: .k :: .k :: .k :: .k :: .k :: .k :: .k :: .k :: .s :: .k :: .k :: .k :: .k :: .k :: .k :: .k :: .k :: .k :: .k :: .k :: .k :: .k :: .k :: .k :: .v (i64 (k : Nat)) :: .s :: .s :: .s :: .s :: .s :: .s :: .s :: .s :: .k :: []) t0 x, [viB0 v, ⟨1, (stoT m A V k).map fun n => .int .i64 n⟩]⟩) ∧ (k ≤ A.length) ∧ nn = A.length - k) ?_ ?_
      · exact ⟨_, ⟨0, (), mixI rfl, Nat.zero_le _, rfl⟩⟩
      · rintro I0 hI0 nn s ⟨k, _, ⟨x, rfl⟩, g1, rfl⟩
        have hl := stoT_len m A V k
        by_cases hk : k < A.length
        · have hki : (k : Int) < (A.length : Int) := by omega
          obtain ⟨j, hj, hjm⟩ := in_at h3 hk
          have hs : (stoT m A V k).set j y = stoT m A V (k + 1) := by rw [stoT, hj, Int.toNat_natCast, hV k hk]
          have hjl : j < (stoT m A V k).length := by omega
          repeat' (first | with_reducible first | refine kI (by kernel_rfl) ?_ | refine kN (by kernel_rfl) ?_ | (first | refine kB1 ?_ ?_ | refine kB2 ?_ ?_) <;> intro hp | (first | refine kD1 ?_ ?_ | refine kD2 ?_ ?_ | refine kS1 ?_ ?_ | refine kS2 ?_ ?_) <;> intro hp <;> try simp only [hp] | simp -implicitDefEqProofs (disch := omega) only [go_sem, Nat.reduceAdd, Nat.reduceSub, reduceCtorEq, Nat.reduceLT, Nat.reduceLeDiff, Nat.reduceEqDiff, Nat.reduceMul, Int.reduceToNat, ↓reduceIte, List.take_of_length_le, if_pos, if_neg, List.getElem?_set_self, List.set_set, cnE, cnV, Try.ntmps17, Try.results17,  hki, getD_ints hk, hj, hl, hjm, hs])
          exact ⟨A.length - (k + 1), by omega, hI0 _ _ ⟨k + 1, (), mixI rfl, hk, rfl⟩⟩
        · obtain rfl : k = A.length := by omega
          repeat' (first | with_reducible first | refine kI (by kernel_rfl) ?_ | refine kN (by kernel_rfl) ?_ | (first | refine kB1 ?_ ?_ | refine kB2 ?_ ?_) <;> intro hp | (first | refine kD1 ?_ ?_ | refine kD2 ?_ ?_ | refine kS1 ?_ ?_ | refine kS2 ?_ ?_) <;> intro hp <;> try simp only [hp] | simp -implicitDefEqProofs (disch := omega) only [go_sem, Nat.reduceAdd, Nat.reduceSub, reduceCtorEq, Nat.reduceLT, Nat.reduceLeDiff, Nat.reduceEqDiff, Nat.reduceMul, Int.reduceToNat, ↓reduceIte, List.take_of_length_le, if_pos, if_neg, List.getElem?_set_self, List.set_set, cnE, cnV, Try.ntmps17, Try.results17,  hl])
set_option maxHeartbeats 4000000 in
set_option maxRecDepth 100000 in
theorem spec_FillViewS {Sg : FuncId → Option (List AV → Option AV)} (hS : Sound Try.prog Sg) (hc : Sg 59 = some (F2 gHolds)) (hr : Sg 60 = some (F3 gInRange)) (ho : Sg 62 = some (F1 gOffsets)) : ∀ a r, F3 gFill a = some r → CSpec Try.prog 18 a r := by
  exact law_FillViewS (hS.hide 61) ((if_neg (by decide)).trans hc) ((if_neg (by decide)).trans hr) ((if_neg (by decide)).trans ho) (if_pos rfl)
end Go.Proofs.Ytgpflkmelindfaa
