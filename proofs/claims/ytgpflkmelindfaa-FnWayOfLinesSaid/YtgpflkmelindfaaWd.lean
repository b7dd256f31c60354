/- Contracts of functions that the laws of this seat call. -/
import Derived.Test.YtgpflkmelindfaaWc
set_option linter.all false
namespace Go.Proofs.Ytgpflkmelindfaa
open Go Go.Ev Go.RowKit Go.Ev.Enc Go.Pl

/-! ### memories -/
def gAreCells (n : Int) : Option Bool := gd True (inR n 0 60)
theorem gAreCells_eq (n : Int) : gAreCells n = some (inR n 0 60) := rfl
set_option maxHeartbeats 4000000 in
set_option maxRecDepth 100000 in
theorem spec_areCells {Sg : FuncId → Option (List AV → Option AV)} (hS : Sound Try.prog Sg) : ∀ a r, F1 gAreCells a = some r → CSpec Try.prog 76 a r := by
  refine F1_spec ?_
  intro n r hr
  obtain ⟨-, rfl⟩ := gd_some hr
  refine CSpec.intro Try.func76 rfl (own _) (vc3_sound Try.pf hS hS _ _ _ ?_)
  by_cases h1 : 0 ≤ n
  · by_cases h2 : n ≤ 60
    · repeat' (first | with_reducible first | refine kI (by kernel_rfl) ?_ | refine kN (by kernel_rfl) ?_ | (first | refine kB1 ?_ ?_ | refine kB2 ?_ ?_) <;> intro hp | (first | refine kD1 ?_ ?_ | refine kD2 ?_ ?_ | refine kS1 ?_ ?_ | refine kS2 ?_ ?_) <;> intro hp <;> try simp only [hp] | simp -implicitDefEqProofs (disch := omega) only [go_sem, Nat.reduceAdd, Nat.reduceSub, reduceCtorEq, Nat.reduceLT, Nat.reduceLeDiff, Nat.reduceEqDiff, Nat.reduceMul, Int.reduceToNat, ↓reduceIte, List.take_of_length_le, if_pos, if_neg, List.getElem?_set_self, List.set_set, cnE, cnV, Try.ntmps76, Try.results76,  h1, h2, inR])
    · repeat' (first | with_reducible first | refine kI (by kernel_rfl) ?_ | refine kN (by kernel_rfl) ?_ | (first | refine kB1 ?_ ?_ | refine kB2 ?_ ?_) <;> intro hp | (first | refine kD1 ?_ ?_ | refine kD2 ?_ ?_ | refine kS1 ?_ ?_ | refine kS2 ?_ ?_) <;> intro hp <;> try simp only [hp] | simp -implicitDefEqProofs (disch := omega) only [go_sem, Nat.reduceAdd, Nat.reduceSub, reduceCtorEq, Nat.reduceLT, Nat.reduceLeDiff, Nat.reduceEqDiff, Nat.reduceMul, Int.reduceToNat, ↓reduceIte, List.take_of_length_le, if_pos, if_neg, List.getElem?_set_self, List.set_set, cnE, cnV, Try.ntmps76, Try.results76,  h1, h2, inR])
  · repeat' (first | with_reducible first | refine kI (by kernel_rfl) ?_ | refine kN (by kernel_rfl) ?_ | (first | refine kB1 ?_ ?_ | refine kB2 ?_ ?_) <;> intro hp | (first | refine kD1 ?_ ?_ | refine kD2 ?_ ?_ | refine kS1 ?_ ?_ | refine kS2 ?_ ?_) <;> intro hp <;> try simp only [hp] | simp -implicitDefEqProofs (disch := omega) only [go_sem, Nat.reduceAdd, Nat.reduceSub, reduceCtorEq, Nat.reduceLT, Nat.reduceLeDiff, Nat.reduceEqDiff, Nat.reduceMul, Int.reduceToNat, ↓reduceIte, List.take_of_length_le, if_pos, if_neg, List.getElem?_set_self, List.set_set, cnE, cnV, Try.ntmps76, Try.results76,  h1, inR])
def gIsVal (n : Int) : Option Bool := gd True (inR n 0 255)
theorem gIsVal_eq (n : Int) : gIsVal n = some (inR n 0 255) := rfl
set_option maxHeartbeats 4000000 in
set_option maxRecDepth 100000 in
theorem spec_isValue {Sg : FuncId → Option (List AV → Option AV)} (hS : Sound Try.prog Sg) : ∀ a r, F1 gIsVal a = some r → CSpec Try.prog 58 a r := by
  refine F1_spec ?_
  intro n r hr
  obtain ⟨-, rfl⟩ := gd_some hr
  refine CSpec.intro Try.func58 rfl (own _) (vc3_sound Try.pf hS hS _ _ _ ?_)
  by_cases h1 : 0 ≤ n
  · by_cases h2 : n ≤ 255
    · repeat' (first | with_reducible first | refine kI (by kernel_rfl) ?_ | refine kN (by kernel_rfl) ?_ | (first | refine kB1 ?_ ?_ | refine kB2 ?_ ?_) <;> intro hp | (first | refine kD1 ?_ ?_ | refine kD2 ?_ ?_ | refine kS1 ?_ ?_ | refine kS2 ?_ ?_) <;> intro hp <;> try simp only [hp] | simp -implicitDefEqProofs (disch := omega) only [go_sem, Nat.reduceAdd, Nat.reduceSub, reduceCtorEq, Nat.reduceLT, Nat.reduceLeDiff, Nat.reduceEqDiff, Nat.reduceMul, Int.reduceToNat, ↓reduceIte, List.take_of_length_le, if_pos, if_neg, List.getElem?_set_self, List.set_set, cnE, cnV, Try.ntmps58, Try.results58,  h1, h2, inR])
    · repeat' (first | with_reducible first | refine kI (by kernel_rfl) ?_ | refine kN (by kernel_rfl) ?_ | (first | refine kB1 ?_ ?_ | refine kB2 ?_ ?_) <;> intro hp | (first | refine kD1 ?_ ?_ | refine kD2 ?_ ?_ | refine kS1 ?_ ?_ | refine kS2 ?_ ?_) <;> intro hp <;> try simp only [hp] | simp -implicitDefEqProofs (disch := omega) only [go_sem, Nat.reduceAdd, Nat.reduceSub, reduceCtorEq, Nat.reduceLT, Nat.reduceLeDiff, Nat.reduceEqDiff, Nat.reduceMul, Int.reduceToNat, ↓reduceIte, List.take_of_length_le, if_pos, if_neg, List.getElem?_set_self, List.set_set, cnE, cnV, Try.ntmps58, Try.results58,  h1, h2, inR])
  · repeat' (first | with_reducible first | refine kI (by kernel_rfl) ?_ | refine kN (by kernel_rfl) ?_ | (first | refine kB1 ?_ ?_ | refine kB2 ?_ ?_) <;> intro hp | (first | refine kD1 ?_ ?_ | refine kD2 ?_ ?_ | refine kS1 ?_ ?_ | refine kS2 ?_ ?_) <;> intro hp <;> try simp only [hp] | simp -implicitDefEqProofs (disch := omega) only [go_sem, Nat.reduceAdd, Nat.reduceSub, reduceCtorEq, Nat.reduceLT, Nat.reduceLeDiff, Nat.reduceEqDiff, Nat.reduceMul, Int.reduceToNat, ↓reduceIte, List.take_of_length_le, if_pos, if_neg, List.getElem?_set_self, List.set_set, cnE, cnV, Try.ntmps58, Try.results58,  h1, inR])
def notVal (x : Int) : Bool := !inR x 0 255
set_option maxHeartbeats 2000000 in
set_option maxRecDepth 100000 in
theorem isp_isMemory1 {Sg : FuncId → Option (List AV → Option AV)} (hS : Sound Try.prog Sg) (hv : Sg 58 = some (F1 gIsVal)) (x : Int) (L : List Blk) : ISpec Try.prog 113 [i64 x] L (fun r L' => r = .bool (notVal x) ∧ L' = L) := by
  refine ISpec.intro Try.func113 rfl (vc_sound Try.pf hS _ _ _ ?_)
  have q := gIsVal_eq x
  unfold notVal
  cases e : inR x 0 255 with
  | false =>
    rw [e] at q
    repeat' (first | with_reducible first | refine kI (by kernel_rfl) ?_ | refine kN (by kernel_rfl) ?_ | (first | refine kB1 ?_ ?_ | refine kB2 ?_ ?_) <;> intro hp | (first | refine kD1 ?_ ?_ | refine kD2 ?_ ?_ | refine kS1 ?_ ?_ | refine kS2 ?_ ?_) <;> intro hp <;> try simp only [hp] | simp -implicitDefEqProofs (disch := omega) only [go_sem, Nat.reduceAdd, Nat.reduceSub, reduceCtorEq, Nat.reduceLT, Nat.reduceLeDiff, Nat.reduceEqDiff, Nat.reduceMul, Int.reduceToNat, ↓reduceIte, List.take_of_length_le, if_pos, if_neg, List.getElem?_set_self, List.set_set, cnE, cnV, Try.ntmps113, Try.results113,  hv, q])
    try exact ⟨rfl, rfl⟩
  | true =>
    rw [e] at q
    repeat' (first | with_reducible first | refine kI (by kernel_rfl) ?_ | refine kN (by kernel_rfl) ?_ | (first | refine kB1 ?_ ?_ | refine kB2 ?_ ?_) <;> intro hp | (first | refine kD1 ?_ ?_ | refine kD2 ?_ ?_ | refine kS1 ?_ ?_ | refine kS2 ?_ ?_) <;> intro hp <;> try simp only [hp] | simp -implicitDefEqProofs (disch := omega) only [go_sem, Nat.reduceAdd, Nat.reduceSub, reduceCtorEq, Nat.reduceLT, Nat.reduceLeDiff, Nat.reduceEqDiff, Nat.reduceMul, Int.reduceToNat, ↓reduceIte, List.take_of_length_le, if_pos, if_neg, List.getElem?_set_self, List.set_set, cnE, cnV, Try.ntmps113, Try.results113,  hv, q])
    try exact ⟨rfl, rfl⟩
def memOK (m : List Int) : Bool := decide (m.length ≤ 60) && m.all fun x => inR x 0 255
theorem memOK_iff {m : List Int} : memOK m = true ↔ m.length ≤ 60 ∧ ∀ x ∈ m, 0 ≤ x ∧ x ≤ 255 := by
  unfold memOK inR
  simp only [Bool.and_eq_true, decide_eq_true_eq, List.all_eq_true]
theorem any_val {l : List Int} : (!l.any notVal) = l.all fun x => inR x 0 255 := by
  rw [Bool.eq_iff_iff, Bool.not_eq_true', List.any_eq_false, List.all_eq_true]
  unfold notVal
  simp
def gMem (m : List Int) : Option Bool := gd (m.length < 4294967296) (memOK m)
theorem gMem_eq {m : List Int} (h : m.length < 4294967296) : gMem m = some (memOK m) := gd_eq h
theorem isMem_can : CanCall Try.prog 113 := ⟨_, Try.func113, rfl, rfl⟩
set_option maxHeartbeats 4000000 in
set_option maxRecDepth 100000 in
theorem spec_isMemory {Sg : FuncId → Option (List AV → Option AV)} (hS : Sound Try.prog Sg) (hv : Sg 58 = some (F1 gIsVal)) (hc : Sg 103 = none) (hf : Sg 130 = none) : ∀ a r, F1 gMem a = some r → CSpec Try.prog 65 a r := by
  refine F1_spec ?_
  intro m r hr
  obtain ⟨h, rfl⟩ := gd_some hr
  refine CSpec.intro Try.func65 rfl (own _) (vc3_sound Try.pf hS hS _ _ _ ?_)
  unfold memOK
  by_cases h8 : m.length ≤ 60
  · have h8' : (m.length : Int) ≤ 60 := by omega
    rw [decide_eq_true h8, ← any_val]
    repeat' (first | with_reducible first | refine kI (by kernel_rfl) ?_ | refine kN (by kernel_rfl) ?_ | (first | refine kB1 ?_ ?_ | refine kB2 ?_ ?_) <;> intro hp | (first | refine kD1 ?_ ?_ | refine kD2 ?_ ?_ | refine kS1 ?_ ?_ | refine kS2 ?_ ?_) <;> intro hp <;> try simp only [hp] | simp -implicitDefEqProofs (disch := omega) only [go_sem, Nat.reduceAdd, Nat.reduceSub, reduceCtorEq, Nat.reduceLT, Nat.reduceLeDiff, Nat.reduceEqDiff, Nat.reduceMul, Int.reduceToNat, ↓reduceIte, List.take_of_length_le, if_pos, if_neg, List.getElem?_set_self, List.set_set, cnE, cnV, Try.ntmps65, Try.results65,  h8', hc, opQ_none])
    refine InlK_intro rfl rfl can_ContainsFunc ((ispec_ContainsFunc hS hf isMem_can (fun x L => isp_isMemory1 hS hv x L) 0 m h _).mono ?_)
    rintro r L' ⟨rfl, rfl⟩
    repeat' (first | with_reducible first | refine kI (by kernel_rfl) ?_ | refine kN (by kernel_rfl) ?_ | (first | refine kB1 ?_ ?_ | refine kB2 ?_ ?_) <;> intro hp | (first | refine kD1 ?_ ?_ | refine kD2 ?_ ?_ | refine kS1 ?_ ?_ | refine kS2 ?_ ?_) <;> intro hp <;> try simp only [hp] | simp -implicitDefEqProofs (disch := omega) only [go_sem, Nat.reduceAdd, Nat.reduceSub, reduceCtorEq, Nat.reduceLT, Nat.reduceLeDiff, Nat.reduceEqDiff, Nat.reduceMul, Int.reduceToNat, ↓reduceIte, List.take_of_length_le, if_pos, if_neg, List.getElem?_set_self, List.set_set, cnE, cnV, Try.ntmps65, Try.results65])
    try rfl
  · have h8' : ¬ (m.length : Int) ≤ 60 := by omega
    rw [decide_eq_false h8]
    repeat' (first | with_reducible first | refine kI (by kernel_rfl) ?_ | refine kN (by kernel_rfl) ?_ | (first | refine kB1 ?_ ?_ | refine kB2 ?_ ?_) <;> intro hp | (first | refine kD1 ?_ ?_ | refine kD2 ?_ ?_ | refine kS1 ?_ ?_ | refine kS2 ?_ ?_) <;> intro hp <;> try simp only [hp] | simp -implicitDefEqProofs (disch := omega) only [go_sem, Nat.reduceAdd, Nat.reduceSub, reduceCtorEq, Nat.reduceLT, Nat.reduceLeDiff, Nat.reduceEqDiff, Nat.reduceMul, Int.reduceToNat, ↓reduceIte, List.take_of_length_le, if_pos, if_neg, List.getElem?_set_self, List.set_set, cnE, cnV, Try.ntmps65, Try.results65,  h8'])
    try rfl
set_option maxHeartbeats 4000000 in
set_option maxRecDepth 100000 in
theorem spec_validMemory {Sg : FuncId → Option (List AV → Option AV)} (hS : Sound Try.prog Sg) (hv : Sg 79 = some (F3 gAllIn)) : ∀ a r, F1 gMem a = some r → CSpec Try.prog 107 a r := by
  refine F1_spec ?_
  intro m r hr
  obtain ⟨h, rfl⟩ := gd_some hr
  refine CSpec.intro Try.func107 rfl (own _) (vc3_sound Try.pf hS hS _ _ _ ?_)
  have q := gAllIn_eq h 0 255
  unfold memOK
  by_cases h8 : m.length ≤ 60
  · have h8' : (m.length : Int) ≤ 60 := by omega
    rw [decide_eq_true h8]
    repeat' (first | with_reducible first | refine kI (by kernel_rfl) ?_ | refine kN (by kernel_rfl) ?_ | (first | refine kB1 ?_ ?_ | refine kB2 ?_ ?_) <;> intro hp | (first | refine kD1 ?_ ?_ | refine kD2 ?_ ?_ | refine kS1 ?_ ?_ | refine kS2 ?_ ?_) <;> intro hp <;> try simp only [hp] | simp -implicitDefEqProofs (disch := omega) only [go_sem, Nat.reduceAdd, Nat.reduceSub, reduceCtorEq, Nat.reduceLT, Nat.reduceLeDiff, Nat.reduceEqDiff, Nat.reduceMul, Int.reduceToNat, ↓reduceIte, List.take_of_length_le, if_pos, if_neg, List.getElem?_set_self, List.set_set, cnE, cnV, Try.ntmps107, Try.results107,  h8', hv, q])
    try rfl
  · have h8' : ¬ (m.length : Int) ≤ 60 := by omega
    rw [decide_eq_false h8]
    repeat' (first | with_reducible first | refine kI (by kernel_rfl) ?_ | refine kN (by kernel_rfl) ?_ | (first | refine kB1 ?_ ?_ | refine kB2 ?_ ?_) <;> intro hp | (first | refine kD1 ?_ ?_ | refine kD2 ?_ ?_ | refine kS1 ?_ ?_ | refine kS2 ?_ ?_) <;> intro hp <;> try simp only [hp] | simp -implicitDefEqProofs (disch := omega) only [go_sem, Nat.reduceAdd, Nat.reduceSub, reduceCtorEq, Nat.reduceLT, Nat.reduceLeDiff, Nat.reduceEqDiff, Nat.reduceMul, Int.reduceToNat, ↓reduceIte, List.take_of_length_le, if_pos, if_neg, List.getElem?_set_self, List.set_set, cnE, cnV, Try.ntmps107, Try.results107,  h8'])
    try rfl
/-! ### a closure that holds a variable -/
set_option maxHeartbeats 2000000 in
set_option maxRecDepth 100000 in
theorem isp_IndexFuncC {Sg : FuncId → Option (List AV → Option AV)} (hS : Sound Try.prog Sg) {g : FuncId} {p : Int → Bool} {bb : Nat} (hg : CanCall Try.prog g) (L : List Blk) (hp : ∀ x, ISpec Try.prog g [i64 x, .ptr bb 1 0 0] L fun r L' => r = .bool (p x) ∧ L' = L) (tag : Nat) (l : List Int) (hl : l.length < 4294967296) : ISpec Try.prog 130 [ints tag l, .fn g [.ptr bb 1 0 0]] L (fun r L' => r = i64 (plcF l p) ∧ L' = L) := by
  refine ISpec.intro Try.func130 rfl (vc_sound Try.pf hS _ _ _ ?_)
  repeat' (first | with_reducible first | refine kI (by kernel_rfl) ?_ | refine kN (by kernel_rfl) ?_ | (first | refine kB1 ?_ ?_ | refine kB2 ?_ ?_) <;> intro hp | (first | refine kD1 ?_ ?_ | refine kD2 ?_ ?_ | refine kS1 ?_ ?_ | refine kS2 ?_ ?_) <;> intro hp <;> try simp only [hp] | simp -implicitDefEqProofs (disch := omega) only [go_sem, Nat.reduceAdd, Nat.reduceSub, reduceCtorEq, Nat.reduceLT, Nat.reduceLeDiff, Nat.reduceEqDiff, Nat.reduceMul, Int.reduceToNat, ↓reduceIte, List.take_of_length_le, if_pos, if_neg, List.getElem?_set_self, List.set_set, cnE, cnV, Try.ntmps130, Try.results130])
  refine LoopQ.mix (fun t0 L0 nn ss => ∃ (k : Nat) (_ : Unit), (∃ x : Nat → AV, ss = ⟨mixL 0 (.k :: .k :: .k :: .k :: .s :: .s :: .k :: .k :: .v (i64 (k : Nat)) :: .s :: .s :: .s :: .s :: .s :: .s :: .s :: .s :: .s :: .s :: []) t0 x, L0⟩) ∧ (k ≤ l.length) ∧ (∀ i, i < k → p (l.getD i 0) = false) ∧ nn = l.length - k) ?_ ?_
  · exact ⟨_, ⟨0, (), mixI rfl, Nat.zero_le _, fun i hi => absurd hi (Nat.not_lt_zero _), rfl⟩⟩
  · rintro I0 hI0 nn s ⟨k, _, ⟨x, rfl⟩, g1, g2, rfl⟩
    by_cases hlt : k < l.length
    · have hki : (k : Int) < (l.length : Int) := by omega
      repeat' (first | with_reducible first | refine kI (by kernel_rfl) ?_ | refine kN (by kernel_rfl) ?_ | (first | refine kB1 ?_ ?_ | refine kB2 ?_ ?_) <;> intro hp | (first | refine kD1 ?_ ?_ | refine kD2 ?_ ?_ | refine kS1 ?_ ?_ | refine kS2 ?_ ?_) <;> intro hp <;> try simp only [hp] | simp -implicitDefEqProofs (disch := omega) only [go_sem, Nat.reduceAdd, Nat.reduceSub, reduceCtorEq, Nat.reduceLT, Nat.reduceLeDiff, Nat.reduceEqDiff, Nat.reduceMul, Int.reduceToNat, ↓reduceIte, List.take_of_length_le, if_pos, if_neg, List.getElem?_set_self, List.set_set, cnE, cnV, Try.ntmps130, Try.results130,  hki, opQ_none])
      refine InlK_intro rfl rfl hg ((hp _).mono ?_)
      rintro r L' ⟨rfl, rfl⟩
      cases hb : p (l.getD k 0) with
      | true =>
        repeat' (first | with_reducible first | refine kI (by kernel_rfl) ?_ | refine kN (by kernel_rfl) ?_ | (first | refine kB1 ?_ ?_ | refine kB2 ?_ ?_) <;> intro hp | (first | refine kD1 ?_ ?_ | refine kD2 ?_ ?_ | refine kS1 ?_ ?_ | refine kS2 ?_ ?_) <;> intro hp <;> try simp only [hp] | simp -implicitDefEqProofs (disch := omega) only [go_sem, Nat.reduceAdd, Nat.reduceSub, reduceCtorEq, Nat.reduceLT, Nat.reduceLeDiff, Nat.reduceEqDiff, Nat.reduceMul, Int.reduceToNat, ↓reduceIte, List.take_of_length_le, if_pos, if_neg, List.getElem?_set_self, List.set_set, cnE, cnV, Try.ntmps130, Try.results130,  plcF_eq hlt hb g2])
      | false =>
        repeat' (first | with_reducible first | refine kI (by kernel_rfl) ?_ | refine kN (by kernel_rfl) ?_ | (first | refine kB1 ?_ ?_ | refine kB2 ?_ ?_) <;> intro hp | (first | refine kD1 ?_ ?_ | refine kD2 ?_ ?_ | refine kS1 ?_ ?_ | refine kS2 ?_ ?_) <;> intro hp <;> try simp only [hp] | simp -implicitDefEqProofs (disch := omega) only [go_sem, Nat.reduceAdd, Nat.reduceSub, reduceCtorEq, Nat.reduceLT, Nat.reduceLeDiff, Nat.reduceEqDiff, Nat.reduceMul, Int.reduceToNat, ↓reduceIte, List.take_of_length_le, if_pos, if_neg, List.getElem?_set_self, List.set_set, cnE, cnV, Try.ntmps130, Try.results130])
        exact ⟨l.length - (k + 1), by omega, hI0 _ _ ⟨k + 1, (), mixI rfl, hlt, fun i hi => if h : i = k then by rw [h]; exact hb else g2 i (by omega), rfl⟩⟩
    · obtain rfl : k = l.length := by omega
      repeat' (first | with_reducible first | refine kI (by kernel_rfl) ?_ | refine kN (by kernel_rfl) ?_ | (first | refine kB1 ?_ ?_ | refine kB2 ?_ ?_) <;> intro hp | (first | refine kD1 ?_ ?_ | refine kD2 ?_ ?_ | refine kS1 ?_ ?_ | refine kS2 ?_ ?_) <;> intro hp <;> try simp only [hp] | simp -implicitDefEqProofs (disch := omega) only [go_sem, Nat.reduceAdd, Nat.reduceSub, reduceCtorEq, Nat.reduceLT, Nat.reduceLeDiff, Nat.reduceEqDiff, Nat.reduceMul, Int.reduceToNat, ↓reduceIte, List.take_of_length_le, if_pos, if_neg, List.getElem?_set_self, List.set_set, cnE, cnV, Try.ntmps130, Try.results130,  plcF_none g2])
theorem can_IndexFunc : CanCall Try.prog 130 := ⟨_, Try.func130, rfl, rfl⟩
set_option maxHeartbeats 2000000 in
set_option maxRecDepth 100000 in
theorem isp_ContainsFuncC {Sg : FuncId → Option (List AV → Option AV)} (hS : Sound Try.prog Sg) (hc : Sg 130 = none) {g : FuncId} {p : Int → Bool} {bb : Nat} (hg : CanCall Try.prog g) (L : List Blk) (hp : ∀ x, ISpec Try.prog g [i64 x, .ptr bb 1 0 0] L fun r L' => r = .bool (p x) ∧ L' = L) (tag : Nat) (l : List Int) (hl : l.length < 4294967296) : ISpec Try.prog 103 [ints tag l, .fn g [.ptr bb 1 0 0]] L (fun r L' => r = .bool (l.any p) ∧ L' = L) := by
  refine ISpec.intro Try.func103 rfl (vc_sound Try.pf hS _ _ _ ?_)
  repeat' (first | with_reducible first | refine kI (by kernel_rfl) ?_ | refine kN (by kernel_rfl) ?_ | (first | refine kB1 ?_ ?_ | refine kB2 ?_ ?_) <;> intro hp | (first | refine kD1 ?_ ?_ | refine kD2 ?_ ?_ | refine kS1 ?_ ?_ | refine kS2 ?_ ?_) <;> intro hp <;> try simp only [hp] | simp -implicitDefEqProofs (disch := omega) only [go_sem, Nat.reduceAdd, Nat.reduceSub, reduceCtorEq, Nat.reduceLT, Nat.reduceLeDiff, Nat.reduceEqDiff, Nat.reduceMul, Int.reduceToNat, ↓reduceIte, List.take_of_length_le, if_pos, if_neg, List.getElem?_set_self, List.set_set, cnE, cnV, Try.ntmps103, Try.results103,  hc, opQ_none])
  refine InlK_intro rfl rfl can_IndexFunc ((isp_IndexFuncC hS hg L hp tag l hl).mono ?_)
  rintro r L' ⟨rfl, rfl⟩
  have e : decide (0 ≤ plcF l p) = l.any p := by rw [Bool.eq_iff_iff, decide_eq_true_eq, plcF_nonneg]
  repeat' (first | with_reducible first | refine kI (by kernel_rfl) ?_ | refine kN (by kernel_rfl) ?_ | (first | refine kB1 ?_ ?_ | refine kB2 ?_ ?_) <;> intro hp | (first | refine kD1 ?_ ?_ | refine kD2 ?_ ?_ | refine kS1 ?_ ?_ | refine kS2 ?_ ?_) <;> intro hp <;> try simp only [hp] | simp -implicitDefEqProofs (disch := omega) only [go_sem, Nat.reduceAdd, Nat.reduceSub, reduceCtorEq, Nat.reduceLT, Nat.reduceLeDiff, Nat.reduceEqDiff, Nat.reduceMul, Int.reduceToNat, ↓reduceIte, List.take_of_length_le, if_pos, if_neg, List.getElem?_set_self, List.set_set, cnE, cnV, Try.ntmps103, Try.results103,  e])
set_option maxHeartbeats 2000000 in
set_option maxRecDepth 100000 in
theorem isp_fitsIn1 {Sg : FuncId → Option (List AV → Option AV)} (hS : Sound Try.prog Sg) (x n : Int) (bb : Nat) (L : List Blk) (hb : L[bb]? = some ⟨1, [.int .i64 n]⟩) : ISpec Try.prog 125 [i64 x, .ptr bb 1 0 0] L (fun r L' => r = .bool (decide (n ≤ x)) ∧ L' = L) := by
  refine ISpec.intro Try.func125 rfl (vc_sound Try.pf hS _ _ _ ?_)
  by_cases h : n ≤ x
  · repeat' (first | with_reducible first | refine kI (by kernel_rfl) ?_ | refine kN (by kernel_rfl) ?_ | (first | refine kB1 ?_ ?_ | refine kB2 ?_ ?_) <;> intro hp | (first | refine kD1 ?_ ?_ | refine kD2 ?_ ?_ | refine kS1 ?_ ?_ | refine kS2 ?_ ?_) <;> intro hp <;> try simp only [hp] | simp -implicitDefEqProofs (disch := omega) only [go_sem, Nat.reduceAdd, Nat.reduceSub, reduceCtorEq, Nat.reduceLT, Nat.reduceLeDiff, Nat.reduceEqDiff, Nat.reduceMul, Int.reduceToNat, ↓reduceIte, List.take_of_length_le, if_pos, if_neg, List.getElem?_set_self, List.set_set, cnE, cnV, Try.ntmps125, Try.results125,  hb, h])
    try exact ⟨rfl, rfl⟩
  · repeat' (first | with_reducible first | refine kI (by kernel_rfl) ?_ | refine kN (by kernel_rfl) ?_ | (first | refine kB1 ?_ ?_ | refine kB2 ?_ ?_) <;> intro hp | (first | refine kD1 ?_ ?_ | refine kD2 ?_ ?_ | refine kS1 ?_ ?_ | refine kS2 ?_ ?_) <;> intro hp <;> try simp only [hp] | simp -implicitDefEqProofs (disch := omega) only [go_sem, Nat.reduceAdd, Nat.reduceSub, reduceCtorEq, Nat.reduceLT, Nat.reduceLeDiff, Nat.reduceEqDiff, Nat.reduceMul, Int.reduceToNat, ↓reduceIte, List.take_of_length_le, if_pos, if_neg, List.getElem?_set_self, List.set_set, cnE, cnV, Try.ntmps125, Try.results125,  hb, h])
    try exact ⟨rfl, rfl⟩
def fitB (v : Vi) (n : Int) : Bool := (offF v).all fun x => decide (x < n)
def gFitI (v : Vi) (n : Int) : Option Bool := gd (shapeOK v.sh = true ∧ v.st.length = v.sh.length) (fitB v n)
theorem gFitI_eq {v : Vi} (h : shapeOK v.sh = true ∧ v.st.length = v.sh.length) (n : Int) : gFitI v n = some (fitB v n) := gd_eq h
theorem any_fit {l : List Int} {n : Int} : (!l.any fun x => decide (n ≤ x)) = l.all fun x => decide (x < n) := by
  rw [Bool.eq_iff_iff, Bool.not_eq_true', List.any_eq_false, List.all_eq_true]
  simp
theorem fit1_can : CanCall Try.prog 125 := ⟨_, Try.func125, rfl, rfl⟩
set_option maxHeartbeats 4000000 in
set_option maxRecDepth 100000 in
theorem spec_fitsIn {Sg : FuncId → Option (List AV → Option AV)} (hS : Sound Try.prog Sg) (ho : Sg 53 = some (F1 gOffsets)) (hc : Sg 103 = none) (hf : Sg 130 = none) : ∀ a r, F2 gFitI a = some r → CSpec Try.prog 80 a r := by
  refine F2_spec ?_
  intro v n r hr
  obtain ⟨⟨h1, h2⟩, rfl⟩ := gd_some hr
  refine CSpec.intro Try.func80 rfl (own _) (vc3_sound Try.pf hS hS _ _ _ ?_)
  have q1 := gOffsets_eq (v := v) ⟨h1, h2⟩
  have h6 := offF_60 h1
  unfold fitB
  rw [← any_fit]
  generalize offF v = A at *
  repeat' (first | with_reducible first | refine kI (by kernel_rfl) ?_ | refine kN (by kernel_rfl) ?_ | (first | refine kB1 ?_ ?_ | refine kB2 ?_ ?_) <;> intro hp | (first | refine kD1 ?_ ?_ | refine kD2 ?_ ?_ | refine kS1 ?_ ?_ | refine kS2 ?_ ?_) <;> intro hp <;> try simp only [hp] | simp -implicitDefEqProofs (disch := omega) only [go_sem, Nat.reduceAdd, Nat.reduceSub, reduceCtorEq, Nat.reduceLT, Nat.reduceLeDiff, Nat.reduceEqDiff, Nat.reduceMul, Int.reduceToNat, ↓reduceIte, List.take_of_length_le, if_pos, if_neg, List.getElem?_set_self, List.set_set, cnE, cnV, Try.ntmps80, Try.results80,  ho, q1, hc, opQ_none])
  refine InlK_intro rfl rfl can_ContainsFunc ((isp_ContainsFuncC hS hf fit1_can _ (fun x => isp_fitsIn1 hS x n 1 _ rfl) 1 A (by omega)).mono ?_)
  rintro r L' ⟨rfl, rfl⟩
  repeat' (first | with_reducible first | refine kI (by kernel_rfl) ?_ | refine kN (by kernel_rfl) ?_ | (first | refine kB1 ?_ ?_ | refine kB2 ?_ ?_) <;> intro hp | (first | refine kD1 ?_ ?_ | refine kD2 ?_ ?_ | refine kS1 ?_ ?_ | refine kS2 ?_ ?_) <;> intro hp <;> try simp only [hp] | simp -implicitDefEqProofs (disch := omega) only [go_sem, Nat.reduceAdd, Nat.reduceSub, reduceCtorEq, Nat.reduceLT, Nat.reduceLeDiff, Nat.reduceEqDiff, Nat.reduceMul, Int.reduceToNat, ↓reduceIte, List.take_of_length_le, if_pos, if_neg, List.getElem?_set_self, List.set_set, cnE, cnV, Try.ntmps80, Try.results80])
def fitS (v : Vi) (n : Int) : Bool := (offF v).all fun x => inR x 0 (n - 1)
theorem fitS_eq {v : Vi} (h : viewOK v = true) (n : Int) : fitS v n = fitB v n := by
  have hc := (viewOK_iff.1 h).2.2.2.2
  unfold fitS fitB
  rw [Bool.eq_iff_iff, List.all_eq_true, List.all_eq_true]
  constructor
  · intro h x hx
    have := h x hx
    unfold inR at this
    simp only [Bool.and_eq_true, decide_eq_true_eq] at this ⊢
    omega
  · intro h x hx
    have := h x hx
    have := hc x hx
    unfold inR
    simp only [Bool.and_eq_true, decide_eq_true_eq] at *
    omega
def gFitS (v : Vi) (n : Int) : Option Bool := gd ((shapeOK v.sh = true ∧ v.st.length = v.sh.length) ∧ (-1000 ≤ n ∧ n ≤ 4294967296)) (fitS v n)
theorem gFitS_eq {v : Vi} {n : Int} (h : (shapeOK v.sh = true ∧ v.st.length = v.sh.length) ∧ (-1000 ≤ n ∧ n ≤ 4294967296)) : gFitS v n = some (fitS v n) := gd_eq h
set_option maxHeartbeats 4000000 in
set_option maxRecDepth 100000 in
theorem spec_fits {Sg : FuncId → Option (List AV → Option AV)} (hS : Sound Try.prog Sg) (ho : Sg 62 = some (F1 gOffsets)) (ha : Sg 79 = some (F3 gAllIn)) : ∀ a r, F2 gFitS a = some r → CSpec Try.prog 108 a r := by
  refine F2_spec ?_
  intro v n r hr
  obtain ⟨⟨⟨h1, h2⟩, h3, h4⟩, rfl⟩ := gd_some hr
  refine CSpec.intro Try.func108 rfl (own _) (vc3_sound Try.pf hS hS _ _ _ ?_)
  have q1 := gOffsets_eq (v := v) ⟨h1, h2⟩
  have h6 := offF_60 h1
  have q2 := gAllIn_eq (l := offF v) (by omega) 0 (n - 1)
  have hw : IntKind.i64.wrap (n - 1) = n - 1 := wrap_in (by omega)
  unfold fitS
  repeat' (first | with_reducible first | refine kI (by kernel_rfl) ?_ | refine kN (by kernel_rfl) ?_ | (first | refine kB1 ?_ ?_ | refine kB2 ?_ ?_) <;> intro hp | (first | refine kD1 ?_ ?_ | refine kD2 ?_ ?_ | refine kS1 ?_ ?_ | refine kS2 ?_ ?_) <;> intro hp <;> try simp only [hp] | simp -implicitDefEqProofs (disch := omega) only [go_sem, Nat.reduceAdd, Nat.reduceSub, reduceCtorEq, Nat.reduceLT, Nat.reduceLeDiff, Nat.reduceEqDiff, Nat.reduceMul, Int.reduceToNat, ↓reduceIte, List.take_of_length_le, if_pos, if_neg, List.getElem?_set_self, List.set_set, cnE, cnV, Try.ntmps108, Try.results108,  ho, q1, hw, ha, q2])
/-- a memory holds a view -/
def holdB (m : List Int) (v : Vi) : Bool := memOK m && (viewOK v && fitB v m.length)
def memB (m : List Int) (v : Vi) : Prop := m.length < 4294967296 ∧ viB v
instance (m : List Int) (v : Vi) : Decidable (memB m v) := by unfold memB; infer_instance
def gHolds (m : List Int) (v : Vi) : Option Bool := gd (memB m v) (holdB m v)
theorem gHolds_eq {m : List Int} {v : Vi} (h : memB m v) : gHolds m v = some (holdB m v) := gd_eq h
set_option maxHeartbeats 4000000 in
set_option maxRecDepth 100000 in
theorem spec_sees {Sg : FuncId → Option (List AV → Option AV)} (hS : Sound Try.prog Sg) (hm : Sg 107 = some (F1 gMem)) (hv : Sg 69 = some (F1 gValidV)) (hf : Sg 108 = some (F2 gFitS)) : ∀ a r, F2 gHolds a = some r → CSpec Try.prog 59 a r := by
  refine F2_spec ?_
  intro m v r hr
  obtain ⟨⟨h1, h2⟩, rfl⟩ := gd_some hr
  refine CSpec.intro Try.func59 rfl (own _) (vc3_sound Try.pf hS hS _ _ _ ?_)
  have q1 := gMem_eq h1
  have q2 := gValidV_eq h2
  unfold holdB
  cases e1 : memOK m with
  | false =>
    rw [e1] at q1
    repeat' (first | with_reducible first | refine kI (by kernel_rfl) ?_ | refine kN (by kernel_rfl) ?_ | (first | refine kB1 ?_ ?_ | refine kB2 ?_ ?_) <;> intro hp | (first | refine kD1 ?_ ?_ | refine kD2 ?_ ?_ | refine kS1 ?_ ?_ | refine kS2 ?_ ?_) <;> intro hp <;> try simp only [hp] | simp -implicitDefEqProofs (disch := omega) only [go_sem, Nat.reduceAdd, Nat.reduceSub, reduceCtorEq, Nat.reduceLT, Nat.reduceLeDiff, Nat.reduceEqDiff, Nat.reduceMul, Int.reduceToNat, ↓reduceIte, List.take_of_length_le, if_pos, if_neg, List.getElem?_set_self, List.set_set, cnE, cnV, Try.ntmps59, Try.results59,  hm, q1])
    try rfl
  | true =>
    rw [e1] at q1
    cases e2 : viewOK v with
    | false =>
      rw [e2] at q2
      repeat' (first | with_reducible first | refine kI (by kernel_rfl) ?_ | refine kN (by kernel_rfl) ?_ | (first | refine kB1 ?_ ?_ | refine kB2 ?_ ?_) <;> intro hp | (first | refine kD1 ?_ ?_ | refine kD2 ?_ ?_ | refine kS1 ?_ ?_ | refine kS2 ?_ ?_) <;> intro hp <;> try simp only [hp] | simp -implicitDefEqProofs (disch := omega) only [go_sem, Nat.reduceAdd, Nat.reduceSub, reduceCtorEq, Nat.reduceLT, Nat.reduceLeDiff, Nat.reduceEqDiff, Nat.reduceMul, Int.reduceToNat, ↓reduceIte, List.take_of_length_le, if_pos, if_neg, List.getElem?_set_self, List.set_set, cnE, cnV, Try.ntmps59, Try.results59,  hm, q1, hv, q2])
      try rfl
    | true =>
      rw [e2] at q2
      have q3 := gFitS_eq (v := v) (n := (m.length : Int)) ⟨vOK e2, by omega, by omega⟩
      have q4 := fitS_eq e2 (m.length : Int)
      rw [q4] at q3
      repeat' (first | with_reducible first | refine kI (by kernel_rfl) ?_ | refine kN (by kernel_rfl) ?_ | (first | refine kB1 ?_ ?_ | refine kB2 ?_ ?_) <;> intro hp | (first | refine kD1 ?_ ?_ | refine kD2 ?_ ?_ | refine kS1 ?_ ?_ | refine kS2 ?_ ?_) <;> intro hp <;> try simp only [hp] | simp -implicitDefEqProofs (disch := omega) only [go_sem, Nat.reduceAdd, Nat.reduceSub, reduceCtorEq, Nat.reduceLT, Nat.reduceLeDiff, Nat.reduceEqDiff, Nat.reduceMul, Int.reduceToNat, ↓reduceIte, List.take_of_length_le, if_pos, if_neg, List.getElem?_set_self, List.set_set, cnE, cnV, Try.ntmps59, Try.results59,  hm, q1, hv, q2, hf, q3])
      try rfl
set_option maxHeartbeats 4000000 in
set_option maxRecDepth 100000 in
theorem spec_canHold {Sg : FuncId → Option (List AV → Option AV)} (hS : Sound Try.prog Sg) (hm : Sg 65 = some (F1 gMem)) (hv : Sg 51 = some (F1 gValidV)) (hf : Sg 80 = some (F2 gFitI)) : ∀ a r, F2 gHolds a = some r → CSpec Try.prog 57 a r := by
  refine F2_spec ?_
  intro m v r hr
  obtain ⟨⟨h1, h2⟩, rfl⟩ := gd_some hr
  refine CSpec.intro Try.func57 rfl (own _) (vc3_sound Try.pf hS hS _ _ _ ?_)
  have q1 := gMem_eq h1
  have q2 := gValidV_eq h2
  unfold holdB
  cases e1 : memOK m with
  | false =>
    rw [e1] at q1
    repeat' (first | with_reducible first | refine kI (by kernel_rfl) ?_ | refine kN (by kernel_rfl) ?_ | (first | refine kB1 ?_ ?_ | refine kB2 ?_ ?_) <;> intro hp | (first | refine kD1 ?_ ?_ | refine kD2 ?_ ?_ | refine kS1 ?_ ?_ | refine kS2 ?_ ?_) <;> intro hp <;> try simp only [hp] | simp -implicitDefEqProofs (disch := omega) only [go_sem, Nat.reduceAdd, Nat.reduceSub, reduceCtorEq, Nat.reduceLT, Nat.reduceLeDiff, Nat.reduceEqDiff, Nat.reduceMul, Int.reduceToNat, ↓reduceIte, List.take_of_length_le, if_pos, if_neg, List.getElem?_set_self, List.set_set, cnE, cnV, Try.ntmps57, Try.results57,  hm, q1])
    try rfl
  | true =>
    rw [e1] at q1
    cases e2 : viewOK v with
    | false =>
      rw [e2] at q2
      repeat' (first | with_reducible first | refine kI (by kernel_rfl) ?_ | refine kN (by kernel_rfl) ?_ | (first | refine kB1 ?_ ?_ | refine kB2 ?_ ?_) <;> intro hp | (first | refine kD1 ?_ ?_ | refine kD2 ?_ ?_ | refine kS1 ?_ ?_ | refine kS2 ?_ ?_) <;> intro hp <;> try simp only [hp] | simp -implicitDefEqProofs (disch := omega) only [go_sem, Nat.reduceAdd, Nat.reduceSub, reduceCtorEq, Nat.reduceLT, Nat.reduceLeDiff, Nat.reduceEqDiff, Nat.reduceMul, Int.reduceToNat, ↓reduceIte, List.take_of_length_le, if_pos, if_neg, List.getElem?_set_self, List.set_set, cnE, cnV, Try.ntmps57, Try.results57,  hm, q1, hv, q2])
      try rfl
    | true =>
      rw [e2] at q2
      have q3 := gFitI_eq (vOK e2) (m.length : Int)
      have q4 := fitS_eq e2 (m.length : Int)
      skip
      repeat' (first | with_reducible first | refine kI (by kernel_rfl) ?_ | refine kN (by kernel_rfl) ?_ | (first | refine kB1 ?_ ?_ | refine kB2 ?_ ?_) <;> intro hp | (first | refine kD1 ?_ ?_ | refine kD2 ?_ ?_ | refine kS1 ?_ ?_ | refine kS2 ?_ ?_) <;> intro hp <;> try simp only [hp] | simp -implicitDefEqProofs (disch := omega) only [go_sem, Nat.reduceAdd, Nat.reduceSub, reduceCtorEq, Nat.reduceLT, Nat.reduceLeDiff, Nat.reduceEqDiff, Nat.reduceMul, Int.reduceToNat, ↓reduceIte, List.take_of_length_le, if_pos, if_neg, List.getElem?_set_self, List.set_set, cnE, cnV, Try.ntmps57, Try.results57,  hm, q1, hv, q2, hf, q3])
      try rfl
def gFitsT (v : Vi) (n : Int) : Option Bool := gd (viB v) (viewOK v && (inR n 0 60 && fitB v n))
theorem gFitsT_eq {v : Vi} (h : viB v) (n : Int) : gFitsT v n = some (viewOK v && (inR n 0 60 && fitB v n)) := gd_eq h
set_option maxHeartbeats 4000000 in
set_option maxRecDepth 100000 in
theorem spec_FitsIn {Sg : FuncId → Option (List AV → Option AV)} (hS : Sound Try.prog Sg) (hv : Sg 51 = some (F1 gValidV)) (hc : Sg 76 = some (F1 gAreCells)) (hf : Sg 80 = some (F2 gFitI)) : ∀ a r, F2 gFitsT a = some r → CSpec Try.prog 31 a r := by
  refine F2_spec ?_
  intro v n r hr
  obtain ⟨h, rfl⟩ := gd_some hr
  refine CSpec.intro Try.func31 rfl (own _) (vc3_sound Try.pf hS hS _ _ _ ?_)
  have q1 := gValidV_eq h
  have q2 := gAreCells_eq n
  cases e1 : viewOK v with
  | false =>
    rw [e1] at q1
    repeat' (first | with_reducible first | refine kI (by kernel_rfl) ?_ | refine kN (by kernel_rfl) ?_ | (first | refine kB1 ?_ ?_ | refine kB2 ?_ ?_) <;> intro hp | (first | refine kD1 ?_ ?_ | refine kD2 ?_ ?_ | refine kS1 ?_ ?_ | refine kS2 ?_ ?_) <;> intro hp <;> try simp only [hp] | simp -implicitDefEqProofs (disch := omega) only [go_sem, Nat.reduceAdd, Nat.reduceSub, reduceCtorEq, Nat.reduceLT, Nat.reduceLeDiff, Nat.reduceEqDiff, Nat.reduceMul, Int.reduceToNat, ↓reduceIte, List.take_of_length_le, if_pos, if_neg, List.getElem?_set_self, List.set_set, cnE, cnV, Try.ntmps31, Try.results31,  hv, q1])
    try rfl
  | true =>
    rw [e1] at q1
    have q3 := gFitI_eq (vOK e1) n
    cases e2 : inR n 0 60 with
    | false =>
      rw [e2] at q2
      repeat' (first | with_reducible first | refine kI (by kernel_rfl) ?_ | refine kN (by kernel_rfl) ?_ | (first | refine kB1 ?_ ?_ | refine kB2 ?_ ?_) <;> intro hp | (first | refine kD1 ?_ ?_ | refine kD2 ?_ ?_ | refine kS1 ?_ ?_ | refine kS2 ?_ ?_) <;> intro hp <;> try simp only [hp] | simp -implicitDefEqProofs (disch := omega) only [go_sem, Nat.reduceAdd, Nat.reduceSub, reduceCtorEq, Nat.reduceLT, Nat.reduceLeDiff, Nat.reduceEqDiff, Nat.reduceMul, Int.reduceToNat, ↓reduceIte, List.take_of_length_le, if_pos, if_neg, List.getElem?_set_self, List.set_set, cnE, cnV, Try.ntmps31, Try.results31,  hv, q1, hc, q2])
      try rfl
    | true =>
      rw [e2] at q2
      repeat' (first | with_reducible first | refine kI (by kernel_rfl) ?_ | refine kN (by kernel_rfl) ?_ | (first | refine kB1 ?_ ?_ | refine kB2 ?_ ?_) <;> intro hp | (first | refine kD1 ?_ ?_ | refine kD2 ?_ ?_ | refine kS1 ?_ ?_ | refine kS2 ?_ ?_) <;> intro hp <;> try simp only [hp] | simp -implicitDefEqProofs (disch := omega) only [go_sem, Nat.reduceAdd, Nat.reduceSub, reduceCtorEq, Nat.reduceLT, Nat.reduceLeDiff, Nat.reduceEqDiff, Nat.reduceMul, Int.reduceToNat, ↓reduceIte, List.take_of_length_le, if_pos, if_neg, List.getElem?_set_self, List.set_set, cnE, cnV, Try.ntmps31, Try.results31,  hv, q1, hc, q2, hf, q3])
      try rfl
end Go.Proofs.Ytgpflkmelindfaa
