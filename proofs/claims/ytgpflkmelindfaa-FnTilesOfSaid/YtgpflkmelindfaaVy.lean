/- Contracts of functions that the laws of this seat call. -/
import Derived.Test.YtgpflkmelindfaaVx
set_option linter.all false
namespace Go.Proofs.Ytgpflkmelindfaa
open Go Go.Ev Go.RowKit Go.Ev.Enc Go.Pl

/-! ### lists of views -/
theorem ispec_areViews1_can : CanCall Try.prog 122 := ⟨_, Try.func122, rfl, rfl⟩
def vsB (l : List Vi) : Prop := l.length ≤ 1000 ∧ ∀ v ∈ l, viB v
instance (l : List Vi) : Decidable (vsB l) := by unfold vsB; infer_instance
abbrev visD (t : Nat) (l : List Vi) : AV := .ds t (l.map fun x => .agg [.int .i64 x.b, ints t x.sh, ints t x.st])
set_option maxHeartbeats 4000000 in
set_option maxRecDepth 100000 in
theorem isp_areViews1 {Sg : FuncId → Option (List AV → Option AV)} (hS : Sound Try.prog Sg) (hi : Sg 51 = some (F1 gValidV)) (v : Vi) (hv : viB v) (t : Nat) (L : List Blk) : ISpec Try.prog 122 [.agg [i64 v.b, ints t v.sh, ints t v.st]] (L) (fun r L' => r = .bool (!viewOK v) ∧ L' = L) := by
  refine ISpec.ret Try.func122 rfl (vc3_sound Try.pf hS hS _ _ _ ?_)
  have q := gValidV_eq hv
  repeat' (first | with_reducible first | refine kI (by kernel_rfl) ?_ | refine kN (by kernel_rfl) ?_ | (first | refine kB1 ?_ ?_ | refine kB2 ?_ ?_) <;> intro hp | (first | refine kD1 ?_ ?_ | refine kD2 ?_ ?_ | refine kS1 ?_ ?_ | refine kS2 ?_ ?_) <;> intro hp <;> try simp only [hp] | simp -implicitDefEqProofs (disch := omega) only [go_sem, Nat.reduceAdd, Nat.reduceSub, reduceCtorEq, Nat.reduceLT, Nat.reduceLeDiff, Nat.reduceEqDiff, Nat.reduceMul, Int.reduceToNat, ↓reduceIte, List.take_of_length_le, if_pos, if_neg, List.getElem?_set_self, List.set_set, cnE, cnV, Try.ntmps122, Try.results122,  hi, q])
  exact RetQ.top ⟨rfl, rfl⟩
set_option maxHeartbeats 2000000 in
set_option maxRecDepth 100000 in
theorem isp_IndexFuncV {Sg : FuncId → Option (List AV → Option AV)} (hS : Sound Try.prog Sg) {g : FuncId} {p : Vi → Bool} (hg : CanCall Try.prog g) (t : Nat) (hp : ∀ x L, viB x → ISpec Try.prog g [.agg [i64 x.b, ints t x.sh, ints t x.st]] L fun r L' => r = .bool (p x) ∧ L' = L) (l : List Vi) (hl : vsB l) (L : List Blk) : ISpec Try.prog 139 [visD t l, .fn g []] L (fun r L' => ∃ m : Int, r = i64 m ∧ (-1 ≤ m ∧ m ≤ 1000) ∧ (decide (0 ≤ m) = l.any p) ∧ L' = L) := by
  refine ISpec.intro Try.func139 rfl (vc_sound Try.pf hS _ _ _ ?_)
  have hl1 := hl.1
  repeat' (first | with_reducible first | refine kI (by kernel_rfl) ?_ | refine kN (by kernel_rfl) ?_ | (first | refine kB1 ?_ ?_ | refine kB2 ?_ ?_) <;> intro hp | (first | refine kD1 ?_ ?_ | refine kD2 ?_ ?_ | refine kS1 ?_ ?_ | refine kS2 ?_ ?_) <;> intro hp <;> try simp only [hp] | simp -implicitDefEqProofs (disch := omega) only [go_sem, Nat.reduceAdd, Nat.reduceSub, reduceCtorEq, Nat.reduceLT, Nat.reduceLeDiff, Nat.reduceEqDiff, Nat.reduceMul, Int.reduceToNat, ↓reduceIte, List.take_of_length_le, if_pos, if_neg, List.getElem?_set_self, List.set_set, cnE, cnV, Try.ntmps139, Try.results139])
  refine LoopQ.mix (fun t0 L0 nn ss => ∃ (k : Nat) (_ : Unit), (∃ x : Nat → AV, ss = ⟨mixL 0 (.k :: .k :: .k :: .k :: .s :: .s :: .k :: .k :: .v (i64 (k : Nat)) :: .s :: .s :: .s :: .s :: .s :: .s :: .s :: .s :: .s :: .s :: []) t0 x, L0⟩) ∧ (k ≤ l.length) ∧ (∀ i, i < k → p (l.getD i ⟨0, [], []⟩) = false) ∧ nn = l.length - k) ?_ ?_
  · exact ⟨_, ⟨0, (), mixI rfl, Nat.zero_le _, fun i hi => absurd hi (Nat.not_lt_zero _), rfl⟩⟩
  · rintro I0 hI0 nn s ⟨k, _, ⟨x, rfl⟩, g1, g2, rfl⟩
    by_cases hlt : k < l.length
    · have hki : (k : Int) < (l.length : Int) := by omega
      have hm : l.getD k ⟨0, [], []⟩ ∈ l := by simp [hlt]
      repeat' (first | with_reducible first | refine kI (by kernel_rfl) ?_ | refine kN (by kernel_rfl) ?_ | (first | refine kB1 ?_ ?_ | refine kB2 ?_ ?_) <;> intro hp | (first | refine kD1 ?_ ?_ | refine kD2 ?_ ?_ | refine kS1 ?_ ?_ | refine kS2 ?_ ?_) <;> intro hp <;> try simp only [hp] | simp -implicitDefEqProofs (disch := omega) only [go_sem, Nat.reduceAdd, Nat.reduceSub, reduceCtorEq, Nat.reduceLT, Nat.reduceLeDiff, Nat.reduceEqDiff, Nat.reduceMul, Int.reduceToNat, ↓reduceIte, List.take_of_length_le, if_pos, if_neg, List.getElem?_set_self, List.set_set, cnE, cnV, Try.ntmps139, Try.results139,  hki, opQ_none])
      refine InlK_intro rfl rfl hg ((hp _ _ (hl.2 _ hm)).mono ?_)
      rintro r L' ⟨rfl, rfl⟩
      cases hb : p (l.getD k ⟨0, [], []⟩) with
      | true =>
        have ha : l.any p = true := List.any_eq_true.2 ⟨_, hm, hb⟩
        repeat' (first | with_reducible first | refine kI (by kernel_rfl) ?_ | refine kN (by kernel_rfl) ?_ | (first | refine kB1 ?_ ?_ | refine kB2 ?_ ?_) <;> intro hp | (first | refine kD1 ?_ ?_ | refine kD2 ?_ ?_ | refine kS1 ?_ ?_ | refine kS2 ?_ ?_) <;> intro hp <;> try simp only [hp] | simp -implicitDefEqProofs (disch := omega) only [go_sem, Nat.reduceAdd, Nat.reduceSub, reduceCtorEq, Nat.reduceLT, Nat.reduceLeDiff, Nat.reduceEqDiff, Nat.reduceMul, Int.reduceToNat, ↓reduceIte, List.take_of_length_le, if_pos, if_neg, List.getElem?_set_self, List.set_set, cnE, cnV, Try.ntmps139, Try.results139])
        exact ⟨⟨by omega, by omega⟩, ha.symm⟩
      | false =>
        repeat' (first | with_reducible first | refine kI (by kernel_rfl) ?_ | refine kN (by kernel_rfl) ?_ | (first | refine kB1 ?_ ?_ | refine kB2 ?_ ?_) <;> intro hp | (first | refine kD1 ?_ ?_ | refine kD2 ?_ ?_ | refine kS1 ?_ ?_ | refine kS2 ?_ ?_) <;> intro hp <;> try simp only [hp] | simp -implicitDefEqProofs (disch := omega) only [go_sem, Nat.reduceAdd, Nat.reduceSub, reduceCtorEq, Nat.reduceLT, Nat.reduceLeDiff, Nat.reduceEqDiff, Nat.reduceMul, Int.reduceToNat, ↓reduceIte, List.take_of_length_le, if_pos, if_neg, List.getElem?_set_self, List.set_set, cnE, cnV, Try.ntmps139, Try.results139])
        exact ⟨l.length - (k + 1), by omega, hI0 _ _ ⟨k + 1, (), mixI rfl, hlt, fun i hi => if h : i = k then by rw [h]; exact hb else g2 i (by omega), rfl⟩⟩
    · obtain rfl : k = l.length := by omega
      have ha : l.any p = false := by
        rw [List.any_eq_false]
        intro x hx
        obtain ⟨i, hi, rfl⟩ := List.mem_iff_getElem.1 hx
        have := g2 i hi
        simpa [hi] using this
      repeat' (first | with_reducible first | refine kI (by kernel_rfl) ?_ | refine kN (by kernel_rfl) ?_ | (first | refine kB1 ?_ ?_ | refine kB2 ?_ ?_) <;> intro hp | (first | refine kD1 ?_ ?_ | refine kD2 ?_ ?_ | refine kS1 ?_ ?_ | refine kS2 ?_ ?_) <;> intro hp <;> try simp only [hp] | simp -implicitDefEqProofs (disch := omega) only [go_sem, Nat.reduceAdd, Nat.reduceSub, reduceCtorEq, Nat.reduceLT, Nat.reduceLeDiff, Nat.reduceEqDiff, Nat.reduceMul, Int.reduceToNat, ↓reduceIte, List.take_of_length_le, if_pos, if_neg, List.getElem?_set_self, List.set_set, cnE, cnV, Try.ntmps139, Try.results139])
      exact ⟨⟨by omega, by omega⟩, ha.symm⟩
theorem can_IndexFuncV : CanCall Try.prog 139 := ⟨_, Try.func139, rfl, rfl⟩
theorem can_ContainsFuncV : CanCall Try.prog 121 := ⟨_, Try.func121, rfl, rfl⟩
set_option maxHeartbeats 2000000 in
set_option maxRecDepth 100000 in
theorem isp_ContainsFuncV {Sg : FuncId → Option (List AV → Option AV)} (hS : Sound Try.prog Sg) (hc : Sg 139 = none) {g : FuncId} {p : Vi → Bool} (hg : CanCall Try.prog g) (t : Nat) (hp : ∀ x L, viB x → ISpec Try.prog g [.agg [i64 x.b, ints t x.sh, ints t x.st]] L fun r L' => r = .bool (p x) ∧ L' = L) (l : List Vi) (hl : vsB l) (L : List Blk) : ISpec Try.prog 121 [visD t l, .fn g []] L (fun r L' => r = .bool (l.any p) ∧ L' = L) := by
  refine ISpec.intro Try.func121 rfl (vc_sound Try.pf hS _ _ _ ?_)
  repeat' (first | with_reducible first | refine kI (by kernel_rfl) ?_ | refine kN (by kernel_rfl) ?_ | (first | refine kB1 ?_ ?_ | refine kB2 ?_ ?_) <;> intro hp | (first | refine kD1 ?_ ?_ | refine kD2 ?_ ?_ | refine kS1 ?_ ?_ | refine kS2 ?_ ?_) <;> intro hp <;> try simp only [hp] | simp -implicitDefEqProofs (disch := omega) only [go_sem, Nat.reduceAdd, Nat.reduceSub, reduceCtorEq, Nat.reduceLT, Nat.reduceLeDiff, Nat.reduceEqDiff, Nat.reduceMul, Int.reduceToNat, ↓reduceIte, List.take_of_length_le, if_pos, if_neg, List.getElem?_set_self, List.set_set, cnE, cnV, Try.ntmps121, Try.results121,  hc, opQ_none])
  refine InlK_intro rfl rfl can_IndexFuncV ((isp_IndexFuncV hS hg t hp l hl L).mono ?_)
  rintro r L' ⟨m, rfl, hm1, hm2, rfl⟩
  repeat' (first | with_reducible first | refine kI (by kernel_rfl) ?_ | refine kN (by kernel_rfl) ?_ | (first | refine kB1 ?_ ?_ | refine kB2 ?_ ?_) <;> intro hp | (first | refine kD1 ?_ ?_ | refine kD2 ?_ ?_ | refine kS1 ?_ ?_ | refine kS2 ?_ ?_) <;> intro hp <;> try simp only [hp] | simp -implicitDefEqProofs (disch := omega) only [go_sem, Nat.reduceAdd, Nat.reduceSub, reduceCtorEq, Nat.reduceLT, Nat.reduceLeDiff, Nat.reduceEqDiff, Nat.reduceMul, Int.reduceToNat, ↓reduceIte, List.take_of_length_le, if_pos, if_neg, List.getElem?_set_self, List.set_set, cnE, cnV, Try.ntmps121, Try.results121,  hm2])
def vsOK (l : List Vi) : Bool := decide (l.length ≤ 8) && l.all viewOK
def gVs (l : List Vi) : Option Bool := gd (vsB l) (vsOK l)
theorem gVs_eq {l : List Vi} (h : vsB l) : gVs l = some (vsOK l) := gd_eq h
theorem all_any {l : List Vi} : (!l.any fun v => !viewOK v) = l.all viewOK := by
  rw [Bool.eq_iff_iff, Bool.not_eq_true', List.any_eq_false, List.all_eq_true]
  simp
set_option maxHeartbeats 4000000 in
set_option maxRecDepth 100000 in
theorem spec_areViews {Sg : FuncId → Option (List AV → Option AV)} (hS : Sound Try.prog Sg) (hi : Sg 51 = some (F1 gValidV)) (hc : Sg 121 = none) (hf : Sg 139 = none) : ∀ a r, F1 gVs a = some r → CSpec Try.prog 75 a r := by
  refine F1_spec ?_
  intro l r hr0
  obtain ⟨hl, rfl⟩ := gd_some hr0
  refine CSpec.intro Try.func75 rfl (own _) (vc3_sound Try.pf hS hS _ _ _ ?_)
  have hl1 := hl.1
  unfold vsOK
  by_cases h8 : l.length ≤ 8
  · have h8' : (l.length : Int) ≤ 8 := by omega
    rw [decide_eq_true h8, ← all_any]
    repeat' (first | with_reducible first | refine kI (by kernel_rfl) ?_ | refine kN (by kernel_rfl) ?_ | (first | refine kB1 ?_ ?_ | refine kB2 ?_ ?_) <;> intro hp | (first | refine kD1 ?_ ?_ | refine kD2 ?_ ?_ | refine kS1 ?_ ?_ | refine kS2 ?_ ?_) <;> intro hp <;> try simp only [hp] | simp -implicitDefEqProofs (disch := omega) only [go_sem, Nat.reduceAdd, Nat.reduceSub, reduceCtorEq, Nat.reduceLT, Nat.reduceLeDiff, Nat.reduceEqDiff, Nat.reduceMul, Int.reduceToNat, ↓reduceIte, List.take_of_length_le, if_pos, if_neg, List.getElem?_set_self, List.set_set, cnE, cnV, Try.ntmps75, Try.results75,  h8', hc, opQ_none])
    refine InlK_intro rfl rfl can_ContainsFuncV ((isp_ContainsFuncV (p := fun v => !viewOK v) hS hf ispec_areViews1_can 0 (fun x L hx => isp_areViews1 hS hi x hx 0 L) l hl _).mono ?_)
    rintro r L' ⟨rfl, rfl⟩
    repeat' (first | with_reducible first | refine kI (by kernel_rfl) ?_ | refine kN (by kernel_rfl) ?_ | (first | refine kB1 ?_ ?_ | refine kB2 ?_ ?_) <;> intro hp | (first | refine kD1 ?_ ?_ | refine kD2 ?_ ?_ | refine kS1 ?_ ?_ | refine kS2 ?_ ?_) <;> intro hp <;> try simp only [hp] | simp -implicitDefEqProofs (disch := omega) only [go_sem, Nat.reduceAdd, Nat.reduceSub, reduceCtorEq, Nat.reduceLT, Nat.reduceLeDiff, Nat.reduceEqDiff, Nat.reduceMul, Int.reduceToNat, ↓reduceIte, List.take_of_length_le, if_pos, if_neg, List.getElem?_set_self, List.set_set, cnE, cnV, Try.ntmps75, Try.results75])
    try rfl
  · have h8' : ¬ (l.length : Int) ≤ 8 := by omega
    rw [decide_eq_false h8]
    repeat' (first | with_reducible first | refine kI (by kernel_rfl) ?_ | refine kN (by kernel_rfl) ?_ | (first | refine kB1 ?_ ?_ | refine kB2 ?_ ?_) <;> intro hp | (first | refine kD1 ?_ ?_ | refine kD2 ?_ ?_ | refine kS1 ?_ ?_ | refine kS2 ?_ ?_) <;> intro hp <;> try simp only [hp] | simp -implicitDefEqProofs (disch := omega) only [go_sem, Nat.reduceAdd, Nat.reduceSub, reduceCtorEq, Nat.reduceLT, Nat.reduceLeDiff, Nat.reduceEqDiff, Nat.reduceMul, Int.reduceToNat, ↓reduceIte, List.take_of_length_le, if_pos, if_neg, List.getElem?_set_self, List.set_set, cnE, cnV, Try.ntmps75, Try.results75,  h8'])
    try rfl
set_option maxHeartbeats 4000000 in
set_option maxRecDepth 100000 in
theorem spec_validViews {Sg : FuncId → Option (List AV → Option AV)} (hS : Sound Try.prog Sg) (hv : Sg 69 = some (F1 gValidV)) : ∀ a r, F1 gVs a = some r → CSpec Try.prog 78 a r := by
  refine F1_spec ?_
  intro l r hr0
  obtain ⟨hl, rfl⟩ := gd_some hr0
  refine CSpec.intro Try.func78 rfl (own _) (vc3_sound Try.pf hS hS _ _ _ ?_)
  have hl1 := hl.1
  repeat' (first | with_reducible first | refine kI (by kernel_rfl) ?_ | refine kN (by kernel_rfl) ?_ | (first | refine kB1 ?_ ?_ | refine kB2 ?_ ?_) <;> intro hp | (first | refine kD1 ?_ ?_ | refine kD2 ?_ ?_ | refine kS1 ?_ ?_ | refine kS2 ?_ ?_) <;> intro hp <;> try simp only [hp] | simp -implicitDefEqProofs (disch := omega) only [go_sem, Nat.reduceAdd, Nat.reduceSub, reduceCtorEq, Nat.reduceLT, Nat.reduceLeDiff, Nat.reduceEqDiff, Nat.reduceMul, Int.reduceToNat, ↓reduceIte, List.take_of_length_le, if_pos, if_neg, List.getElem?_set_self, List.set_set, cnE, cnV, Try.ntmps78, Try.results78])
  refine LoopQ.mix (fun t0 L0 nn ss => ∃ (k : Nat) (_ : Unit), (∃ x : Nat → AV, ss = ⟨mixL 0 (.k :: .k :: .s :: .v (i64 (k : Nat)) :: .s :: .s :: .s :: .s :: .s :: .s :: .s :: .s :: .s :: .s :: .s :: .s :: .k :: .k :: .k :: []) t0 x, L0⟩) ∧ (k ≤ l.length) ∧ (∀ i, i < k → viewOK (l.getD i ⟨0, [], []⟩) = true) ∧ nn = l.length - k) ?_ ?_
  · exact ⟨_, ⟨0, (), mixI rfl, Nat.zero_le _, fun i hi => absurd hi (Nat.not_lt_zero _), rfl⟩⟩
  · rintro I0 hI0 nn s ⟨k, _, ⟨x, rfl⟩, g1, g2, rfl⟩
    by_cases hlt : k < l.length
    · have hki : (k : Int) < (l.length : Int) := by omega
      have hm : l.getD k ⟨0, [], []⟩ ∈ l := by simp [hlt]
      have q := gValidV_eq (hl.2 _ hm)
      cases e : viewOK (l.getD k ⟨0, [], []⟩) with
      | false =>
        rw [e] at q
        have hf : vsOK l = false := by
          unfold vsOK
          rw [show l.all viewOK = false from List.all_eq_false.2 ⟨_, hm, by rw [e]; simp⟩, Bool.and_false]
        repeat' (first | with_reducible first | refine kI (by kernel_rfl) ?_ | refine kN (by kernel_rfl) ?_ | (first | refine kB1 ?_ ?_ | refine kB2 ?_ ?_) <;> intro hp | (first | refine kD1 ?_ ?_ | refine kD2 ?_ ?_ | refine kS1 ?_ ?_ | refine kS2 ?_ ?_) <;> intro hp <;> try simp only [hp] | simp -implicitDefEqProofs (disch := omega) only [go_sem, Nat.reduceAdd, Nat.reduceSub, reduceCtorEq, Nat.reduceLT, Nat.reduceLeDiff, Nat.reduceEqDiff, Nat.reduceMul, Int.reduceToNat, ↓reduceIte, List.take_of_length_le, if_pos, if_neg, List.getElem?_set_self, List.set_set, cnE, cnV, Try.ntmps78, Try.results78,  hki, hv, q, hf])
      | true =>
        rw [e] at q
        repeat' (first | with_reducible first | refine kI (by kernel_rfl) ?_ | refine kN (by kernel_rfl) ?_ | (first | refine kB1 ?_ ?_ | refine kB2 ?_ ?_) <;> intro hp | (first | refine kD1 ?_ ?_ | refine kD2 ?_ ?_ | refine kS1 ?_ ?_ | refine kS2 ?_ ?_) <;> intro hp <;> try simp only [hp] | simp -implicitDefEqProofs (disch := omega) only [go_sem, Nat.reduceAdd, Nat.reduceSub, reduceCtorEq, Nat.reduceLT, Nat.reduceLeDiff, Nat.reduceEqDiff, Nat.reduceMul, Int.reduceToNat, ↓reduceIte, List.take_of_length_le, if_pos, if_neg, List.getElem?_set_self, List.set_set, cnE, cnV, Try.ntmps78, Try.results78,  hki, hv, q])
        exact ⟨l.length - (k + 1), by omega, hI0 _ _ ⟨k + 1, (), mixI rfl, hlt, fun i hi => if h : i = k then by rw [h]; exact e else g2 i (by omega), rfl⟩⟩
    · obtain rfl : k = l.length := by omega
      have hall : l.all viewOK = true := by
        rw [List.all_eq_true]
        intro x hx
        obtain ⟨i, hi, rfl⟩ := List.mem_iff_getElem.1 hx
        have := g2 i hi
        simpa [hi] using this
      unfold vsOK
      rw [hall, Bool.and_true]
      by_cases h8 : l.length ≤ 8
      · have h8' : (l.length : Int) ≤ 8 := by omega
        repeat' (first | with_reducible first | refine kI (by kernel_rfl) ?_ | refine kN (by kernel_rfl) ?_ | (first | refine kB1 ?_ ?_ | refine kB2 ?_ ?_) <;> intro hp | (first | refine kD1 ?_ ?_ | refine kD2 ?_ ?_ | refine kS1 ?_ ?_ | refine kS2 ?_ ?_) <;> intro hp <;> try simp only [hp] | simp -implicitDefEqProofs (disch := omega) only [go_sem, Nat.reduceAdd, Nat.reduceSub, reduceCtorEq, Nat.reduceLT, Nat.reduceLeDiff, Nat.reduceEqDiff, Nat.reduceMul, Int.reduceToNat, ↓reduceIte, List.take_of_length_le, if_pos, if_neg, List.getElem?_set_self, List.set_set, cnE, cnV, Try.ntmps78, Try.results78,  h8', decide_eq_true h8])
      · have h8' : ¬ (l.length : Int) ≤ 8 := by omega
        repeat' (first | with_reducible first | refine kI (by kernel_rfl) ?_ | refine kN (by kernel_rfl) ?_ | (first | refine kB1 ?_ ?_ | refine kB2 ?_ ?_) <;> intro hp | (first | refine kD1 ?_ ?_ | refine kD2 ?_ ?_ | refine kS1 ?_ ?_ | refine kS2 ?_ ?_) <;> intro hp <;> try simp only [hp] | simp -implicitDefEqProofs (disch := omega) only [go_sem, Nat.reduceAdd, Nat.reduceSub, reduceCtorEq, Nat.reduceLT, Nat.reduceLeDiff, Nat.reduceEqDiff, Nat.reduceMul, Int.reduceToNat, ↓reduceIte, List.take_of_length_le, if_pos, if_neg, List.getElem?_set_self, List.set_set, cnE, cnV, Try.ntmps78, Try.results78,  h8', decide_eq_false h8])
def hldT (l : List Vi) (x : Int) (k : Nat) : List Int := ((List.range k).filter fun i => (offF (l.getD i ⟨0, [], []⟩)).contains x).map fun i : Nat => (i : Int)
theorem hldT_s (l : List Vi) (x : Int) (k : Nat) : hldT l x (k + 1) = if (offF (l.getD k ⟨0, [], []⟩)).contains x = true then hldT l x k ++ [(k : Int)] else hldT l x k := by
  unfold hldT
  rw [List.range_succ, List.filter_append, List.map_append]
  simp only [List.filter_cons, List.filter_nil]
  split
  · rfl
  · simp
theorem hldT_len (l : List Vi) (x : Int) (k : Nat) : (hldT l x k).length ≤ k := by
  unfold hldT
  rw [List.length_map]
  exact Nat.le_trans (List.length_filter_le _ _) (by simp)
theorem hldT_mem {l : List Vi} {x : Int} {n i : Nat} (hi : i < n) : (hldT l x n).contains (i : Int) = (offF (l.getD i ⟨0, [], []⟩)).contains x := by
  rw [Bool.eq_iff_iff, List.contains_iff_mem]
  unfold hldT
  rw [List.mem_map]
  constructor
  · rintro ⟨j, hj, e⟩
    obtain rfl : j = i := by omega
    exact (List.mem_filter.1 hj).2
  · exact fun h => ⟨i, List.mem_filter.2 ⟨List.mem_range.2 hi, h⟩, rfl⟩
theorem hldT_asc (l : List Vi) (x : Int) (n : Nat) : (hldT l x n).Pairwise (· < ·) := by
  unfold hldT
  rw [List.pairwise_map]
  refine (List.Pairwise.sublist List.filter_sublist (List.pairwise_lt_range (n := n))).imp fun h => by omega
def gHold (l : List Vi) (x : Int) : Option (List Int) := gd (vsB l) (if vsOK l = true then hldT l x l.length else [])
theorem gHold_eq {l : List Vi} (h : vsB l) (x : Int) : gHold l x = some (if vsOK l = true then hldT l x l.length else []) := gd_eq h
theorem vsOK_all {l : List Vi} (h : vsOK l = true) : l.length ≤ 8 ∧ ∀ v ∈ l, viewOK v = true := by
  unfold vsOK at h
  simp only [Bool.and_eq_true, decide_eq_true_eq, List.all_eq_true] at h
  exact h
set_option maxHeartbeats 4000000 in
set_option maxRecDepth 100000 in
theorem spec_HoldersOfI {Sg : FuncId → Option (List AV → Option AV)} (hS : Sound Try.prog Sg) (hv : Sg 75 = some (F1 gVs)) (ho : Sg 53 = some (F1 gOffsets)) (hc : Sg 67 = some (F2 gContains)) : ∀ a r, F2 gHold a = some r → CSpec Try.prog 29 a r := by
  refine F2_spec ?_
  intro l y r hr0
  obtain ⟨hl, rfl⟩ := gd_some hr0
  refine CSpec.intro Try.func29 rfl (own _) (vc3_sound Try.pf hS hS _ _ _ ?_)
  have hl1 := hl.1
  have q1 := gVs_eq hl
  cases e : vsOK l with
  | false =>
    rw [e] at q1
    rw [if_neg (by simp)]
    repeat' (first | with_reducible first | refine kI (by kernel_rfl) ?_ | refine kN (by kernel_rfl) ?_ | (first | refine kB1 ?_ ?_ | refine kB2 ?_ ?_) <;> intro hp | (first | refine kD1 ?_ ?_ | refine kD2 ?_ ?_ | refine kS1 ?_ ?_ | refine kS2 ?_ ?_) <;> intro hp <;> try simp only [hp] | simp -implicitDefEqProofs (disch := omega) only [go_sem, Nat.reduceAdd, Nat.reduceSub, reduceCtorEq, Nat.reduceLT, Nat.reduceLeDiff, Nat.reduceEqDiff, Nat.reduceMul, Int.reduceToNat, ↓reduceIte, List.take_of_length_le, if_pos, if_neg, List.getElem?_set_self, List.set_set, cnE, cnV, Try.ntmps29, Try.results29,  hv, q1])
  | true =>
    rw [e] at q1
    rw [if_pos rfl]
    obtain ⟨h8, hall⟩ := vsOK_all e
    repeat' (first | with_reducible first | refine kI (by kernel_rfl) ?_ | refine kN (by kernel_rfl) ?_ | (first | refine kB1 ?_ ?_ | refine kB2 ?_ ?_) <;> intro hp | (first | refine kD1 ?_ ?_ | refine kD2 ?_ ?_ | refine kS1 ?_ ?_ | refine kS2 ?_ ?_) <;> intro hp <;> try simp only [hp] | simp -implicitDefEqProofs (disch := omega) only [go_sem, Nat.reduceAdd, Nat.reduceSub, reduceCtorEq, Nat.reduceLT, Nat.reduceLeDiff, Nat.reduceEqDiff, Nat.reduceMul, Int.reduceToNat, ↓reduceIte, List.take_of_length_le, if_pos, if_neg, List.getElem?_set_self, List.set_set, cnE, cnV, Try.ntmps29, Try.results29,  hv, q1])
    refine LoopQ.mixG 1 (fun t0 L0 nn ss => ∃ (k : Nat) (c : Nat) (q : List Int) (_ : Unit), (∃ x : Nat → AV, ss = ⟨mixL 0 (.k :: .k :: .k :: .k :: .k :: .v (.sl 0 c 0 c c) :: .s :: .s :: .k :: .k :: .k :: .k :: .k :: .k :: .v (i64 (k : Nat)) :: .s :: .s :: .s :: .s :: .s :: .s :: .s :: .s :: .s :: .s :: .s :: .s :: .s :: .k :: []) t0 x, [⟨1, q.map fun n => .int .i64 n⟩]⟩) ∧ (k ≤ l.length) ∧ (q.length = c ∧ c ≤ k) ∧ (q = hldT l y k) ∧ nn = l.length - k) (by simp) ?_ ?_
    · exact ⟨_, ⟨0, 0, [], (), mixI rfl, Nat.zero_le _, ⟨rfl, Nat.zero_le _⟩, rfl, rfl⟩⟩
    · rintro I0 hI0 nn s ⟨k, c, q, _, ⟨x, rfl⟩, g1, ⟨g2, g2'⟩, g3, rfl⟩
      by_cases hlt : k < l.length
      · have hki : (k : Int) < (l.length : Int) := by omega
        have hm : l.getD k ⟨0, [], []⟩ ∈ l := by simp [hlt]
        obtain ⟨k1, k2, -⟩ := viewOK_iff.1 (hall _ hm)
        have q2 := gOffsets_eq (v := l.getD k ⟨0, [], []⟩) ⟨k1, k2⟩
        have h6 := offF_60 k1
        have q3 := gContains_eq (l := offF (l.getD k ⟨0, [], []⟩)) (by omega) y
        have hs := hldT_s l y k
        skip
        cases eb : (offF (l.getD k ⟨0, [], []⟩)).contains y with
        | true =>
          rw [eb, if_pos rfl, ← g3] at hs
          rw [eb] at q3
          repeat' (first | with_reducible first | refine kI (by kernel_rfl) ?_ | refine kN (by kernel_rfl) ?_ | (first | refine kB1 ?_ ?_ | refine kB2 ?_ ?_) <;> intro hp | (first | refine kD1 ?_ ?_ | refine kD2 ?_ ?_ | refine kS1 ?_ ?_ | refine kS2 ?_ ?_) <;> intro hp <;> try simp only [hp] | simp -implicitDefEqProofs (disch := omega) only [go_sem, Nat.reduceAdd, Nat.reduceSub, reduceCtorEq, Nat.reduceLT, Nat.reduceLeDiff, Nat.reduceEqDiff, Nat.reduceMul, Int.reduceToNat, ↓reduceIte, List.take_of_length_le, if_pos, if_neg, List.getElem?_set_self, List.set_set, cnE, cnV, Try.ntmps29, Try.results29,  hki, ho, q2, hc, q3])
          exact ⟨l.length - (k + 1), by omega, hI0 _ _ ⟨k + 1, c + 1, q ++ [(k : Int)], (), mixI rfl, hlt, ⟨by simp [g2], by omega⟩, hs.symm, rfl⟩⟩
        | false =>
          rw [eb, if_neg (by simp), ← g3] at hs
          rw [eb] at q3
          repeat' (first | with_reducible first | refine kI (by kernel_rfl) ?_ | refine kN (by kernel_rfl) ?_ | (first | refine kB1 ?_ ?_ | refine kB2 ?_ ?_) <;> intro hp | (first | refine kD1 ?_ ?_ | refine kD2 ?_ ?_ | refine kS1 ?_ ?_ | refine kS2 ?_ ?_) <;> intro hp <;> try simp only [hp] | simp -implicitDefEqProofs (disch := omega) only [go_sem, Nat.reduceAdd, Nat.reduceSub, reduceCtorEq, Nat.reduceLT, Nat.reduceLeDiff, Nat.reduceEqDiff, Nat.reduceMul, Int.reduceToNat, ↓reduceIte, List.take_of_length_le, if_pos, if_neg, List.getElem?_set_self, List.set_set, cnE, cnV, Try.ntmps29, Try.results29,  hki, ho, q2, hc, q3])
          exact ⟨l.length - (k + 1), by omega, hI0 _ _ ⟨k + 1, c, q, (), mixI rfl, hlt, ⟨g2, by omega⟩, hs.symm, rfl⟩⟩
      · obtain rfl : k = l.length := by omega
        subst g3
        repeat' (first | with_reducible first | refine kI (by kernel_rfl) ?_ | refine kN (by kernel_rfl) ?_ | (first | refine kB1 ?_ ?_ | refine kB2 ?_ ?_) <;> intro hp | (first | refine kD1 ?_ ?_ | refine kD2 ?_ ?_ | refine kS1 ?_ ?_ | refine kS2 ?_ ?_) <;> intro hp <;> try simp only [hp] | simp -implicitDefEqProofs (disch := omega) only [go_sem, Nat.reduceAdd, Nat.reduceSub, reduceCtorEq, Nat.reduceLT, Nat.reduceLeDiff, Nat.reduceEqDiff, Nat.reduceMul, Int.reduceToNat, ↓reduceIte, List.take_of_length_le, if_pos, if_neg, List.getElem?_set_self, List.set_set, cnE, cnV, Try.ntmps29, Try.results29])
/-- views that are data, each with its mark -/
abbrev viT (x : Nat × Vi) : AV := .agg [.int .i64 x.2.b, ints x.1 x.2.sh, ints x.1 x.2.st]
theorem ee_vit (t : Nat) (L : List Blk) (q : List (Nat × Vi)) : expE (expC 0 L) (.ds t (q.map fun x => .agg [.int .i64 x.2.b, ints x.1 x.2.sh, ints x.1 x.2.st])) = visD 0 (q.map (·.2)) := by
  simp [expE, expC, stepC, Function.comp_def]
theorem getD_vit {q : List (Nat × Vi)} {k : Nat} (h : k < q.length) : (q.map fun x => AV.agg [.int .i64 x.2.b, ints x.1 x.2.sh, ints x.1 x.2.st]).getD k .any = .agg [.int .i64 (q.getD k (0, ⟨0, [], []⟩)).2.b, ints (q.getD k (0, ⟨0, [], []⟩)).1 (q.getD k (0, ⟨0, [], []⟩)).2.sh, ints (q.getD k (0, ⟨0, [], []⟩)).1 (q.getD k (0, ⟨0, [], []⟩)).2.st] := by simp [h]
theorem getD_snd {q : List (Nat × Vi)} {k : Nat} : (q.map (·.2)).getD k ⟨0, [], []⟩ = (q.getD k (0, ⟨0, [], []⟩)).2 := by
  by_cases h : k < q.length <;> simp [h]
def DrHold (f : FuncId) : Prop := ∀ (bs : List UInt8), bs.length ≤ 1048576 → ∀ L : List Blk, ISpec Try.prog f [bytesA 0 bs] L fun r L' => ∃ (q : List (Nat × Vi)) (x : Int), vsB (q.map (·.2)) ∧ r = .tup [.ds 1 (q.map viT), i64 x] ∧ L' = L
end Go.Proofs.Ytgpflkmelindfaa
