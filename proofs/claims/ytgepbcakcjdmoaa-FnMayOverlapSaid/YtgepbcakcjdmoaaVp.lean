/- Contracts of functions that the laws of this seat call. -/
import Derived.Test.YtgepbcakcjdmoaaVo
set_option linter.all false
namespace Go.Proofs.Ytgepbcakcjdmoaa
open Go Go.Ev Go.RowKit Go.Ev.Enc Go.Pl

/-! ### the least and the greatest -/
def mnS (a b : Int) : Int := if b < a then b else a
def mxS (a b : Int) : Int := if a < b then b else a
def mnT (l : List Int) (k : Nat) : Int := (l.take k).foldl mnS (l.getD 0 0)
def mxT (l : List Int) (k : Nat) : Int := (l.take k).foldl mxS (l.getD 0 0)
theorem mxT_succ {l : List Int} {k : Nat} (h : k < l.length) : mxT l (k + 1) = mxS (mxT l k) (l.getD k 0) := by
  unfold mxT
  rw [take_snocI h, List.foldl_append]; rfl
theorem mxT_one {l : List Int} : mxT l 1 = l.getD 0 0 := by
  cases l with
  | nil => rfl
  | cons x l =>
    show mxS x x = x
    unfold mxS
    split <;> rfl
theorem mxT_b {l : List Int} : ∀ k, 0 < l.length → k ≤ l.length → (mxT l k ∈ l) ∧ ∀ i, i < k → l.getD i 0 ≤ mxT l k
  | 0, h0, _ => ⟨gmem h0, fun i hi => absurd hi (Nat.not_lt_zero _)⟩
  | k + 1, h0, hk => by
    obtain ⟨h1, h2⟩ := mxT_b k h0 (by omega)
    rw [mxT_succ (by omega)]
    unfold mxS
    split
    · refine ⟨gmem (by omega), fun i hi => ?_⟩
      by_cases hik : i = k
      · subst hik; omega
      · have := h2 i (by omega); omega
    · refine ⟨h1, fun i hi => ?_⟩
      by_cases hik : i = k
      · subst hik; omega
      · have := h2 i (by omega); omega
def gMx (l : List Int) : Option Int := gd (0 < l.length ∧ l.length < 4294967296) (mxT l l.length)
theorem gMx_eq {l : List Int} (h : 0 < l.length ∧ l.length < 4294967296) : gMx l = some (mxT l l.length) := gd_eq h
set_option maxHeartbeats 4000000 in
set_option maxRecDepth 100000 in
theorem spec_Max {Sg : FuncId → Option (List AV → Option AV)} (hS : Sound Try.prog Sg) : ∀ a r, F1 gMx a = some r → CSpec Try.prog 88 a r := by
  refine F1_spec ?_
  intro l r hr
  obtain ⟨⟨h1, h2⟩, rfl⟩ := gd_some hr
  refine CSpec.intro Try.func88 rfl (own _) (vc3_sound Try.pf hS hS _ _ _ ?_)
  have h1' : ¬ (l.length : Int) < 1 := by omega
  repeat' (first | with_reducible first | refine kI (by kernel_rfl) ?_ | refine kN (by kernel_rfl) ?_ | (first | refine kB1 ?_ ?_ | refine kB2 ?_ ?_) <;> intro hp | (first | refine kD1 ?_ ?_ | refine kD2 ?_ ?_ | refine kS1 ?_ ?_ | refine kS2 ?_ ?_) <;> intro hp <;> try simp only [hp] | simp -implicitDefEqProofs (disch := omega) only [go_sem, Nat.reduceAdd, Nat.reduceSub, reduceCtorEq, Nat.reduceLT, Nat.reduceLeDiff, Nat.reduceEqDiff, Nat.reduceMul, Int.reduceToNat, ↓reduceIte, List.take_of_length_le, if_pos, if_neg, List.getElem?_set_self, List.set_set, cnE, cnV, Try.ntmps88, Try.results88,  h1'])
  refine LoopQ.mix (fun t0 L0 nn ss => ∃ (k : Nat) (_ : Unit), (∃ x : Nat → AV, ss = ⟨mixL 0 (.k :: .k :: .k :: .v (i64 (mxT l (k + 1))) :: .v (i64 ((k : Nat) + 1)) :: .k :: .k :: .k :: .k :: .k :: .k :: .k :: .s :: .s :: .s :: .s :: .s :: .s :: .s :: .s :: .s :: .s :: .s :: .s :: .k :: []) t0 x, L0⟩) ∧ (k + 1 ≤ l.length) ∧ nn = l.length - (k + 1)) ?_ ?_
  · exact ⟨_, 0, (), mixI (by rw [mxT_one]; rfl), h1, rfl⟩
  · rintro I0 hI0 nn s ⟨k, _, ⟨x, rfl⟩, g1, rfl⟩
    by_cases hk : k + 1 < l.length
    · have hki : (k : Int) + 1 < (l.length : Int) := by omega
      have hs := mxT_succ hk
      have e1 : ((k : Int) + 1).toNat = k + 1 := by omega
      have e2 : IntKind.i64.wrap ((k : Int) + 1 + 1) = ((k + 1 : Nat) : Int) + 1 := by rw [wrap_in (by omega)]; omega
      repeat' (first | with_reducible first | refine kI (by kernel_rfl) ?_ | refine kN (by kernel_rfl) ?_ | (first | refine kB1 ?_ ?_ | refine kB2 ?_ ?_) <;> intro hp | (first | refine kD1 ?_ ?_ | refine kD2 ?_ ?_ | refine kS1 ?_ ?_ | refine kS2 ?_ ?_) <;> intro hp <;> try simp only [hp] | simp -implicitDefEqProofs (disch := omega) only [go_sem, Nat.reduceAdd, Nat.reduceSub, reduceCtorEq, Nat.reduceLT, Nat.reduceLeDiff, Nat.reduceEqDiff, Nat.reduceMul, Int.reduceToNat, ↓reduceIte, List.take_of_length_le, if_pos, if_neg, List.getElem?_set_self, List.set_set, cnE, cnV, Try.ntmps88, Try.results88,  hki, e1, e2])
      exact ⟨l.length - (k + 1 + 1), by omega, hI0 _ _ ⟨k + 1, (), mixI (by rw [hs]; rfl), hk, rfl⟩⟩
    · obtain e1 : k + 1 = l.length := by omega
      have hki : ¬ (k : Int) + 1 < (l.length : Int) := by omega
      repeat' (first | with_reducible first | refine kI (by kernel_rfl) ?_ | refine kN (by kernel_rfl) ?_ | (first | refine kB1 ?_ ?_ | refine kB2 ?_ ?_) <;> intro hp | (first | refine kD1 ?_ ?_ | refine kD2 ?_ ?_ | refine kS1 ?_ ?_ | refine kS2 ?_ ?_) <;> intro hp <;> try simp only [hp] | simp -implicitDefEqProofs (disch := omega) only [go_sem, Nat.reduceAdd, Nat.reduceSub, reduceCtorEq, Nat.reduceLT, Nat.reduceLeDiff, Nat.reduceEqDiff, Nat.reduceMul, Int.reduceToNat, ↓reduceIte, List.take_of_length_le, if_pos, if_neg, List.getElem?_set_self, List.set_set, cnE, cnV, Try.ntmps88, Try.results88,  hki, e1])
theorem mnT_succ {l : List Int} {k : Nat} (h : k < l.length) : mnT l (k + 1) = mnS (mnT l k) (l.getD k 0) := by
  unfold mnT
  rw [take_snocI h, List.foldl_append]; rfl
theorem mnT_one {l : List Int} : mnT l 1 = l.getD 0 0 := by
  cases l with
  | nil => rfl
  | cons x l =>
    show mnS x x = x
    unfold mnS
    split <;> rfl
theorem mnT_b {l : List Int} : ∀ k, 0 < l.length → k ≤ l.length → (mnT l k ∈ l) ∧ ∀ i, i < k → mnT l k ≤ l.getD i 0
  | 0, h0, _ => ⟨gmem h0, fun i hi => absurd hi (Nat.not_lt_zero _)⟩
  | k + 1, h0, hk => by
    obtain ⟨h1, h2⟩ := mnT_b k h0 (by omega)
    rw [mnT_succ (by omega)]
    unfold mnS
    split
    · refine ⟨gmem (by omega), fun i hi => ?_⟩
      by_cases hik : i = k
      · subst hik; omega
      · have := h2 i (by omega); omega
    · refine ⟨h1, fun i hi => ?_⟩
      by_cases hik : i = k
      · subst hik; omega
      · have := h2 i (by omega); omega
def gMn (l : List Int) : Option Int := gd (0 < l.length ∧ l.length < 4294967296) (mnT l l.length)
theorem gMn_eq {l : List Int} (h : 0 < l.length ∧ l.length < 4294967296) : gMn l = some (mnT l l.length) := gd_eq h
set_option maxHeartbeats 4000000 in
set_option maxRecDepth 100000 in
theorem spec_Min {Sg : FuncId → Option (List AV → Option AV)} (hS : Sound Try.prog Sg) : ∀ a r, F1 gMn a = some r → CSpec Try.prog 87 a r := by
  refine F1_spec ?_
  intro l r hr
  obtain ⟨⟨h1, h2⟩, rfl⟩ := gd_some hr
  refine CSpec.intro Try.func87 rfl (own _) (vc3_sound Try.pf hS hS _ _ _ ?_)
  have h1' : ¬ (l.length : Int) < 1 := by omega
  repeat' (first | with_reducible first | refine kI (by kernel_rfl) ?_ | refine kN (by kernel_rfl) ?_ | (first | refine kB1 ?_ ?_ | refine kB2 ?_ ?_) <;> intro hp | (first | refine kD1 ?_ ?_ | refine kD2 ?_ ?_ | refine kS1 ?_ ?_ | refine kS2 ?_ ?_) <;> intro hp <;> try simp only [hp] | simp -implicitDefEqProofs (disch := omega) only [go_sem, Nat.reduceAdd, Nat.reduceSub, reduceCtorEq, Nat.reduceLT, Nat.reduceLeDiff, Nat.reduceEqDiff, Nat.reduceMul, Int.reduceToNat, ↓reduceIte, List.take_of_length_le, if_pos, if_neg, List.getElem?_set_self, List.set_set, cnE, cnV, Try.ntmps87, Try.results87,  h1'])
  refine LoopQ.mix (fun t0 L0 nn ss => ∃ (k : Nat) (_ : Unit), (∃ x : Nat → AV, ss = ⟨mixL 0 (.k :: .k :: .k :: .v (i64 (mnT l (k + 1))) :: .v (i64 ((k : Nat) + 1)) :: .k :: .k :: .k :: .k :: .k :: .k :: .k :: .s :: .s :: .s :: .s :: .s :: .s :: .s :: .s :: .s :: .s :: .s :: .s :: .k :: []) t0 x, L0⟩) ∧ (k + 1 ≤ l.length) ∧ nn = l.length - (k + 1)) ?_ ?_
  · exact ⟨_, 0, (), mixI (by rw [mnT_one]; rfl), h1, rfl⟩
  · rintro I0 hI0 nn s ⟨k, _, ⟨x, rfl⟩, g1, rfl⟩
    by_cases hk : k + 1 < l.length
    · have hki : (k : Int) + 1 < (l.length : Int) := by omega
      have hs := mnT_succ hk
      have e1 : ((k : Int) + 1).toNat = k + 1 := by omega
      have e2 : IntKind.i64.wrap ((k : Int) + 1 + 1) = ((k + 1 : Nat) : Int) + 1 := by rw [wrap_in (by omega)]; omega
      repeat' (first | with_reducible first | refine kI (by kernel_rfl) ?_ | refine kN (by kernel_rfl) ?_ | (first | refine kB1 ?_ ?_ | refine kB2 ?_ ?_) <;> intro hp | (first | refine kD1 ?_ ?_ | refine kD2 ?_ ?_ | refine kS1 ?_ ?_ | refine kS2 ?_ ?_) <;> intro hp <;> try simp only [hp] | simp -implicitDefEqProofs (disch := omega) only [go_sem, Nat.reduceAdd, Nat.reduceSub, reduceCtorEq, Nat.reduceLT, Nat.reduceLeDiff, Nat.reduceEqDiff, Nat.reduceMul, Int.reduceToNat, ↓reduceIte, List.take_of_length_le, if_pos, if_neg, List.getElem?_set_self, List.set_set, cnE, cnV, Try.ntmps87, Try.results87,  hki, e1, e2])
      exact ⟨l.length - (k + 1 + 1), by omega, hI0 _ _ ⟨k + 1, (), mixI (by rw [hs]; rfl), hk, rfl⟩⟩
    · obtain e1 : k + 1 = l.length := by omega
      have hki : ¬ (k : Int) + 1 < (l.length : Int) := by omega
      repeat' (first | with_reducible first | refine kI (by kernel_rfl) ?_ | refine kN (by kernel_rfl) ?_ | (first | refine kB1 ?_ ?_ | refine kB2 ?_ ?_) <;> intro hp | (first | refine kD1 ?_ ?_ | refine kD2 ?_ ?_ | refine kS1 ?_ ?_ | refine kS2 ?_ ?_) <;> intro hp <;> try simp only [hp] | simp -implicitDefEqProofs (disch := omega) only [go_sem, Nat.reduceAdd, Nat.reduceSub, reduceCtorEq, Nat.reduceLT, Nat.reduceLeDiff, Nat.reduceEqDiff, Nat.reduceMul, Int.reduceToNat, ↓reduceIte, List.take_of_length_le, if_pos, if_neg, List.getElem?_set_self, List.set_set, cnE, cnV, Try.ntmps87, Try.results87,  hki, e1])
def bdF (v : Vi) : Int × Int := if viewOK v = true ∧ ¬ prodW v.sh = 0 then (mnT (offF v) (offF v).length, mxT (offF v) (offF v).length) else (-1, -1)
def gBounds (v : Vi) : Option (Int × Int) := gd (viB v) (bdF v)
theorem gBounds_eq {v : Vi} (h : viB v) : gBounds v = some (bdF v) := gd_eq h
theorem offF_pos {v : Vi} (h : viewOK v = true) (hz : ¬ prodW v.sh = 0) : 0 < (offF v).length := by
  obtain ⟨s1, s2, s3, s4, s5⟩ := shape_facts (viewOK_iff.1 h).1
  rw [offF_len]; omega
set_option maxHeartbeats 4000000 in
set_option maxRecDepth 100000 in
theorem spec_BoundsOfI {Sg : FuncId → Option (List AV → Option AV)} (hS : Sound Try.prog Sg) (hv : Sg 63 = some (F1 gValidV)) (hn : Sg 74 = some (F1 gCountOf)) (ho : Sg 68 = some (F1 gOffsets)) (h1 : Sg 87 = some (F1 gMn)) (h2 : Sg 88 = some (F1 gMx)) : ∀ a r, F1 gBounds a = some r → CSpec Try.prog 50 a r := by
  refine F1_spec ?_
  intro v r hr
  obtain ⟨h, rfl⟩ := gd_some hr
  refine CSpec.intro Try.func50 rfl (own _) (vc3_sound Try.pf hS hS _ _ _ ?_)
  have q1 := gValidV_eq (v := v) h
  cases e1 : viewOK v with
  | false =>
    rw [e1] at q1
    have eb : bdF v = (-1, -1) := by unfold bdF; rw [e1]; rfl
    repeat' (first | with_reducible first | refine kI (by kernel_rfl) ?_ | refine kN (by kernel_rfl) ?_ | (first | refine kB1 ?_ ?_ | refine kB2 ?_ ?_) <;> intro hp | (first | refine kD1 ?_ ?_ | refine kD2 ?_ ?_ | refine kS1 ?_ ?_ | refine kS2 ?_ ?_) <;> intro hp <;> try simp only [hp] | simp -implicitDefEqProofs (disch := omega) only [go_sem, Nat.reduceAdd, Nat.reduceSub, reduceCtorEq, Nat.reduceLT, Nat.reduceLeDiff, Nat.reduceEqDiff, Nat.reduceMul, Int.reduceToNat, ↓reduceIte, List.take_of_length_le, if_pos, if_neg, List.getElem?_set_self, List.set_set, cnE, cnV, Try.ntmps50, Try.results50,  hv, q1, eb])
    try rfl
  | true =>
    rw [e1] at q1
    obtain ⟨k1, k2, _⟩ := viewOK_iff.1 e1
    obtain ⟨s1, s2, s3, s4, s5⟩ := shape_facts k1
    have q2 := gCountOf_eq (l := v.sh) (by omega)
    by_cases hz : prodW v.sh = 0
    · rw [hz] at q2
      have eb : bdF v = (-1, -1) := by unfold bdF; rw [if_neg (fun h => h.2 hz)]
      repeat' (first | with_reducible first | refine kI (by kernel_rfl) ?_ | refine kN (by kernel_rfl) ?_ | (first | refine kB1 ?_ ?_ | refine kB2 ?_ ?_) <;> intro hp | (first | refine kD1 ?_ ?_ | refine kD2 ?_ ?_ | refine kS1 ?_ ?_ | refine kS2 ?_ ?_) <;> intro hp <;> try simp only [hp] | simp -implicitDefEqProofs (disch := omega) only [go_sem, Nat.reduceAdd, Nat.reduceSub, reduceCtorEq, Nat.reduceLT, Nat.reduceLeDiff, Nat.reduceEqDiff, Nat.reduceMul, Int.reduceToNat, ↓reduceIte, List.take_of_length_le, if_pos, if_neg, List.getElem?_set_self, List.set_set, cnE, cnV, Try.ntmps50, Try.results50,  hv, q1, hn, q2, eb])
      try rfl
    · have hz' : (prodW v.sh == 0) = false := beq_f hz
      have eb : bdF v = (mnT (offF v) (offF v).length, mxT (offF v) (offF v).length) := by unfold bdF; rw [if_pos ⟨e1, hz⟩]
      have hp := offF_pos e1 hz
      have h6 := offF_60 k1
      have q3 := gOffsets_eq (v := v) ⟨k1, k2⟩
      have q4 := gMn_eq (l := offF v) ⟨hp, by omega⟩
      have q5 := gMx_eq (l := offF v) ⟨hp, by omega⟩
      repeat' (first | with_reducible first | refine kI (by kernel_rfl) ?_ | refine kN (by kernel_rfl) ?_ | (first | refine kB1 ?_ ?_ | refine kB2 ?_ ?_) <;> intro hp | (first | refine kD1 ?_ ?_ | refine kD2 ?_ ?_ | refine kS1 ?_ ?_ | refine kS2 ?_ ?_) <;> intro hp <;> try simp only [hp] | simp -implicitDefEqProofs (disch := omega) only [go_sem, Nat.reduceAdd, Nat.reduceSub, reduceCtorEq, Nat.reduceLT, Nat.reduceLeDiff, Nat.reduceEqDiff, Nat.reduceMul, Int.reduceToNat, ↓reduceIte, List.take_of_length_le, if_pos, if_neg, List.getElem?_set_self, List.set_set, cnE, cnV, Try.ntmps50, Try.results50,  hv, q1, hn, q2, hz', eb, ho, q3, h1, q4, h2, q5])
      try rfl
set_option maxHeartbeats 4000000 in
set_option maxRecDepth 100000 in
theorem spec_BoundsOfS {Sg : FuncId → Option (List AV → Option AV)} (hS : Sound Try.prog Sg) (hv : Sg 65 = some (F1 gValidV)) (hn : Sg 101 = some (F1 gCount)) (ho : Sg 67 = some (F1 gOffsets)) : ∀ a r, F1 gBounds a = some r → CSpec Try.prog 89 a r := by
  refine F1_spec ?_
  intro v r hr
  obtain ⟨h, rfl⟩ := gd_some hr
  refine CSpec.intro Try.func89 rfl (own _) (vc3_sound Try.pf hS hS _ _ _ ?_)
  have q1 := gValidV_eq (v := v) h
  cases e1 : viewOK v with
  | false =>
    rw [e1] at q1
    have eb : bdF v = (-1, -1) := by unfold bdF; rw [e1]; rfl
    repeat' (first | with_reducible first | refine kI (by kernel_rfl) ?_ | refine kN (by kernel_rfl) ?_ | (first | refine kB1 ?_ ?_ | refine kB2 ?_ ?_) <;> intro hp | (first | refine kD1 ?_ ?_ | refine kD2 ?_ ?_ | refine kS1 ?_ ?_ | refine kS2 ?_ ?_) <;> intro hp <;> try simp only [hp] | simp -implicitDefEqProofs (disch := omega) only [go_sem, Nat.reduceAdd, Nat.reduceSub, reduceCtorEq, Nat.reduceLT, Nat.reduceLeDiff, Nat.reduceEqDiff, Nat.reduceMul, Int.reduceToNat, ↓reduceIte, List.take_of_length_le, if_pos, if_neg, List.getElem?_set_self, List.set_set, cnE, cnV, Try.ntmps89, Try.results89,  hv, q1, eb])
    try rfl
  | true =>
    rw [e1] at q1
    obtain ⟨k1, k2, _⟩ := viewOK_iff.1 e1
    obtain ⟨s1, s2, s3, s4, s5⟩ := shape_facts k1
    have q2 := gCount_eq (l := v.sh) (by omega)
    by_cases hz : prodW v.sh = 0
    · rw [hz] at q2
      have eb : bdF v = (-1, -1) := by unfold bdF; rw [if_neg (fun h => h.2 hz)]
      repeat' (first | with_reducible first | refine kI (by kernel_rfl) ?_ | refine kN (by kernel_rfl) ?_ | (first | refine kB1 ?_ ?_ | refine kB2 ?_ ?_) <;> intro hp | (first | refine kD1 ?_ ?_ | refine kD2 ?_ ?_ | refine kS1 ?_ ?_ | refine kS2 ?_ ?_) <;> intro hp <;> try simp only [hp] | simp -implicitDefEqProofs (disch := omega) only [go_sem, Nat.reduceAdd, Nat.reduceSub, reduceCtorEq, Nat.reduceLT, Nat.reduceLeDiff, Nat.reduceEqDiff, Nat.reduceMul, Int.reduceToNat, ↓reduceIte, List.take_of_length_le, if_pos, if_neg, List.getElem?_set_self, List.set_set, cnE, cnV, Try.ntmps89, Try.results89,  hv, q1, hn, q2, eb])
      try rfl
    · have hz' : (prodW v.sh == 0) = false := beq_f hz
      have eb : bdF v = (mnT (offF v) (offF v).length, mxT (offF v) (offF v).length) := by unfold bdF; rw [if_pos ⟨e1, hz⟩]
      have hp := offF_pos e1 hz
      have h6 := offF_60 k1
      have q3 := gOffsets_eq (v := v) ⟨k1, k2⟩
      rw [eb]
      repeat' (first | with_reducible first | refine kI (by kernel_rfl) ?_ | refine kN (by kernel_rfl) ?_ | (first | refine kB1 ?_ ?_ | refine kB2 ?_ ?_) <;> intro hp | (first | refine kD1 ?_ ?_ | refine kD2 ?_ ?_ | refine kS1 ?_ ?_ | refine kS2 ?_ ?_) <;> intro hp <;> try simp only [hp] | simp -implicitDefEqProofs (disch := omega) only [go_sem, Nat.reduceAdd, Nat.reduceSub, reduceCtorEq, Nat.reduceLT, Nat.reduceLeDiff, Nat.reduceEqDiff, Nat.reduceMul, Int.reduceToNat, ↓reduceIte, List.take_of_length_le, if_pos, if_neg, List.getElem?_set_self, List.set_set, cnE, cnV, Try.ntmps89, Try.results89,  hv, q1, hn, q2, hz', ho, q3])
      generalize offF v = A at *
      refine LoopQ.mix (fun t0 L0 nn ss => ∃ (k : Nat) (_ : Unit), (∃ x : Nat → AV, ss = ⟨mixL 0 (.k :: .k :: .k :: .k :: .k :: .v (i64 (mnT A k)) :: .v (i64 (mxT A k)) :: .v (i64 (k : Nat)) :: .k :: .k :: .k :: .k :: .k :: .k :: .k :: .k :: .k :: .k :: .k :: .k :: .k :: .k :: .k :: .k :: .k :: .s :: .s :: .s :: .s :: .s :: .s :: .s :: .s :: .s :: .s :: .s :: .s :: .s :: .s :: .s :: .s :: .s :: .s :: .k :: .k :: []) t0 x, L0⟩) ∧ (k ≤ A.length) ∧ nn = A.length - k) ?_ ?_
      · exact ⟨_, 0, (), mixI rfl, Nat.zero_le _, rfl⟩
      · rintro I0 hI0 nn s ⟨k, _, ⟨x, rfl⟩, g1, rfl⟩
        by_cases hk : k < A.length
        · have hki : (k : Int) < (A.length : Int) := by omega
          repeat' (first | with_reducible first | refine kI (by kernel_rfl) ?_ | refine kN (by kernel_rfl) ?_ | (first | refine kB1 ?_ ?_ | refine kB2 ?_ ?_) <;> intro hp | (first | refine kD1 ?_ ?_ | refine kD2 ?_ ?_ | refine kS1 ?_ ?_ | refine kS2 ?_ ?_) <;> intro hp <;> try simp only [hp] | simp -implicitDefEqProofs (disch := omega) only [go_sem, Nat.reduceAdd, Nat.reduceSub, reduceCtorEq, Nat.reduceLT, Nat.reduceLeDiff, Nat.reduceEqDiff, Nat.reduceMul, Int.reduceToNat, ↓reduceIte, List.take_of_length_le, if_pos, if_neg, List.getElem?_set_self, List.set_set, cnE, cnV, Try.ntmps89, Try.results89,  hki])
          exact ⟨A.length - (k + 1), by omega, hI0 _ _ ⟨k + 1, (), mixI (by rw [mnT_succ hk, mxT_succ hk]; rfl), hk, rfl⟩⟩
        · obtain rfl : k = A.length := by omega
          repeat' (first | with_reducible first | refine kI (by kernel_rfl) ?_ | refine kN (by kernel_rfl) ?_ | (first | refine kB1 ?_ ?_ | refine kB2 ?_ ?_) <;> intro hp | (first | refine kD1 ?_ ?_ | refine kD2 ?_ ?_ | refine kS1 ?_ ?_ | refine kS2 ?_ ?_) <;> intro hp <;> try simp only [hp] | simp -implicitDefEqProofs (disch := omega) only [go_sem, Nat.reduceAdd, Nat.reduceSub, reduceCtorEq, Nat.reduceLT, Nat.reduceLeDiff, Nat.reduceEqDiff, Nat.reduceMul, Int.reduceToNat, ↓reduceIte, List.take_of_length_le, if_pos, if_neg, List.getElem?_set_self, List.set_set, cnE, cnV, Try.ntmps89, Try.results89])
          try rfl
end Go.Proofs.Ytgepbcakcjdmoaa
