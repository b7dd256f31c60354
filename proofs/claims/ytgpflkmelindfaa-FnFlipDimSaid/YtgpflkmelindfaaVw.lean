/- Contracts of functions that the laws of this seat call. -/
import Derived.Test.YtgpflkmelindfaaVv
set_option linter.all false
namespace Go.Proofs.Ytgpflkmelindfaa
open Go Go.Ev Go.RowKit Go.Ev.Enc Go.Pl

def rowI (s : List Int) : List Int := (List.range s.length).map fun i => prodW (s.drop (i + 1))
theorem rowI_len (s : List Int) : (rowI s).length = s.length := by simp [rowI]
def isRowF (v : Vi) : Bool := viewOK v && decide (offF v = offF ⟨v.b, v.sh, rowI v.sh⟩)
def sameF (a b : Vi) : Bool := okk a b && (decide (a.sh = b.sh) && decide (offF a = offF b))
theorem sameF_iff {a b : Vi} : sameF a b = true ↔ (viewOK a = true ∧ viewOK b = true) ∧ a.sh = b.sh ∧ offF a = offF b := by
  unfold sameF
  rw [Bool.and_eq_true, Bool.and_eq_true, okk_iff, decide_eq_true_eq, decide_eq_true_eq]
theorem divR_0 : ∀ s : List Int, divR s 0 = 0
  | [] => rfl
  | d :: r => by rw [divR, Int.zero_tdiv, divR_0 r]
theorem unrF_0 (s : List Int) (m : Nat) : (unrF s 0).getD m 0 = 0 := by
  by_cases h : m < s.length
  · rw [unrF_at h, divR_0, Int.zero_tmod]
  · rw [List.getD_eq_getElem?_getD, List.getElem?_eq_none (by rw [unrF_len]; omega)]; rfl
theorem offW_0 {v : Vi} (hb : 0 ≤ v.b ∧ v.b ≤ 60) {x : List Int} (hx : ∀ m, x.getD m 0 = 0) : ∀ m, offW v x m = v.b
  | 0 => rfl
  | m + 1 => by
    rw [offW, offW_0 hb hx m, hx m, Int.zero_mul, show IntKind.i64.wrap 0 = 0 from rfl, Int.add_zero, wrap_in (by omega)]
theorem off_first {v : Vi} (h : viewOK v = true) (hz : ¬ prodW v.sh = 0) : (offF v).getD 0 0 = v.b := by
  have hv := viewOK_iff.1 h
  have hs := shape_facts hv.1
  have hp : 0 < (prodW v.sh).toNat := by omega
  have e : (offF v).getD 0 0 = offW v (unrF v.sh ((0 : Nat) : Int)) v.sh.length := by
    unfold offF
    rw [List.getD_eq_getElem?_getD, List.getElem?_map, List.getElem?_range hp]; rfl
  rw [e]
  exact offW_0 hv.2.2.2.1 (fun m => unrF_0 _ m) _
theorem same_row {a b : Vi} (h : sameF a b = true) : isRowF a = isRowF b := by
  obtain ⟨⟨h1, h2⟩, hs, ho⟩ := sameF_iff.1 h
  unfold isRowF
  rw [h1, h2, ho, hs]
  by_cases hz : prodW b.sh = 0
  · rw [offF_zero (v := ⟨a.b, b.sh, rowI b.sh⟩) hz, offF_zero (v := ⟨b.b, b.sh, rowI b.sh⟩) hz]
  · have e : a.b = b.b := by rw [← off_first h1 (hs ▸ hz), ← off_first h2 hz, ho]
    rw [e]
def gSame (a b : Vi) : Option Bool := gd (viB2 a b) (sameF a b)
theorem gSame_eq {a b : Vi} (h : viB2 a b) : gSame a b = some (sameF a b) := gd_eq h
def gIsRow (v : Vi) : Option Bool := gd (viB v) (isRowF v)
theorem gIsRow_eq {v : Vi} (h : viB v) : gIsRow v = some (isRowF v) := gd_eq h
set_option maxHeartbeats 2000000 in
set_option maxRecDepth 100000 in
theorem spec_sameInts {Sg : FuncId → Option (List AV → Option AV)} (hS : Sound Try.prog Sg) : ∀ a r, F2 gEqInts a = some r → CSpec Try.prog 70 a r := by
  refine spec2 Try.func70 rfl Try.pf hS ?_
  intro a b r hr
  obtain ⟨⟨h1, h2⟩, rfl⟩ := gd_some hr
  by_cases hl : a.length = b.length
  · have hl' : (a.length : Int) = (b.length : Int) := by omega
    repeat' (first | with_reducible first | refine kI (by kernel_rfl) ?_ | refine kN (by kernel_rfl) ?_ | (first | refine kB1 ?_ ?_ | refine kB2 ?_ ?_) <;> intro hp | (first | refine kD1 ?_ ?_ | refine kD2 ?_ ?_ | refine kS1 ?_ ?_ | refine kS2 ?_ ?_) <;> intro hp <;> try simp only [hp] | simp -implicitDefEqProofs (disch := omega) only [go_sem, Nat.reduceAdd, Nat.reduceSub, reduceCtorEq, Nat.reduceLT, Nat.reduceLeDiff, Nat.reduceEqDiff, Nat.reduceMul, Int.reduceToNat, ↓reduceIte, List.take_of_length_le, if_pos, if_neg, List.getElem?_set_self, List.set_set, cnE, cnV, Try.ntmps70, Try.results70,  hl'])
    refine LoopQ.mix (fun t0 L0 nn ss => ∃ (k : Nat) (_ : Unit), (∃ x : Nat → AV, ss = ⟨mixL 0 (.k :: .k :: .k :: .k :: .s :: .v (i64 (k : Nat)) :: .k :: .k :: .k :: .k :: .k :: .s :: .s :: .s :: .s :: .s :: .s :: .s :: .s :: .s :: .s :: .s :: .s :: .s :: .s :: .s :: []) t0 x, L0⟩) ∧ (k ≤ a.length) ∧ (∀ i, i < k → a.getD i 0 = b.getD i 0) ∧ nn = a.length - k) ?_ ?_
    · exact ⟨_, ⟨0, (), mixI rfl, Nat.zero_le _, fun i hi => absurd hi (Nat.not_lt_zero _), rfl⟩⟩
    · rintro I0 hI0 n s ⟨k, _, ⟨x, rfl⟩, g1, g2, rfl⟩
      by_cases hlt : k < a.length
      · have hkb : k < b.length := by omega
        have hlt' : (k : Int) < (b.length : Int) := by omega
        by_cases he : a.getD k 0 = b.getD k 0
        · repeat' (first | with_reducible first | refine kI (by kernel_rfl) ?_ | refine kN (by kernel_rfl) ?_ | (first | refine kB1 ?_ ?_ | refine kB2 ?_ ?_) <;> intro hp | (first | refine kD1 ?_ ?_ | refine kD2 ?_ ?_ | refine kS1 ?_ ?_ | refine kS2 ?_ ?_) <;> intro hp <;> try simp only [hp] | simp -implicitDefEqProofs (disch := omega) only [go_sem, Nat.reduceAdd, Nat.reduceSub, reduceCtorEq, Nat.reduceLT, Nat.reduceLeDiff, Nat.reduceEqDiff, Nat.reduceMul, Int.reduceToNat, ↓reduceIte, List.take_of_length_le, if_pos, if_neg, List.getElem?_set_self, List.set_set, cnE, cnV, Try.ntmps70, Try.results70,  hlt', getD_ints hlt, getD_ints hkb, he])
          exact ⟨a.length - (k + 1), by omega, hI0 _ _ ⟨k + 1, (), mixI rfl, hlt, fun i hi => if h : i = k then by subst h; exact he else g2 i (by omega), rfl⟩⟩
        · repeat' (first | with_reducible first | refine kI (by kernel_rfl) ?_ | refine kN (by kernel_rfl) ?_ | (first | refine kB1 ?_ ?_ | refine kB2 ?_ ?_) <;> intro hp | (first | refine kD1 ?_ ?_ | refine kD2 ?_ ?_ | refine kS1 ?_ ?_ | refine kS2 ?_ ?_) <;> intro hp <;> try simp only [hp] | simp -implicitDefEqProofs (disch := omega) only [go_sem, Nat.reduceAdd, Nat.reduceSub, reduceCtorEq, Nat.reduceLT, Nat.reduceLeDiff, Nat.reduceEqDiff, Nat.reduceMul, Int.reduceToNat, ↓reduceIte, List.take_of_length_le, if_pos, if_neg, List.getElem?_set_self, List.set_set, cnE, cnV, Try.ntmps70, Try.results70,  hlt', getD_ints hlt, getD_ints hkb, he])
          rw [decide_eq_false (fun h => he (by rw [h]))]
      · obtain rfl : k = a.length := by omega
        repeat' (first | with_reducible first | refine kI (by kernel_rfl) ?_ | refine kN (by kernel_rfl) ?_ | (first | refine kB1 ?_ ?_ | refine kB2 ?_ ?_) <;> intro hp | (first | refine kD1 ?_ ?_ | refine kD2 ?_ ?_ | refine kS1 ?_ ?_ | refine kS2 ?_ ?_) <;> intro hp <;> try simp only [hp] | simp -implicitDefEqProofs (disch := omega) only [go_sem, Nat.reduceAdd, Nat.reduceSub, reduceCtorEq, Nat.reduceLT, Nat.reduceLeDiff, Nat.reduceEqDiff, Nat.reduceMul, Int.reduceToNat, ↓reduceIte, List.take_of_length_le, if_pos, if_neg, List.getElem?_set_self, List.set_set, cnE, cnV, Try.ntmps70, Try.results70,  hl'])
        rw [decide_eq_true (ints_ext (by omega) g2)]
  · have hl' : ¬ (a.length : Int) = (b.length : Int) := by omega
    repeat' (first | with_reducible first | refine kI (by kernel_rfl) ?_ | refine kN (by kernel_rfl) ?_ | (first | refine kB1 ?_ ?_ | refine kB2 ?_ ?_) <;> intro hp | (first | refine kD1 ?_ ?_ | refine kD2 ?_ ?_ | refine kS1 ?_ ?_ | refine kS2 ?_ ?_) <;> intro hp <;> try simp only [hp] | simp -implicitDefEqProofs (disch := omega) only [go_sem, Nat.reduceAdd, Nat.reduceSub, reduceCtorEq, Nat.reduceLT, Nat.reduceLeDiff, Nat.reduceEqDiff, Nat.reduceMul, Int.reduceToNat, ↓reduceIte, List.take_of_length_le, if_pos, if_neg, List.getElem?_set_self, List.set_set, cnE, cnV, Try.ntmps70, Try.results70,  hl'])
    rw [decide_eq_false (fun h => hl (by rw [h]))]
set_option maxHeartbeats 2000000 in
set_option maxRecDepth 100000 in
theorem spec_Equal {Sg : FuncId → Option (List AV → Option AV)} (hS : Sound Try.prog Sg) : ∀ a r, F2 gEqInts a = some r → CSpec Try.prog 52 a r := by
  refine spec2 Try.func52 rfl Try.pf hS ?_
  intro a b r hr
  obtain ⟨⟨h1, h2⟩, rfl⟩ := gd_some hr
  by_cases hl : a.length = b.length
  · have hl' : (a.length : Int) = (b.length : Int) := by omega
    repeat' (first | with_reducible first | refine kI (by kernel_rfl) ?_ | refine kN (by kernel_rfl) ?_ | (first | refine kB1 ?_ ?_ | refine kB2 ?_ ?_) <;> intro hp | (first | refine kD1 ?_ ?_ | refine kD2 ?_ ?_ | refine kS1 ?_ ?_ | refine kS2 ?_ ?_) <;> intro hp <;> try simp only [hp] | simp -implicitDefEqProofs (disch := omega) only [go_sem, Nat.reduceAdd, Nat.reduceSub, reduceCtorEq, Nat.reduceLT, Nat.reduceLeDiff, Nat.reduceEqDiff, Nat.reduceMul, Int.reduceToNat, ↓reduceIte, List.take_of_length_le, if_pos, if_neg, List.getElem?_set_self, List.set_set, cnE, cnV, Try.ntmps52, Try.results52,  hl'])
    refine LoopQ.mix (fun t0 L0 nn ss => ∃ (k : Nat) (_ : Unit), (∃ x : Nat → AV, ss = ⟨mixL 0 (.k :: .k :: .k :: .k :: .s :: .s :: .k :: .k :: .k :: .k :: .k :: .k :: .k :: .v (i64 (k : Nat)) :: .s :: .s :: .s :: .s :: .s :: .s :: .s :: .s :: .s :: .s :: .s :: .s :: []) t0 x, L0⟩) ∧ (k ≤ a.length) ∧ (∀ i, i < k → a.getD i 0 = b.getD i 0) ∧ nn = a.length - k) ?_ ?_
    · exact ⟨_, ⟨0, (), mixI rfl, Nat.zero_le _, fun i hi => absurd hi (Nat.not_lt_zero _), rfl⟩⟩
    · rintro I0 hI0 n s ⟨k, _, ⟨x, rfl⟩, g1, g2, rfl⟩
      by_cases hlt : k < a.length
      · have hkb : k < b.length := by omega
        have hlt' : (k : Int) < (b.length : Int) := by omega
        by_cases he : a.getD k 0 = b.getD k 0
        · repeat' (first | with_reducible first | refine kI (by kernel_rfl) ?_ | refine kN (by kernel_rfl) ?_ | (first | refine kB1 ?_ ?_ | refine kB2 ?_ ?_) <;> intro hp | (first | refine kD1 ?_ ?_ | refine kD2 ?_ ?_ | refine kS1 ?_ ?_ | refine kS2 ?_ ?_) <;> intro hp <;> try simp only [hp] | simp -implicitDefEqProofs (disch := omega) only [go_sem, Nat.reduceAdd, Nat.reduceSub, reduceCtorEq, Nat.reduceLT, Nat.reduceLeDiff, Nat.reduceEqDiff, Nat.reduceMul, Int.reduceToNat, ↓reduceIte, List.take_of_length_le, if_pos, if_neg, List.getElem?_set_self, List.set_set, cnE, cnV, Try.ntmps52, Try.results52,  hlt', getD_ints hlt, getD_ints hkb, he])
          exact ⟨a.length - (k + 1), by omega, hI0 _ _ ⟨k + 1, (), mixI rfl, hlt, fun i hi => if h : i = k then by subst h; exact he else g2 i (by omega), rfl⟩⟩
        · repeat' (first | with_reducible first | refine kI (by kernel_rfl) ?_ | refine kN (by kernel_rfl) ?_ | (first | refine kB1 ?_ ?_ | refine kB2 ?_ ?_) <;> intro hp | (first | refine kD1 ?_ ?_ | refine kD2 ?_ ?_ | refine kS1 ?_ ?_ | refine kS2 ?_ ?_) <;> intro hp <;> try simp only [hp] | simp -implicitDefEqProofs (disch := omega) only [go_sem, Nat.reduceAdd, Nat.reduceSub, reduceCtorEq, Nat.reduceLT, Nat.reduceLeDiff, Nat.reduceEqDiff, Nat.reduceMul, Int.reduceToNat, ↓reduceIte, List.take_of_length_le, if_pos, if_neg, List.getElem?_set_self, List.set_set, cnE, cnV, Try.ntmps52, Try.results52,  hlt', getD_ints hlt, getD_ints hkb, he])
          rw [decide_eq_false (fun h => he (by rw [h]))]
      · obtain rfl : k = a.length := by omega
        repeat' (first | with_reducible first | refine kI (by kernel_rfl) ?_ | refine kN (by kernel_rfl) ?_ | (first | refine kB1 ?_ ?_ | refine kB2 ?_ ?_) <;> intro hp | (first | refine kD1 ?_ ?_ | refine kD2 ?_ ?_ | refine kS1 ?_ ?_ | refine kS2 ?_ ?_) <;> intro hp <;> try simp only [hp] | simp -implicitDefEqProofs (disch := omega) only [go_sem, Nat.reduceAdd, Nat.reduceSub, reduceCtorEq, Nat.reduceLT, Nat.reduceLeDiff, Nat.reduceEqDiff, Nat.reduceMul, Int.reduceToNat, ↓reduceIte, List.take_of_length_le, if_pos, if_neg, List.getElem?_set_self, List.set_set, cnE, cnV, Try.ntmps52, Try.results52,  hl'])
        rw [decide_eq_true (ints_ext (by omega) g2)]
  · have hl' : ¬ (a.length : Int) = (b.length : Int) := by omega
    repeat' (first | with_reducible first | refine kI (by kernel_rfl) ?_ | refine kN (by kernel_rfl) ?_ | (first | refine kB1 ?_ ?_ | refine kB2 ?_ ?_) <;> intro hp | (first | refine kD1 ?_ ?_ | refine kD2 ?_ ?_ | refine kS1 ?_ ?_ | refine kS2 ?_ ?_) <;> intro hp <;> try simp only [hp] | simp -implicitDefEqProofs (disch := omega) only [go_sem, Nat.reduceAdd, Nat.reduceSub, reduceCtorEq, Nat.reduceLT, Nat.reduceLeDiff, Nat.reduceEqDiff, Nat.reduceMul, Int.reduceToNat, ↓reduceIte, List.take_of_length_le, if_pos, if_neg, List.getElem?_set_self, List.set_set, cnE, cnV, Try.ntmps52, Try.results52,  hl'])
    rw [decide_eq_false (fun h => hl (by rw [h]))]
def gRowI (s : List Int) : Option (List Int) := gd (s.length ≤ 1048576) (rowI s)
theorem gRowI_eq {s : List Int} (h : s.length ≤ 1048576) : gRowI s = some (rowI s) := gd_eq h
set_option maxHeartbeats 4000000 in
set_option maxRecDepth 100000 in
theorem spec_SameViewI {Sg : FuncId → Option (List AV → Option AV)} (hS : Sound Try.prog Sg) (hv : Sg 51 = some (F1 gValidV)) (ho : Sg 53 = some (F1 gOffsets)) (he : Sg 52 = some (F2 gEqInts)) : ∀ a r, F2 gSame a = some r → CSpec Try.prog 13 a r := by
  refine F2_spec ?_
  intro a b r hr0
  obtain ⟨⟨ha, hb⟩, rfl⟩ := gd_some hr0
  refine CSpec.intro Try.func13 rfl (own _) (vc3_sound Try.pf hS hS _ _ _ ?_)
  have q1 := gValidV_eq (v := a) ha
  have q2 := gValidV_eq (v := b) hb
  have q3 := gEqInts_eq (a := a.sh) (b := b.sh) ⟨ha.1, hb.1⟩
  unfold sameF okk
  cases e1 : viewOK a with
  | false =>
    rw [e1] at q1
    repeat' (first | with_reducible first | refine kI (by kernel_rfl) ?_ | refine kN (by kernel_rfl) ?_ | (first | refine kB1 ?_ ?_ | refine kB2 ?_ ?_) <;> intro hp | (first | refine kD1 ?_ ?_ | refine kD2 ?_ ?_ | refine kS1 ?_ ?_ | refine kS2 ?_ ?_) <;> intro hp <;> try simp only [hp] | simp -implicitDefEqProofs (disch := omega) only [go_sem, Nat.reduceAdd, Nat.reduceSub, reduceCtorEq, Nat.reduceLT, Nat.reduceLeDiff, Nat.reduceEqDiff, Nat.reduceMul, Int.reduceToNat, ↓reduceIte, List.take_of_length_le, if_pos, if_neg, List.getElem?_set_self, List.set_set, cnE, cnV, Try.ntmps13, Try.results13,  hv, q1])
    try rfl
  | true =>
    rw [e1] at q1
    cases e2 : viewOK b with
    | false =>
      rw [e2] at q2
      repeat' (first | with_reducible first | refine kI (by kernel_rfl) ?_ | refine kN (by kernel_rfl) ?_ | (first | refine kB1 ?_ ?_ | refine kB2 ?_ ?_) <;> intro hp | (first | refine kD1 ?_ ?_ | refine kD2 ?_ ?_ | refine kS1 ?_ ?_ | refine kS2 ?_ ?_) <;> intro hp <;> try simp only [hp] | simp -implicitDefEqProofs (disch := omega) only [go_sem, Nat.reduceAdd, Nat.reduceSub, reduceCtorEq, Nat.reduceLT, Nat.reduceLeDiff, Nat.reduceEqDiff, Nat.reduceMul, Int.reduceToNat, ↓reduceIte, List.take_of_length_le, if_pos, if_neg, List.getElem?_set_self, List.set_set, cnE, cnV, Try.ntmps13, Try.results13,  hv, q1, q2])
      try rfl
    | true =>
      rw [e2] at q2
      cases e3 : decide (a.sh = b.sh) with
      | false =>
        rw [e3] at q3
        repeat' (first | with_reducible first | refine kI (by kernel_rfl) ?_ | refine kN (by kernel_rfl) ?_ | (first | refine kB1 ?_ ?_ | refine kB2 ?_ ?_) <;> intro hp | (first | refine kD1 ?_ ?_ | refine kD2 ?_ ?_ | refine kS1 ?_ ?_ | refine kS2 ?_ ?_) <;> intro hp <;> try simp only [hp] | simp -implicitDefEqProofs (disch := omega) only [go_sem, Nat.reduceAdd, Nat.reduceSub, reduceCtorEq, Nat.reduceLT, Nat.reduceLeDiff, Nat.reduceEqDiff, Nat.reduceMul, Int.reduceToNat, ↓reduceIte, List.take_of_length_le, if_pos, if_neg, List.getElem?_set_self, List.set_set, cnE, cnV, Try.ntmps13, Try.results13,  hv, q1, q2, he, q3])
        try rfl
      | true =>
        rw [e3] at q3
        obtain ⟨k1, k2, _⟩ := viewOK_iff.1 e1
        obtain ⟨k3, k4, _⟩ := viewOK_iff.1 e2
        have q4 := gOffsets_eq (v := a) ⟨k1, k2⟩
        have q5 := gOffsets_eq (v := b) ⟨k3, k4⟩
        have h6 := offF_60 k1
        have h7 := offF_60 k3
        have q6 := gEqInts_eq (a := offF a) (b := offF b) ⟨by omega, by omega⟩
        repeat' (first | with_reducible first | refine kI (by kernel_rfl) ?_ | refine kN (by kernel_rfl) ?_ | (first | refine kB1 ?_ ?_ | refine kB2 ?_ ?_) <;> intro hp | (first | refine kD1 ?_ ?_ | refine kD2 ?_ ?_ | refine kS1 ?_ ?_ | refine kS2 ?_ ?_) <;> intro hp <;> try simp only [hp] | simp -implicitDefEqProofs (disch := omega) only [go_sem, Nat.reduceAdd, Nat.reduceSub, reduceCtorEq, Nat.reduceLT, Nat.reduceLeDiff, Nat.reduceEqDiff, Nat.reduceMul, Int.reduceToNat, ↓reduceIte, List.take_of_length_le, if_pos, if_neg, List.getElem?_set_self, List.set_set, cnE, cnV, Try.ntmps13, Try.results13,  hv, q1, q2, he, q3, ho, q4, q5, q6])
        try rfl
theorem rc_abs {bs : List UInt8} {b n : Nat} {f : Int → List Blk} (h : RC bs b n f) : ∃ rL, (∀ p, f p = rL p) ∧ RC bs b n rL := ⟨f, fun _ => rfl, h⟩
end Go.Proofs.Ytgpflkmelindfaa
