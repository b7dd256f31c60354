/- Contracts of functions that the laws of this seat call. -/
import Derived.Test.YtgepbcakcjdmoaaVv
set_option linter.all false
namespace Go.Proofs.Ytgepbcakcjdmoaa
open Go Go.Ev Go.RowKit Go.Ev.Enc Go.Pl

def rowI (s : List Int) : List Int := (List.range s.length).map fun i => prodW (s.drop (i + 1))
theorem rowI_len (s : List Int) : (rowI s).length = s.length := by simp [rowI]
def isRowF (v : Vi) : Bool := viewOK v && decide (offF v = offF ⟨v.b, v.sh, rowI v.sh⟩)
def sameF (a b : Vi) : Bool := okk a b && (decide (a.sh = b.sh) && decide (offF a = offF b))
theorem sameF_iff {a b : Vi} : sameF a b = true ↔ (viewOK a = true ∧ viewOK b = true) ∧ a.sh = b.sh ∧ offF a = offF b := by
  unfold sameF
  rw [Bool.and_eq_true, Bool.and_eq_true, okk_iff, decide_eq_true_eq, decide_eq_true_eq]
theorem divR_0 : ∀ s : List Int, divR s 0 = 0
  | [] => rfl
  | d :: r => by rw [divR, Int.zero_tdiv, divR_0 r]
theorem unrF_0 (s : List Int) (m : Nat) : (unrF s 0).getD m 0 = 0 := by
  by_cases h : m < s.length
  · rw [unrF_at h, divR_0, Int.zero_tmod]
  · rw [List.getD_eq_getElem?_getD, List.getElem?_eq_none (by rw [unrF_len]; omega)]; rfl
theorem offW_0 {v : Vi} (hb : 0 ≤ v.b ∧ v.b ≤ 60) {x : List Int} (hx : ∀ m, x.getD m 0 = 0) : ∀ m, offW v x m = v.b
  | 0 => rfl
  | m + 1 => by
    rw [offW, offW_0 hb hx m, hx m, Int.zero_mul, show IntKind.i64.wrap 0 = 0 from rfl, Int.add_zero, wrap_in (by omega)]
theorem off_first {v : Vi} (h : viewOK v = true) (hz : ¬ prodW v.sh = 0) : (offF v).getD 0 0 = v.b := by
  have hv := viewOK_iff.1 h
  have hs := shape_facts hv.1
  have hp : 0 < (prodW v.sh).toNat := by omega
  have e : (offF v).getD 0 0 = offW v (unrF v.sh ((0 : Nat) : Int)) v.sh.length := by
    unfold offF
    rw [List.getD_eq_getElem?_getD, List.getElem?_map, List.getElem?_range hp]; rfl
  rw [e]
  exact offW_0 hv.2.2.2.1 (fun m => unrF_0 _ m) _
theorem same_row {a b : Vi} (h : sameF a b = true) : isRowF a = isRowF b := by
  obtain ⟨⟨h1, h2⟩, hs, ho⟩ := sameF_iff.1 h
  unfold isRowF
  rw [h1, h2, ho, hs]
  by_cases hz : prodW b.sh = 0
  · rw [offF_zero (v := ⟨a.b, b.sh, rowI b.sh⟩) hz, offF_zero (v := ⟨b.b, b.sh, rowI b.sh⟩) hz]
  · have e : a.b = b.b := by rw [← off_first h1 (hs ▸ hz), ← off_first h2 hz, ho]
    rw [e]
def gSame (a b : Vi) : Option Bool := gd (viB2 a b) (sameF a b)
theorem gSame_eq {a b : Vi} (h : viB2 a b) : gSame a b = some (sameF a b) := gd_eq h
def gIsRow (v : Vi) : Option Bool := gd (viB v) (isRowF v)
theorem gIsRow_eq {v : Vi} (h : viB v) : gIsRow v = some (isRowF v) := gd_eq h
set_option maxHeartbeats 2000000 in
set_option maxRecDepth 100000 in
theorem spec_sameInts {Sg : FuncId → Option (List AV → Option AV)} (hS : Sound Try.prog Sg) : ∀ a r, F2 gEqInts a = some r → CSpec Try.prog 83 a r := by
  refine spec2 Try.func83 rfl Try.pf hS ?_
  intro a b r hr
  obtain ⟨⟨h1, h2⟩, rfl⟩ := gd_some hr
  by_cases hl : a.length = b.length
  · have hl' : (a.length : Int) = (b.length : Int) := by omega
    repeat' (first | with_reducible first | refine kI (by kernel_rfl) ?_ | refine kN (by kernel_rfl) ?_ | (first | refine kB1 ?_ ?_ | refine kB2 ?_ ?_) <;> intro hp | (first | refine kD1 ?_ ?_ | refine kD2 ?_ ?_ | refine kS1 ?_ ?_ | refine kS2 ?_ ?_) <;> intro hp <;> try simp only [hp] | simp -implicitDefEqProofs (disch := omega) only [go_sem, Nat.reduceAdd, Nat.reduceSub, reduceCtorEq, Nat.reduceLT, Nat.reduceLeDiff, Nat.reduceEqDiff, Nat.reduceMul, Int.reduceToNat, ↓reduceIte, List.take_of_length_le, if_pos, if_neg, List.getElem?_set_self, List.set_set, cnE, cnV, Try.ntmps83, Try.results83,  hl'])
    refine LoopQ.mix (fun t0 L0 nn ss => ∃ (k : Nat) (_ : Unit), (∃ x : Nat → AV, ss = ⟨mixL 0 (.k :: .k :: .k :: .k :: .s :: .v (i64 (k : Nat)) :: .k :: .k :: .k :: .k :: .k :: .s :: .s :: .s :: .s :: .s :: .s :: .s :: .s :: .s :: .s :: .s :: .s :: .s :: .s :: .s :: []) t0 x, L0⟩) ∧ (k ≤ a.length) ∧ (∀ i, i < k → a.getD i 0 = b.getD i 0) ∧ nn = a.length - k) ?_ ?_
    · exact ⟨_, ⟨0, (), mixI rfl, Nat.zero_le _, fun i hi => absurd hi (Nat.not_lt_zero _), rfl⟩⟩
    · rintro I0 hI0 n s ⟨k, _, ⟨x, rfl⟩, g1, g2, rfl⟩
      by_cases hlt : k < a.length
      · have hkb : k < b.length := by omega
        have hlt' : (k : Int) < (b.length : Int) := by omega
        by_cases he : a.getD k 0 = b.getD k 0
        · repeat' (first | with_reducible first | refine kI (by kernel_rfl) ?_ | refine kN (by kernel_rfl) ?_ | (first | refine kB1 ?_ ?_ | refine kB2 ?_ ?_) <;> intro hp | (first | refine kD1 ?_ ?_ | refine kD2 ?_ ?_ | refine kS1 ?_ ?_ | refine kS2 ?_ ?_) <;> intro hp <;> try simp only [hp] | simp -implicitDefEqProofs (disch := omega) only [go_sem, Nat.reduceAdd, Nat.reduceSub, reduceCtorEq, Nat.reduceLT, Nat.reduceLeDiff, Nat.reduceEqDiff, Nat.reduceMul, Int.reduceToNat, ↓reduceIte, List.take_of_length_le, if_pos, if_neg, List.getElem?_set_self, List.set_set, cnE, cnV, Try.ntmps83, Try.results83,  hlt', getD_ints hlt, getD_ints hkb, he])
          exact ⟨a.length - (k + 1), by omega, hI0 _ _ ⟨k + 1, (), mixI rfl, hlt, fun i hi => if h : i = k then by subst h; exact he else g2 i (by omega), rfl⟩⟩
        · repeat' (first | with_reducible first | refine kI (by kernel_rfl) ?_ | refine kN (by kernel_rfl) ?_ | (first | refine kB1 ?_ ?_ | refine kB2 ?_ ?_) <;> intro hp | (first | refine kD1 ?_ ?_ | refine kD2 ?_ ?_ | refine kS1 ?_ ?_ | refine kS2 ?_ ?_) <;> intro hp <;> try simp only [hp] | simp -implicitDefEqProofs (disch := omega) only [go_sem, Nat.reduceAdd, Nat.reduceSub, reduceCtorEq, Nat.reduceLT, Nat.reduceLeDiff, Nat.reduceEqDiff, Nat.reduceMul, Int.reduceToNat, ↓reduceIte, List.take_of_length_le, if_pos, if_neg, List.getElem?_set_self, List.set_set, cnE, cnV, Try.ntmps83, Try.results83,  hlt', getD_ints hlt, getD_ints hkb, he])
          rw [decide_eq_false (fun h => he (by rw [h]))]
      · obtain rfl : k = a.length := by omega
        repeat' (first | with_reducible first | refine kI (by kernel_rfl) ?_ | refine kN (by kernel_rfl) ?_ | (first | refine kB1 ?_ ?_ | refine kB2 ?_ ?_) <;> intro hp | (first | refine kD1 ?_ ?_ | refine kD2 ?_ ?_ | refine kS1 ?_ ?_ | refine kS2 ?_ ?_) <;> intro hp <;> try simp only [hp] | simp -implicitDefEqProofs (disch := omega) only [go_sem, Nat.reduceAdd, Nat.reduceSub, reduceCtorEq, Nat.reduceLT, Nat.reduceLeDiff, Nat.reduceEqDiff, Nat.reduceMul, Int.reduceToNat, ↓reduceIte, List.take_of_length_le, if_pos, if_neg, List.getElem?_set_self, List.set_set, cnE, cnV, Try.ntmps83, Try.results83,  hl'])
        rw [decide_eq_true (ints_ext (by omega) g2)]
  · have hl' : ¬ (a.length : Int) = (b.length : Int) := by omega
    repeat' (first | with_reducible first | refine kI (by kernel_rfl) ?_ | refine kN (by kernel_rfl) ?_ | (first | refine kB1 ?_ ?_ | refine kB2 ?_ ?_) <;> intro hp | (first | refine kD1 ?_ ?_ | refine kD2 ?_ ?_ | refine kS1 ?_ ?_ | refine kS2 ?_ ?_) <;> intro hp <;> try simp only [hp] | simp -implicitDefEqProofs (disch := omega) only [go_sem, Nat.reduceAdd, Nat.reduceSub, reduceCtorEq, Nat.reduceLT, Nat.reduceLeDiff, Nat.reduceEqDiff, Nat.reduceMul, Int.reduceToNat, ↓reduceIte, List.take_of_length_le, if_pos, if_neg, List.getElem?_set_self, List.set_set, cnE, cnV, Try.ntmps83, Try.results83,  hl'])
    rw [decide_eq_false (fun h => hl (by rw [h]))]
set_option maxHeartbeats 2000000 in
set_option maxRecDepth 100000 in
theorem spec_Equal {Sg : FuncId → Option (List AV → Option AV)} (hS : Sound Try.prog Sg) : ∀ a r, F2 gEqInts a = some r → CSpec Try.prog 82 a r := by
  refine spec2 Try.func82 rfl Try.pf hS ?_
  intro a b r hr
  obtain ⟨⟨h1, h2⟩, rfl⟩ := gd_some hr
  by_cases hl : a.length = b.length
  · have hl' : (a.length : Int) = (b.length : Int) := by omega
    repeat' (first | with_reducible first | refine kI (by kernel_rfl) ?_ | refine kN (by kernel_rfl) ?_ | (first | refine kB1 ?_ ?_ | refine kB2 ?_ ?_) <;> intro hp | (first | refine kD1 ?_ ?_ | refine kD2 ?_ ?_ | refine kS1 ?_ ?_ | refine kS2 ?_ ?_) <;> intro hp <;> try simp only [hp] | simp -implicitDefEqProofs (disch := omega) only [go_sem, Nat.reduceAdd, Nat.reduceSub, reduceCtorEq, Nat.reduceLT, Nat.reduceLeDiff, Nat.reduceEqDiff, Nat.reduceMul, Int.reduceToNat, ↓reduceIte, List.take_of_length_le, if_pos, if_neg, List.getElem?_set_self, List.set_set, cnE, cnV, Try.ntmps82, Try.results82,  hl'])
    refine LoopQ.mix (fun t0 L0 nn ss => ∃ (k : Nat) (_ : Unit), (∃ x : Nat → AV, ss = ⟨mixL 0 (.k :: .k :: .k :: .k :: .s :: .s :: .k :: .k :: .k :: .k :: .k :: .k :: .k :: .v (i64 (k : Nat)) :: .s :: .s :: .s :: .s :: .s :: .s :: .s :: .s :: .s :: .s :: .s :: .s :: []) t0 x, L0⟩) ∧ (k ≤ a.length) ∧ (∀ i, i < k → a.getD i 0 = b.getD i 0) ∧ nn = a.length - k) ?_ ?_
    · exact ⟨_, ⟨0, (), mixI rfl, Nat.zero_le _, fun i hi => absurd hi (Nat.not_lt_zero _), rfl⟩⟩
    · rintro I0 hI0 n s ⟨k, _, ⟨x, rfl⟩, g1, g2, rfl⟩
      by_cases hlt : k < a.length
      · have hkb : k < b.length := by omega
        have hlt' : (k : Int) < (b.length : Int) := by omega
        by_cases he : a.getD k 0 = b.getD k 0
        · repeat' (first | with_reducible first | refine kI (by kernel_rfl) ?_ | refine kN (by kernel_rfl) ?_ | (first | refine kB1 ?_ ?_ | refine kB2 ?_ ?_) <;> intro hp | (first | refine kD1 ?_ ?_ | refine kD2 ?_ ?_ | refine kS1 ?_ ?_ | refine kS2 ?_ ?_) <;> intro hp <;> try simp only [hp] | simp -implicitDefEqProofs (disch := omega) only [go_sem, Nat.reduceAdd, Nat.reduceSub, reduceCtorEq, Nat.reduceLT, Nat.reduceLeDiff, Nat.reduceEqDiff, Nat.reduceMul, Int.reduceToNat, ↓reduceIte, List.take_of_length_le, if_pos, if_neg, List.getElem?_set_self, List.set_set, cnE, cnV, Try.ntmps82, Try.results82,  hlt', getD_ints hlt, getD_ints hkb, he])
          exact ⟨a.length - (k + 1), by omega, hI0 _ _ ⟨k + 1, (), mixI rfl, hlt, fun i hi => if h : i = k then by subst h; exact he else g2 i (by omega), rfl⟩⟩
        · repeat' (first | with_reducible first | refine kI (by kernel_rfl) ?_ | refine kN (by kernel_rfl) ?_ | (first | refine kB1 ?_ ?_ | refine kB2 ?_ ?_) <;> intro hp | (first | refine kD1 ?_ ?_ | refine kD2 ?_ ?_ | refine kS1 ?_ ?_ | refine kS2 ?_ ?_) <;> intro hp <;> try simp only [hp] | simp -implicitDefEqProofs (disch := omega) only [go_sem, Nat.reduceAdd, Nat.reduceSub, reduceCtorEq, Nat.reduceLT, Nat.reduceLeDiff, Nat.reduceEqDiff, Nat.reduceMul, Int.reduceToNat, ↓reduceIte, List.take_of_length_le, if_pos, if_neg, List.getElem?_set_self, List.set_set, cnE, cnV, Try.ntmps82, Try.results82,  hlt', getD_ints hlt, getD_ints hkb, he])
          rw [decide_eq_false (fun h => he (by rw [h]))]
      · obtain rfl : k = a.length := by omega
        repeat' (first | with_reducible first | refine kI (by kernel_rfl) ?_ | refine kN (by kernel_rfl) ?_ | (first | refine kB1 ?_ ?_ | refine kB2 ?_ ?_) <;> intro hp | (first | refine kD1 ?_ ?_ | refine kD2 ?_ ?_ | refine kS1 ?_ ?_ | refine kS2 ?_ ?_) <;> intro hp <;> try simp only [hp] | simp -implicitDefEqProofs (disch := omega) only [go_sem, Nat.reduceAdd, Nat.reduceSub, reduceCtorEq, Nat.reduceLT, Nat.reduceLeDiff, Nat.reduceEqDiff, Nat.reduceMul, Int.reduceToNat, ↓reduceIte, List.take_of_length_le, if_pos, if_neg, List.getElem?_set_self, List.set_set, cnE, cnV, Try.ntmps82, Try.results82,  hl'])
        rw [decide_eq_true (ints_ext (by omega) g2)]
  · have hl' : ¬ (a.length : Int) = (b.length : Int) := by omega
    repeat' (first | with_reducible first | refine kI (by kernel_rfl) ?_ | refine kN (by kernel_rfl) ?_ | (first | refine kB1 ?_ ?_ | refine kB2 ?_ ?_) <;> intro hp | (first | refine kD1 ?_ ?_ | refine kD2 ?_ ?_ | refine kS1 ?_ ?_ | refine kS2 ?_ ?_) <;> intro hp <;> try simp only [hp] | simp -implicitDefEqProofs (disch := omega) only [go_sem, Nat.reduceAdd, Nat.reduceSub, reduceCtorEq, Nat.reduceLT, Nat.reduceLeDiff, Nat.reduceEqDiff, Nat.reduceMul, Int.reduceToNat, ↓reduceIte, List.take_of_length_le, if_pos, if_neg, List.getElem?_set_self, List.set_set, cnE, cnV, Try.ntmps82, Try.results82,  hl'])
    rw [decide_eq_false (fun h => hl (by rw [h]))]
def gRowI (s : List Int) : Option (List Int) := gd (s.length ≤ 1048576) (rowI s)
theorem gRowI_eq {s : List Int} (h : s.length ≤ 1048576) : gRowI s = some (rowI s) := gd_eq h
set_option maxHeartbeats 2000000 in
set_option maxRecDepth 100000 in
theorem spec_rowStridesI {Sg : FuncId → Option (List AV → Option AV)} (hS : Sound Try.prog Sg) (hc : Sg 74 = some (F1 gCountOf)) : ∀ a r, F1 gRowI a = some r → CSpec Try.prog 84 a r := by
  refine spec1 Try.func84 rfl Try.pf hS ?_
  intro s r hr
  obtain ⟨h1, rfl⟩ := gd_some hr
  have hl := rowI_len s
  repeat' (first | with_reducible first | refine kI (by kernel_rfl) ?_ | refine kN (by kernel_rfl) ?_ | (first | refine kB1 ?_ ?_ | refine kB2 ?_ ?_) <;> intro hp | (first | refine kD1 ?_ ?_ | refine kD2 ?_ ?_ | refine kS1 ?_ ?_ | refine kS2 ?_ ?_) <;> intro hp <;> try simp only [hp] | simp -implicitDefEqProofs (disch := omega) only [go_sem, Nat.reduceAdd, Nat.reduceSub, reduceCtorEq, Nat.reduceLT, Nat.reduceLeDiff, Nat.reduceEqDiff, Nat.reduceMul, Int.reduceToNat, ↓reduceIte, List.take_of_length_le, if_pos, if_neg, List.getElem?_set_self, List.set_set, cnE, cnV, Try.ntmps84, Try.results84])
  refine LoopQ.mix (fun t0 L0 nn ss => ∃ (k : Nat) (_ : Unit), (∃ x : Nat → AV, ss = ⟨mixL 0 (.k :: .k :: .k :: .k :: .s :: .k :: .k :: .k :: .k :: .k :: .v (i64 (k : Nat)) :: .s :: .s :: .s :: .s :: .s :: .s :: .s :: .s :: .s :: .s :: .s :: .k :: []) t0 x, [⟨1, fillA (fun n => .int .i64 n) (rowI s) k (.int .i64 0)⟩]⟩) ∧ (k ≤ s.length) ∧ nn = s.length - k) ?_ ?_
  · exact ⟨_, ⟨0, (), mixJ rfl (by rw [fillA_zero, rep_ints, hl]), Nat.zero_le _, rfl⟩⟩
  · rintro I0 hI0 nn ss ⟨k, _, ⟨x, rfl⟩, g1, rfl⟩
    by_cases hk : k < s.length
    · have q1 := gCountOf_eq (l := s.drop (k + 1)) (by rw [List.length_drop]; omega)
      have hg : (rowI s).getD k 0 = prodW (s.drop (k + 1)) := by simp [rowI, hk]
      have hs := fillA_set (f := fun n => AV.int .i64 n) (l := rowI s) (k := k) (z := .int .i64 0) (d := 0) (by omega)
      rw [hg] at hs
      have hfl := fillA_len (f := fun n => AV.int .i64 n) (l := rowI s) (k := k) (z := .int .i64 0) (by omega)
      rw [hl] at hfl
      have htn : ((k : Int) + 1).toNat = k + 1 := by omega
      repeat' (first | with_reducible first | refine kI (by kernel_rfl) ?_ | refine kN (by kernel_rfl) ?_ | (first | refine kB1 ?_ ?_ | refine kB2 ?_ ?_) <;> intro hp | (first | refine kD1 ?_ ?_ | refine kD2 ?_ ?_ | refine kS1 ?_ ?_ | refine kS2 ?_ ?_) <;> intro hp <;> try simp only [hp] | simp -implicitDefEqProofs (disch := omega) only [go_sem, Nat.reduceAdd, Nat.reduceSub, reduceCtorEq, Nat.reduceLT, Nat.reduceLeDiff, Nat.reduceEqDiff, Nat.reduceMul, Int.reduceToNat, ↓reduceIte, List.take_of_length_le, if_pos, if_neg, List.getElem?_set_self, List.set_set, cnE, cnV, Try.ntmps84, Try.results84,  hc, htn, q1, hs, hfl])
      exact ⟨s.length - (k + 1), by omega, hI0 _ _ ⟨k + 1, (), mixI rfl, hk, rfl⟩⟩
    · obtain rfl : k = s.length := by omega
      have hf : fillA (fun n => AV.int .i64 n) (rowI s) s.length (.int .i64 0) = (rowI s).map fun n => .int .i64 n := by rw [← hl, fillA_full]
      rw [hf]
      repeat' (first | with_reducible first | refine kI (by kernel_rfl) ?_ | refine kN (by kernel_rfl) ?_ | (first | refine kB1 ?_ ?_ | refine kB2 ?_ ?_) <;> intro hp | (first | refine kD1 ?_ ?_ | refine kD2 ?_ ?_ | refine kS1 ?_ ?_ | refine kS2 ?_ ?_) <;> intro hp <;> try simp only [hp] | simp -implicitDefEqProofs (disch := omega) only [go_sem, Nat.reduceAdd, Nat.reduceSub, reduceCtorEq, Nat.reduceLT, Nat.reduceLeDiff, Nat.reduceEqDiff, Nat.reduceMul, Int.reduceToNat, ↓reduceIte, List.take_of_length_le, if_pos, if_neg, List.getElem?_set_self, List.set_set, cnE, cnV, Try.ntmps84, Try.results84,  hl])
set_option maxHeartbeats 4000000 in
set_option maxRecDepth 100000 in
theorem spec_IsRowI {Sg : FuncId → Option (List AV → Option AV)} (hS : Sound Try.prog Sg) (hv : Sg 63 = some (F1 gValidV)) (ho : Sg 68 = some (F1 gOffsets)) (hr : Sg 84 = some (F1 gRowI)) (he : Sg 82 = some (F2 gEqInts)) : ∀ a r, F1 gIsRow a = some r → CSpec Try.prog 35 a r := by
  refine F1_spec ?_
  intro v r hr0
  obtain ⟨h, rfl⟩ := gd_some hr0
  refine CSpec.intro Try.func35 rfl (own _) (vc3_sound Try.pf hS hS _ _ _ ?_)
  have q1 := gValidV_eq (v := v) h
  unfold isRowF
  cases e1 : viewOK v with
  | false =>
    rw [e1] at q1
    repeat' (first | with_reducible first | refine kI (by kernel_rfl) ?_ | refine kN (by kernel_rfl) ?_ | (first | refine kB1 ?_ ?_ | refine kB2 ?_ ?_) <;> intro hp | (first | refine kD1 ?_ ?_ | refine kD2 ?_ ?_ | refine kS1 ?_ ?_ | refine kS2 ?_ ?_) <;> intro hp <;> try simp only [hp] | simp -implicitDefEqProofs (disch := omega) only [go_sem, Nat.reduceAdd, Nat.reduceSub, reduceCtorEq, Nat.reduceLT, Nat.reduceLeDiff, Nat.reduceEqDiff, Nat.reduceMul, Int.reduceToNat, ↓reduceIte, List.take_of_length_le, if_pos, if_neg, List.getElem?_set_self, List.set_set, cnE, cnV, Try.ntmps35, Try.results35,  hv, q1])
    try rfl
  | true =>
    rw [e1] at q1
    obtain ⟨k1, k2, _⟩ := viewOK_iff.1 e1
    have sf := shape_facts k1
    have q2 := gOffsets_eq (v := v) ⟨k1, k2⟩
    have q3 := gRowI_eq (s := v.sh) (by omega)
    have q4 := gOffsets_eq (v := ⟨v.b, v.sh, rowI v.sh⟩) ⟨k1, rowI_len _⟩
    have h6 := offF_60 k1
    have h7 := offF_60 (v := ⟨v.b, v.sh, rowI v.sh⟩) k1
    have q5 := gEqInts_eq (a := offF v) (b := offF ⟨v.b, v.sh, rowI v.sh⟩) ⟨by omega, by omega⟩
    repeat' (first | with_reducible first | refine kI (by kernel_rfl) ?_ | refine kN (by kernel_rfl) ?_ | (first | refine kB1 ?_ ?_ | refine kB2 ?_ ?_) <;> intro hp | (first | refine kD1 ?_ ?_ | refine kD2 ?_ ?_ | refine kS1 ?_ ?_ | refine kS2 ?_ ?_) <;> intro hp <;> try simp only [hp] | simp -implicitDefEqProofs (disch := omega) only [go_sem, Nat.reduceAdd, Nat.reduceSub, reduceCtorEq, Nat.reduceLT, Nat.reduceLeDiff, Nat.reduceEqDiff, Nat.reduceMul, Int.reduceToNat, ↓reduceIte, List.take_of_length_le, if_pos, if_neg, List.getElem?_set_self, List.set_set, cnE, cnV, Try.ntmps35, Try.results35,  hv, q1, ho, q2, hr, q3, q4, he, q5])
    try rfl
set_option maxHeartbeats 4000000 in
set_option maxRecDepth 100000 in
theorem spec_SameViewS {Sg : FuncId → Option (List AV → Option AV)} (hS : Sound Try.prog Sg) (hv : Sg 65 = some (F1 gValidV)) (ho : Sg 67 = some (F1 gOffsets)) (he : Sg 83 = some (F2 gEqInts)) : ∀ a r, F2 gSame a = some r → CSpec Try.prog 34 a r := by
  refine F2_spec ?_
  intro a b r hr0
  obtain ⟨⟨ha, hb⟩, rfl⟩ := gd_some hr0
  refine CSpec.intro Try.func34 rfl (own _) (vc3_sound Try.pf hS hS _ _ _ ?_)
  have q1 := gValidV_eq (v := a) ha
  have q2 := gValidV_eq (v := b) hb
  have q3 := gEqInts_eq (a := a.sh) (b := b.sh) ⟨ha.1, hb.1⟩
  unfold sameF okk
  cases e1 : viewOK a with
  | false =>
    rw [e1] at q1
    repeat' (first | with_reducible first | refine kI (by kernel_rfl) ?_ | refine kN (by kernel_rfl) ?_ | (first | refine kB1 ?_ ?_ | refine kB2 ?_ ?_) <;> intro hp | (first | refine kD1 ?_ ?_ | refine kD2 ?_ ?_ | refine kS1 ?_ ?_ | refine kS2 ?_ ?_) <;> intro hp <;> try simp only [hp] | simp -implicitDefEqProofs (disch := omega) only [go_sem, Nat.reduceAdd, Nat.reduceSub, reduceCtorEq, Nat.reduceLT, Nat.reduceLeDiff, Nat.reduceEqDiff, Nat.reduceMul, Int.reduceToNat, ↓reduceIte, List.take_of_length_le, if_pos, if_neg, List.getElem?_set_self, List.set_set, cnE, cnV, Try.ntmps34, Try.results34,  hv, q1])
    try rfl
  | true =>
    rw [e1] at q1
    cases e2 : viewOK b with
    | false =>
      rw [e2] at q2
      repeat' (first | with_reducible first | refine kI (by kernel_rfl) ?_ | refine kN (by kernel_rfl) ?_ | (first | refine kB1 ?_ ?_ | refine kB2 ?_ ?_) <;> intro hp | (first | refine kD1 ?_ ?_ | refine kD2 ?_ ?_ | refine kS1 ?_ ?_ | refine kS2 ?_ ?_) <;> intro hp <;> try simp only [hp] | simp -implicitDefEqProofs (disch := omega) only [go_sem, Nat.reduceAdd, Nat.reduceSub, reduceCtorEq, Nat.reduceLT, Nat.reduceLeDiff, Nat.reduceEqDiff, Nat.reduceMul, Int.reduceToNat, ↓reduceIte, List.take_of_length_le, if_pos, if_neg, List.getElem?_set_self, List.set_set, cnE, cnV, Try.ntmps34, Try.results34,  hv, q1, q2])
      try rfl
    | true =>
      rw [e2] at q2
      cases e3 : decide (a.sh = b.sh) with
      | false =>
        rw [e3] at q3
        repeat' (first | with_reducible first | refine kI (by kernel_rfl) ?_ | refine kN (by kernel_rfl) ?_ | (first | refine kB1 ?_ ?_ | refine kB2 ?_ ?_) <;> intro hp | (first | refine kD1 ?_ ?_ | refine kD2 ?_ ?_ | refine kS1 ?_ ?_ | refine kS2 ?_ ?_) <;> intro hp <;> try simp only [hp] | simp -implicitDefEqProofs (disch := omega) only [go_sem, Nat.reduceAdd, Nat.reduceSub, reduceCtorEq, Nat.reduceLT, Nat.reduceLeDiff, Nat.reduceEqDiff, Nat.reduceMul, Int.reduceToNat, ↓reduceIte, List.take_of_length_le, if_pos, if_neg, List.getElem?_set_self, List.set_set, cnE, cnV, Try.ntmps34, Try.results34,  hv, q1, q2, he, q3])
        try rfl
      | true =>
        rw [e3] at q3
        obtain ⟨k1, k2, _⟩ := viewOK_iff.1 e1
        obtain ⟨k3, k4, _⟩ := viewOK_iff.1 e2
        have q4 := gOffsets_eq (v := a) ⟨k1, k2⟩
        have q5 := gOffsets_eq (v := b) ⟨k3, k4⟩
        have h6 := offF_60 k1
        have h7 := offF_60 k3
        have q6 := gEqInts_eq (a := offF a) (b := offF b) ⟨by omega, by omega⟩
        repeat' (first | with_reducible first | refine kI (by kernel_rfl) ?_ | refine kN (by kernel_rfl) ?_ | (first | refine kB1 ?_ ?_ | refine kB2 ?_ ?_) <;> intro hp | (first | refine kD1 ?_ ?_ | refine kD2 ?_ ?_ | refine kS1 ?_ ?_ | refine kS2 ?_ ?_) <;> intro hp <;> try simp only [hp] | simp -implicitDefEqProofs (disch := omega) only [go_sem, Nat.reduceAdd, Nat.reduceSub, reduceCtorEq, Nat.reduceLT, Nat.reduceLeDiff, Nat.reduceEqDiff, Nat.reduceMul, Int.reduceToNat, ↓reduceIte, List.take_of_length_le, if_pos, if_neg, List.getElem?_set_self, List.set_set, cnE, cnV, Try.ntmps34, Try.results34,  hv, q1, q2, he, q3, ho, q4, q5, q6])
        try rfl
set_option maxHeartbeats 4000000 in
set_option maxRecDepth 100000 in
theorem spec_SameViewI {Sg : FuncId → Option (List AV → Option AV)} (hS : Sound Try.prog Sg) (hv : Sg 63 = some (F1 gValidV)) (ho : Sg 68 = some (F1 gOffsets)) (he : Sg 82 = some (F2 gEqInts)) : ∀ a r, F2 gSame a = some r → CSpec Try.prog 33 a r := by
  refine F2_spec ?_
  intro a b r hr0
  obtain ⟨⟨ha, hb⟩, rfl⟩ := gd_some hr0
  refine CSpec.intro Try.func33 rfl (own _) (vc3_sound Try.pf hS hS _ _ _ ?_)
  have q1 := gValidV_eq (v := a) ha
  have q2 := gValidV_eq (v := b) hb
  have q3 := gEqInts_eq (a := a.sh) (b := b.sh) ⟨ha.1, hb.1⟩
  unfold sameF okk
  cases e1 : viewOK a with
  | false =>
    rw [e1] at q1
    repeat' (first | with_reducible first | refine kI (by kernel_rfl) ?_ | refine kN (by kernel_rfl) ?_ | (first | refine kB1 ?_ ?_ | refine kB2 ?_ ?_) <;> intro hp | (first | refine kD1 ?_ ?_ | refine kD2 ?_ ?_ | refine kS1 ?_ ?_ | refine kS2 ?_ ?_) <;> intro hp <;> try simp only [hp] | simp -implicitDefEqProofs (disch := omega) only [go_sem, Nat.reduceAdd, Nat.reduceSub, reduceCtorEq, Nat.reduceLT, Nat.reduceLeDiff, Nat.reduceEqDiff, Nat.reduceMul, Int.reduceToNat, ↓reduceIte, List.take_of_length_le, if_pos, if_neg, List.getElem?_set_self, List.set_set, cnE, cnV, Try.ntmps33, Try.results33,  hv, q1])
    try rfl
  | true =>
    rw [e1] at q1
    cases e2 : viewOK b with
    | false =>
      rw [e2] at q2
      repeat' (first | with_reducible first | refine kI (by kernel_rfl) ?_ | refine kN (by kernel_rfl) ?_ | (first | refine kB1 ?_ ?_ | refine kB2 ?_ ?_) <;> intro hp | (first | refine kD1 ?_ ?_ | refine kD2 ?_ ?_ | refine kS1 ?_ ?_ | refine kS2 ?_ ?_) <;> intro hp <;> try simp only [hp] | simp -implicitDefEqProofs (disch := omega) only [go_sem, Nat.reduceAdd, Nat.reduceSub, reduceCtorEq, Nat.reduceLT, Nat.reduceLeDiff, Nat.reduceEqDiff, Nat.reduceMul, Int.reduceToNat, ↓reduceIte, List.take_of_length_le, if_pos, if_neg, List.getElem?_set_self, List.set_set, cnE, cnV, Try.ntmps33, Try.results33,  hv, q1, q2])
      try rfl
    | true =>
      rw [e2] at q2
      cases e3 : decide (a.sh = b.sh) with
      | false =>
        rw [e3] at q3
        repeat' (first | with_reducible first | refine kI (by kernel_rfl) ?_ | refine kN (by kernel_rfl) ?_ | (first | refine kB1 ?_ ?_ | refine kB2 ?_ ?_) <;> intro hp | (first | refine kD1 ?_ ?_ | refine kD2 ?_ ?_ | refine kS1 ?_ ?_ | refine kS2 ?_ ?_) <;> intro hp <;> try simp only [hp] | simp -implicitDefEqProofs (disch := omega) only [go_sem, Nat.reduceAdd, Nat.reduceSub, reduceCtorEq, Nat.reduceLT, Nat.reduceLeDiff, Nat.reduceEqDiff, Nat.reduceMul, Int.reduceToNat, ↓reduceIte, List.take_of_length_le, if_pos, if_neg, List.getElem?_set_self, List.set_set, cnE, cnV, Try.ntmps33, Try.results33,  hv, q1, q2, he, q3])
        try rfl
      | true =>
        rw [e3] at q3
        obtain ⟨k1, k2, _⟩ := viewOK_iff.1 e1
        obtain ⟨k3, k4, _⟩ := viewOK_iff.1 e2
        have q4 := gOffsets_eq (v := a) ⟨k1, k2⟩
        have q5 := gOffsets_eq (v := b) ⟨k3, k4⟩
        have h6 := offF_60 k1
        have h7 := offF_60 k3
        have q6 := gEqInts_eq (a := offF a) (b := offF b) ⟨by omega, by omega⟩
        repeat' (first | with_reducible first | refine kI (by kernel_rfl) ?_ | refine kN (by kernel_rfl) ?_ | (first | refine kB1 ?_ ?_ | refine kB2 ?_ ?_) <;> intro hp | (first | refine kD1 ?_ ?_ | refine kD2 ?_ ?_ | refine kS1 ?_ ?_ | refine kS2 ?_ ?_) <;> intro hp <;> try simp only [hp] | simp -implicitDefEqProofs (disch := omega) only [go_sem, Nat.reduceAdd, Nat.reduceSub, reduceCtorEq, Nat.reduceLT, Nat.reduceLeDiff, Nat.reduceEqDiff, Nat.reduceMul, Int.reduceToNat, ↓reduceIte, List.take_of_length_le, if_pos, if_neg, List.getElem?_set_self, List.set_set, cnE, cnV, Try.ntmps33, Try.results33,  hv, q1, q2, he, q3, ho, q4, q5, q6])
        try rfl
theorem can_DrawSameView : CanCall Try.prog 32 := ⟨_, Try.func32, rfl, rfl⟩
set_option maxHeartbeats 8000000 in
set_option maxRecDepth 100000 in
theorem law_SameView {Sg Sd : FuncId → Option (List AV → Option AV)} (hS : Sound Try.prog Sg) (hD : Sound Try.prog Sd) (n1 : Sg 32 = none) (h1 : Sg 33 = some (F2 gSame)) (h2 : Sg 34 = some (F2 gSame)) (d1 : Sd 33 = some (F2 gSame)) (d2 : Sd 23 = some (F2 gEqInts)) (d3 : Sd 19 = some (F1 gRep)) (d4 : Sd 35 = some (F1 gIsRow)) (hDr : DrTwo 32) : ∀ a r, F1 gTrueW a = some r → CSpec Try.prog 6 a r := by
  refine F1_spec ?_
  intro bs r hr
  obtain ⟨g1, rfl⟩ := gd_some hr
  refine law3 Try.func6 rfl Try.pf hS hD ?_
  by_cases hb : 1048576 < bs.length
  · repeat' (first | with_reducible first | refine kI (by kernel_rfl) ?_ | refine kN (by kernel_rfl) ?_ | (first | refine kB1 ?_ ?_ | refine kB2 ?_ ?_) <;> intro hp | (first | refine kD1 ?_ ?_ | refine kD2 ?_ ?_ | refine kS1 ?_ ?_ | refine kS2 ?_ ?_) <;> intro hp <;> try simp only [hp] | simp -implicitDefEqProofs (disch := omega) only [go_sem, Nat.reduceAdd, Nat.reduceSub, reduceCtorEq, Nat.reduceLT, Nat.reduceLeDiff, Nat.reduceEqDiff, Nat.reduceMul, Int.reduceToNat, ↓reduceIte, List.take_of_length_le, if_pos, if_neg, List.getElem?_set_self, List.set_set, cnE, cnV, Try.ntmps6, Try.results6])
  · repeat' (first | with_reducible first | refine kI (by kernel_rfl) ?_ | refine kN (by kernel_rfl) ?_ | (first | refine kB1 ?_ ?_ | refine kB2 ?_ ?_) <;> intro hp | (first | refine kD1 ?_ ?_ | refine kD2 ?_ ?_ | refine kS1 ?_ ?_ | refine kS2 ?_ ?_) <;> intro hp <;> try simp only [hp] | simp -implicitDefEqProofs (disch := omega) only [go_sem, Nat.reduceAdd, Nat.reduceSub, reduceCtorEq, Nat.reduceLT, Nat.reduceLeDiff, Nat.reduceEqDiff, Nat.reduceMul, Int.reduceToNat, ↓reduceIte, List.take_of_length_le, if_pos, if_neg, List.getElem?_set_self, List.set_set, cnE, cnV, Try.ntmps6, Try.results6,  n1, opQ_none])
    refine InlK_intro rfl rfl can_DrawSameView ((hDr bs (by omega) _).mono ?_)
    rintro r L1 ⟨a, b, ⟨⟨k1, k2⟩, ⟨k3, k4⟩⟩, rfl, rfl⟩
    have hab : viB2 a b := ⟨⟨by omega, by omega⟩, ⟨by omega, by omega⟩⟩
    have hba : viB2 b a := ⟨hab.2, hab.1⟩
    have haa : viB2 a a := ⟨hab.1, hab.1⟩
    have q1 := gSame_eq hab
    have q2 := gSame_eq hba
    have q3 := gSame_eq haa
    have q4 := gRep_eq hab.1
    have q5 := gRep_eq hab.2
    have q6 := gIsRow_eq hab.1
    have q7 := gIsRow_eq hab.2
    cases es : sameF a b with
    | false =>
      rw [es] at q1
      repeat' (first | with_reducible first | refine kI (by kernel_rfl) ?_ | refine kN (by kernel_rfl) ?_ | (first | refine kB1 ?_ ?_ | refine kB2 ?_ ?_) <;> intro hp | (first | refine kD1 ?_ ?_ | refine kD2 ?_ ?_ | refine kS1 ?_ ?_ | refine kS2 ?_ ?_) <;> intro hp <;> try simp only [hp] | simp -implicitDefEqProofs (disch := omega) only [go_sem, Nat.reduceAdd, Nat.reduceSub, reduceCtorEq, Nat.reduceLT, Nat.reduceLeDiff, Nat.reduceEqDiff, Nat.reduceMul, Int.reduceToNat, ↓reduceIte, List.take_of_length_le, if_pos, if_neg, List.getElem?_set_self, List.set_set, cnE, cnV, Try.ntmps6, Try.results6,  h1, q1, h2])
    | true =>
      obtain ⟨⟨e1, e2⟩, hs, ho⟩ := sameF_iff.1 es
      rw [es] at q1
      rw [sameF_iff.2 ⟨⟨e2, e1⟩, hs.symm, ho.symm⟩] at q2
      rw [sameF_iff.2 ⟨⟨e1, e1⟩, rfl, rfl⟩] at q3
      rw [e1, if_pos rfl] at q4
      rw [e2, if_pos rfl, ← ho] at q5
      rw [same_row es] at q6
      have hl := rep_len (offF a)
      have q8 : gEqInts (repF (offF a)) (repF (offF a)) = some true := (gEqInts_eq ⟨by omega, by omega⟩).trans (by simp)
      generalize repF (offF a) = R at *
      generalize isRowF b = z at *
      repeat' (first | with_reducible first | refine kI (by kernel_rfl) ?_ | refine kN (by kernel_rfl) ?_ | (first | refine kB1 ?_ ?_ | refine kB2 ?_ ?_) <;> intro hp | (first | refine kD1 ?_ ?_ | refine kD2 ?_ ?_ | refine kS1 ?_ ?_ | refine kS2 ?_ ?_) <;> intro hp <;> try simp only [hp] | simp -implicitDefEqProofs (disch := omega) only [go_sem, Nat.reduceAdd, Nat.reduceSub, reduceCtorEq, Nat.reduceLT, Nat.reduceLeDiff, Nat.reduceEqDiff, Nat.reduceMul, Int.reduceToNat, ↓reduceIte, List.take_of_length_le, if_pos, if_neg, List.getElem?_set_self, List.set_set, cnE, cnV, Try.ntmps6, Try.results6,  h1, q1, h2, d1, q2, q3, d2, q8, d3, q4, q5, d4, q6, q7])
theorem rc_abs {bs : List UInt8} {b n : Nat} {f : Int → List Blk} (h : RC bs b n f) : ∃ rL, (∀ p, f p = rL p) ∧ RC bs b n rL := ⟨f, fun _ => rfl, h⟩
set_option maxHeartbeats 4000000 in
set_option maxRecDepth 100000 in
theorem isp_DrawSameView {Sg : FuncId → Option (List AV → Option AV)} (hS : Sound Try.prog Sg) (h0 : Sg 80 = none) (h1 : Sg 81 = none) (h5 : Sg 79 = none) (h6 : Sg 62 = none) (h7 : Sg 61 = none) (bs : List UInt8) (hb : bs.length ≤ 1048576) (L : List Blk) (hsv : SomeV) (hcv : CopyVi) : ISpec Try.prog 32 [bytesA 0 bs] (L) (fun r L' => ∃ a b : Vi, ((a.sh.length ≤ 4 ∧ a.st.length ≤ 5) ∧ (b.sh.length ≤ 4 ∧ b.st.length ≤ 5)) ∧ r = .tup [viD a, viD b] ∧ L' = L) := by
  refine ISpec.ret Try.func32 rfl (vc3_sound Try.pf hS hS _ _ _ ?_)
  repeat' (first | with_reducible first | refine kI (by kernel_rfl) ?_ | (first | refine kB1 ?_ ?_ | refine kB2 ?_ ?_) <;> intro hp | (first | refine kD1 ?_ ?_ | refine kD2 ?_ ?_ | refine kS1 ?_ ?_ | refine kS2 ?_ ?_) <;> intro hp <;> try simp only [hp] | simp -implicitDefEqProofs (disch := omega) only [go_sem, Nat.reduceAdd, Nat.reduceSub, reduceCtorEq, Nat.reduceLT, Nat.reduceLeDiff, Nat.reduceEqDiff, Nat.reduceMul, Int.reduceToNat, ↓reduceIte, List.take_of_length_le, if_pos, if_neg, List.getElem?_set_self, List.set_set, cnE, cnV, Try.ntmps32, Try.results32,  h6, opQ_none])
  refine InlK_intro rfl rfl can_newRd ((isp_newReader hS bs hb _).mono ?_)
  rintro r L1 ⟨rfl, rfl⟩
  have hb2 : (bs.take 2000).length ≤ 2000 := by simp; omega
  repeat' (first | with_reducible first | refine kI (by kernel_rfl) ?_ | (first | refine kB1 ?_ ?_ | refine kB2 ?_ ?_) <;> intro hp | (first | refine kD1 ?_ ?_ | refine kD2 ?_ ?_ | refine kS1 ?_ ?_ | refine kS2 ?_ ?_) <;> intro hp <;> try simp only [hp] | simp -implicitDefEqProofs (disch := omega) only [go_sem, Nat.reduceAdd, Nat.reduceSub, reduceCtorEq, Nat.reduceLT, Nat.reduceLeDiff, Nat.reduceEqDiff, Nat.reduceMul, Int.reduceToNat, ↓reduceIte, List.take_of_length_le, if_pos, if_neg, List.getElem?_set_self, List.set_set, cnE, cnV, Try.ntmps32, Try.results32,  h7, opQ_none])
  obtain ⟨rL, hf, hC⟩ := rc_abs (RC.new2 (bs.take 2000) L ⟨3, [.agg [i64 0, .nilS, .nilS]]⟩ ⟨3, [.agg [i64 0, .nilS, .nilS]]⟩)
  have hf0 := hf 0
  rw [hf0]
  generalize bs.take 2000 = bs' at *
  obtain ⟨n, hn⟩ : ∃ n, L.length + 3 = n := ⟨_, rfl⟩
  obtain ⟨b, hbn⟩ : ∃ b, L.length + 2 = b := ⟨_, rfl⟩
  rw [hn, hbn] at hC
  rw [hbn]
  refine InlK_intro rfl rfl can_someView ((hsv hC hb2 0 (by omega)).mono ?_)
  rintro r L1 ⟨u, p1, k1, k2, rfl, m1, m2, rfl⟩
  repeat' (first | with_reducible first | refine kI (by kernel_rfl) ?_ | (first | refine kB1 ?_ ?_ | refine kB2 ?_ ?_) <;> intro hp | (first | refine kD1 ?_ ?_ | refine kD2 ?_ ?_ | refine kS1 ?_ ?_ | refine kS2 ?_ ?_) <;> intro hp <;> try simp only [hp] | simp -implicitDefEqProofs (disch := omega) only [go_sem, Nat.reduceAdd, Nat.reduceSub, reduceCtorEq, Nat.reduceLT, Nat.reduceLeDiff, Nat.reduceEqDiff, Nat.reduceMul, Int.reduceToNat, ↓reduceIte, List.take_of_length_le, if_pos, if_neg, List.getElem?_set_self, List.set_set, cnE, cnV, Try.ntmps32, Try.results32,  hC.cn, h5, opQ_none])
  refine InlK_intro rfl rfl can_copyView ((frz_cv (hcv u ⟨by omega, by omega⟩) _ _ (by simp only [go_sem, ints])).mono ?_)
  rintro r L1 ⟨rfl, rfl⟩
  repeat' (first | with_reducible first | refine kI (by kernel_rfl) ?_ | (first | refine kB1 ?_ ?_ | refine kB2 ?_ ?_) <;> intro hp | (first | refine kD1 ?_ ?_ | refine kD2 ?_ ?_ | refine kS1 ?_ ?_ | refine kS2 ?_ ?_) <;> intro hp <;> try simp only [hp] | simp -implicitDefEqProofs (disch := omega) only [go_sem, Nat.reduceAdd, Nat.reduceSub, reduceCtorEq, Nat.reduceLT, Nat.reduceLeDiff, Nat.reduceEqDiff, Nat.reduceMul, Int.reduceToNat, ↓reduceIte, List.take_of_length_le, if_pos, if_neg, List.getElem?_set_self, List.set_set, cnE, cnV, Try.ntmps32, Try.results32,  hC.cn])
  refine LoopQ.mix (fun t0 L0 nn ss => ∃ (i : Nat) (st : List Int) (p2 : Int) (_ : Unit), (∃ x : Nat → AV, ss = ⟨mixL 0 (.k :: .k :: .k :: .k :: .k :: .k :: .k :: .v (i64 (i : Nat)) :: .k :: .k :: .k :: .k :: .k :: .k :: .s :: .s :: .s :: .s :: .s :: .s :: .s :: .s :: .s :: .s :: .s :: .s :: .s :: .s :: .s :: .s :: .s :: .s :: .s :: .s :: .s :: .s :: .s :: .s :: .s :: .s :: .s :: .s :: .s :: .s :: .s :: .s :: .k :: .k :: []) t0 x, rL p2 ++ [⟨3, [.agg [i64 u.b, ints 1 u.sh, ints 1 u.st]]⟩, stB st, ⟨3, [.agg [i64 u.b, ints 1 u.sh, .sl (n + 1) u.st.length 0 u.st.length u.st.length]]⟩]⟩) ∧ (i ≤ u.sh.length) ∧ (st.length = u.st.length) ∧ (p1 ≤ p2 ∧ p2 ≤ p1 + 2 * i) ∧ nn = u.sh.length - i) ?_ ?_
  · exact ⟨_, ⟨0, u.st, p1, (), mixI rfl, Nat.zero_le _, rfl, ⟨by omega, by omega⟩, rfl⟩⟩
  · rintro I0 hI0 nn s ⟨i, st, p2, _, ⟨x, rfl⟩, g1, g2, ⟨g3, g4⟩, rfl⟩
    by_cases hlt : i < u.sh.length
    · have hki : (i : Int) < (u.sh.length : Int) := by omega
      by_cases hlt2 : i < u.st.length
      · have hki2 : (i : Int) < (u.st.length : Int) := by omega
        have hls : i < st.length := by omega
        by_cases hs : u.sh.getD i 0 ≤ 1
        · repeat' (first | with_reducible first | refine kI (by kernel_rfl) ?_ | (first | refine kB1 ?_ ?_ | refine kB2 ?_ ?_) <;> intro hp | (first | refine kD1 ?_ ?_ | refine kD2 ?_ ?_ | refine kS1 ?_ ?_ | refine kS2 ?_ ?_) <;> intro hp <;> try simp only [hp] | simp -implicitDefEqProofs (disch := omega) only [go_sem, Nat.reduceAdd, Nat.reduceSub, reduceCtorEq, Nat.reduceLT, Nat.reduceLeDiff, Nat.reduceEqDiff, Nat.reduceMul, Int.reduceToNat, ↓reduceIte, List.take_of_length_le, if_pos, if_neg, List.getElem?_set_self, List.set_set, cnE, cnV, Try.ntmps32, Try.results32,  hC.cn, hki, hki2, hs, g2])
          refine DrawQ.any [([0, 1, 2, 3, 4], 5), ([6], 7)] [] [0, 1, 2] (by kernel_rfl) ?_
          repeat' (first | with_reducible first | refine kI (by kernel_rfl) ?_ | (first | refine kB1 ?_ ?_ | refine kB2 ?_ ?_) <;> intro hp | (first | refine kD1 ?_ ?_ | refine kD2 ?_ ?_ | refine kS1 ?_ ?_ | refine kS2 ?_ ?_) <;> intro hp <;> try simp only [hp] | simp -implicitDefEqProofs (disch := omega) only [go_sem, Nat.reduceAdd, Nat.reduceSub, reduceCtorEq, Nat.reduceLT, Nat.reduceLeDiff, Nat.reduceEqDiff, Nat.reduceMul, Int.reduceToNat, ↓reduceIte, List.take_of_length_le, if_pos, if_neg, List.getElem?_set_self, List.set_set, cnE, cnV, Try.ntmps32, Try.results32,  hC.cn, g2, h1, opQ_none])
          refine InlK_intro rfl rfl can_one ((isp_one hS h0 (hC.app _) hb2 _ (by omega) 2 [7, 0, 1] (by decide)).mono ?_)
          rintro r L1 ⟨y, rfl, -, rfl⟩
          have htk2 : List.take u.st.length (st.set i y) = st.set i y := List.take_of_length_le (by simp; omega)
          repeat' (first | with_reducible first | refine kI (by kernel_rfl) ?_ | (first | refine kB1 ?_ ?_ | refine kB2 ?_ ?_) <;> intro hp | (first | refine kD1 ?_ ?_ | refine kD2 ?_ ?_ | refine kS1 ?_ ?_ | refine kS2 ?_ ?_) <;> intro hp <;> try simp only [hp] | simp -implicitDefEqProofs (disch := omega) only [go_sem, Nat.reduceAdd, Nat.reduceSub, reduceCtorEq, Nat.reduceLT, Nat.reduceLeDiff, Nat.reduceEqDiff, Nat.reduceMul, Int.reduceToNat, ↓reduceIte, List.take_of_length_le, if_pos, if_neg, List.getElem?_set_self, List.set_set, cnE, cnV, Try.ntmps32, Try.results32,  hC.cn, g2, map_setI, htk2])
          exact ⟨u.sh.length - (i + 1), by omega, hI0 _ _ ⟨i + 1, st.set i y, _, (), mixI rfl, hlt, by rw [List.length_set]; exact g2, ⟨by omega, by omega⟩, rfl⟩⟩
        · repeat' (first | with_reducible first | refine kI (by kernel_rfl) ?_ | (first | refine kB1 ?_ ?_ | refine kB2 ?_ ?_) <;> intro hp | (first | refine kD1 ?_ ?_ | refine kD2 ?_ ?_ | refine kS1 ?_ ?_ | refine kS2 ?_ ?_) <;> intro hp <;> try simp only [hp] | simp -implicitDefEqProofs (disch := omega) only [go_sem, Nat.reduceAdd, Nat.reduceSub, reduceCtorEq, Nat.reduceLT, Nat.reduceLeDiff, Nat.reduceEqDiff, Nat.reduceMul, Int.reduceToNat, ↓reduceIte, List.take_of_length_le, if_pos, if_neg, List.getElem?_set_self, List.set_set, cnE, cnV, Try.ntmps32, Try.results32,  hC.cn, hki, hki2, hs, g2, h0, opQ_none])
          refine InlK_intro rfl rfl can_pick ((isp_pick hS (hC.app _) hb2 _ (by omega) 6 (by omega)).mono ?_)
          rintro r L1 ⟨z, rfl, -, -, rfl⟩
          by_cases hz : z = 0
          · subst hz
            repeat' (first | with_reducible first | refine kI (by kernel_rfl) ?_ | (first | refine kB1 ?_ ?_ | refine kB2 ?_ ?_) <;> intro hp | (first | refine kD1 ?_ ?_ | refine kD2 ?_ ?_ | refine kS1 ?_ ?_ | refine kS2 ?_ ?_) <;> intro hp <;> try simp only [hp] | simp -implicitDefEqProofs (disch := omega) only [go_sem, Nat.reduceAdd, Nat.reduceSub, reduceCtorEq, Nat.reduceLT, Nat.reduceLeDiff, Nat.reduceEqDiff, Nat.reduceMul, Int.reduceToNat, ↓reduceIte, List.take_of_length_le, if_pos, if_neg, List.getElem?_set_self, List.set_set, cnE, cnV, Try.ntmps32, Try.results32,  hC.cn, g2])
            refine DrawQ.any [([0, 1, 2, 3, 4], 5), ([6], 7)] [] [0, 1, 2] (by kernel_rfl) ?_
            repeat' (first | with_reducible first | refine kI (by kernel_rfl) ?_ | (first | refine kB1 ?_ ?_ | refine kB2 ?_ ?_) <;> intro hp | (first | refine kD1 ?_ ?_ | refine kD2 ?_ ?_ | refine kS1 ?_ ?_ | refine kS2 ?_ ?_) <;> intro hp <;> try simp only [hp] | simp -implicitDefEqProofs (disch := omega) only [go_sem, Nat.reduceAdd, Nat.reduceSub, reduceCtorEq, Nat.reduceLT, Nat.reduceLeDiff, Nat.reduceEqDiff, Nat.reduceMul, Int.reduceToNat, ↓reduceIte, List.take_of_length_le, if_pos, if_neg, List.getElem?_set_self, List.set_set, cnE, cnV, Try.ntmps32, Try.results32,  hC.cn, g2, h1, opQ_none])
            refine InlK_intro rfl rfl can_one ((isp_one hS h0 (hC.app _) hb2 _ (by omega) 2 [7, 0, 1] (by decide)).mono ?_)
            rintro r L1 ⟨y, rfl, -, rfl⟩
            have htk2 : List.take u.st.length (st.set i y) = st.set i y := List.take_of_length_le (by simp; omega)
            repeat' (first | with_reducible first | refine kI (by kernel_rfl) ?_ | (first | refine kB1 ?_ ?_ | refine kB2 ?_ ?_) <;> intro hp | (first | refine kD1 ?_ ?_ | refine kD2 ?_ ?_ | refine kS1 ?_ ?_ | refine kS2 ?_ ?_) <;> intro hp <;> try simp only [hp] | simp -implicitDefEqProofs (disch := omega) only [go_sem, Nat.reduceAdd, Nat.reduceSub, reduceCtorEq, Nat.reduceLT, Nat.reduceLeDiff, Nat.reduceEqDiff, Nat.reduceMul, Int.reduceToNat, ↓reduceIte, List.take_of_length_le, if_pos, if_neg, List.getElem?_set_self, List.set_set, cnE, cnV, Try.ntmps32, Try.results32,  hC.cn, g2, map_setI, htk2])
            exact ⟨u.sh.length - (i + 1), by omega, hI0 _ _ ⟨i + 1, st.set i y, _, (), mixI rfl, hlt, by rw [List.length_set]; exact g2, ⟨by omega, by omega⟩, rfl⟩⟩
          · have hz' : (z == 0) = false := beq_f hz
            repeat' (first | with_reducible first | refine kI (by kernel_rfl) ?_ | (first | refine kB1 ?_ ?_ | refine kB2 ?_ ?_) <;> intro hp | (first | refine kD1 ?_ ?_ | refine kD2 ?_ ?_ | refine kS1 ?_ ?_ | refine kS2 ?_ ?_) <;> intro hp <;> try simp only [hp] | simp -implicitDefEqProofs (disch := omega) only [go_sem, Nat.reduceAdd, Nat.reduceSub, reduceCtorEq, Nat.reduceLT, Nat.reduceLeDiff, Nat.reduceEqDiff, Nat.reduceMul, Int.reduceToNat, ↓reduceIte, List.take_of_length_le, if_pos, if_neg, List.getElem?_set_self, List.set_set, cnE, cnV, Try.ntmps32, Try.results32,  hC.cn, g2, hz'])
            exact ⟨u.sh.length - (i + 1), by omega, hI0 _ _ ⟨i + 1, st, _, (), mixI rfl, hlt, g2, ⟨by omega, by omega⟩, rfl⟩⟩
      · have hki2 : ¬ (i : Int) < (u.st.length : Int) := by omega
        repeat' (first | with_reducible first | refine kI (by kernel_rfl) ?_ | (first | refine kB1 ?_ ?_ | refine kB2 ?_ ?_) <;> intro hp | (first | refine kD1 ?_ ?_ | refine kD2 ?_ ?_ | refine kS1 ?_ ?_ | refine kS2 ?_ ?_) <;> intro hp <;> try simp only [hp] | simp -implicitDefEqProofs (disch := omega) only [go_sem, Nat.reduceAdd, Nat.reduceSub, reduceCtorEq, Nat.reduceLT, Nat.reduceLeDiff, Nat.reduceEqDiff, Nat.reduceMul, Int.reduceToNat, ↓reduceIte, List.take_of_length_le, if_pos, if_neg, List.getElem?_set_self, List.set_set, cnE, cnV, Try.ntmps32, Try.results32,  hC.cn, hki, hki2, g2])
        have e : rL p2 ++ [(⟨3, [.agg [i64 u.b, ints 1 u.sh, ints 1 u.st]]⟩ : Blk), stB st, ⟨3, [.agg [i64 u.b, ints 1 u.sh, .sl (n + 1) u.st.length 0 u.st.length u.st.length]]⟩] = L ++ [⟨3, [.agg [i64 0, .nilS, .nilS]]⟩, ⟨3, [.agg [i64 0, .nilS, .nilS]]⟩, rdB bs' p2, ⟨3, [.agg [i64 u.b, ints 1 u.sh, ints 1 u.st]]⟩, stB st, ⟨3, [.agg [i64 u.b, ints 1 u.sh, .sl (n + 1) u.st.length 0 u.st.length u.st.length]]⟩] := by
          rw [← hf p2, List.append_assoc]; rfl
        rw [e]
        subst hn hbn
        simp only [show L.length + 3 + 1 = L.length + 4 from rfl, show L.length + 3 + 2 = L.length + 5 from rfl]
        refine DrawQ.any [([0, 1], 2), ([], 3)] [] [1] (by kernel_rfl) ?_
        repeat' (first | with_reducible first | refine kI (by kernel_rfl) ?_ | (first | refine kB1 ?_ ?_ | refine kB2 ?_ ?_) <;> intro hp | (first | refine kD1 ?_ ?_ | refine kD2 ?_ ?_ | refine kS1 ?_ ?_ | refine kS2 ?_ ?_) <;> intro hp <;> try simp only [hp] | simp -implicitDefEqProofs (disch := omega) only [go_sem, Nat.reduceAdd, Nat.reduceSub, reduceCtorEq, Nat.reduceLT, Nat.reduceLeDiff, Nat.reduceEqDiff, Nat.reduceMul, Int.reduceToNat, ↓reduceIte, List.take_of_length_le, if_pos, if_neg, List.getElem?_set_self, List.set_set, cnE, cnV, Try.ntmps32, Try.results32])
        exact RetQ.top ⟨u, ⟨u.b, u.sh, st⟩, ⟨⟨k1, k2⟩, k1, by dsimp only; omega⟩, fr_twoS (v := ⟨u.b, u.sh, st⟩) (by omega) g2 (by rw [List.getElem?_append_right (by omega)]; simp), rfl⟩
    · have hki : ¬ (i : Int) < (u.sh.length : Int) := by omega
      repeat' (first | with_reducible first | refine kI (by kernel_rfl) ?_ | (first | refine kB1 ?_ ?_ | refine kB2 ?_ ?_) <;> intro hp | (first | refine kD1 ?_ ?_ | refine kD2 ?_ ?_ | refine kS1 ?_ ?_ | refine kS2 ?_ ?_) <;> intro hp <;> try simp only [hp] | simp -implicitDefEqProofs (disch := omega) only [go_sem, Nat.reduceAdd, Nat.reduceSub, reduceCtorEq, Nat.reduceLT, Nat.reduceLeDiff, Nat.reduceEqDiff, Nat.reduceMul, Int.reduceToNat, ↓reduceIte, List.take_of_length_le, if_pos, if_neg, List.getElem?_set_self, List.set_set, cnE, cnV, Try.ntmps32, Try.results32,  hC.cn, hki, g2])
      have e : rL p2 ++ [(⟨3, [.agg [i64 u.b, ints 1 u.sh, ints 1 u.st]]⟩ : Blk), stB st, ⟨3, [.agg [i64 u.b, ints 1 u.sh, .sl (n + 1) u.st.length 0 u.st.length u.st.length]]⟩] = L ++ [⟨3, [.agg [i64 0, .nilS, .nilS]]⟩, ⟨3, [.agg [i64 0, .nilS, .nilS]]⟩, rdB bs' p2, ⟨3, [.agg [i64 u.b, ints 1 u.sh, ints 1 u.st]]⟩, stB st, ⟨3, [.agg [i64 u.b, ints 1 u.sh, .sl (n + 1) u.st.length 0 u.st.length u.st.length]]⟩] := by
        rw [← hf p2, List.append_assoc]; rfl
      rw [e]
      subst hn hbn
      simp only [show L.length + 3 + 1 = L.length + 4 from rfl, show L.length + 3 + 2 = L.length + 5 from rfl]
      refine DrawQ.any [([0, 1], 2), ([], 3)] [] [1] (by kernel_rfl) ?_
      repeat' (first | with_reducible first | refine kI (by kernel_rfl) ?_ | (first | refine kB1 ?_ ?_ | refine kB2 ?_ ?_) <;> intro hp | (first | refine kD1 ?_ ?_ | refine kD2 ?_ ?_ | refine kS1 ?_ ?_ | refine kS2 ?_ ?_) <;> intro hp <;> try simp only [hp] | simp -implicitDefEqProofs (disch := omega) only [go_sem, Nat.reduceAdd, Nat.reduceSub, reduceCtorEq, Nat.reduceLT, Nat.reduceLeDiff, Nat.reduceEqDiff, Nat.reduceMul, Int.reduceToNat, ↓reduceIte, List.take_of_length_le, if_pos, if_neg, List.getElem?_set_self, List.set_set, cnE, cnV, Try.ntmps32, Try.results32])
      exact RetQ.top ⟨u, ⟨u.b, u.sh, st⟩, ⟨⟨k1, k2⟩, k1, by dsimp only; omega⟩, fr_twoS (v := ⟨u.b, u.sh, st⟩) (by omega) g2 (by rw [List.getElem?_append_right (by omega)]; simp), rfl⟩
end Go.Proofs.Ytgepbcakcjdmoaa
