/- Contracts of functions that the laws of this seat call. -/
import Derived.Test.YtgepbcakcjdmoaaFe
set_option linter.all false
namespace Go.Proofs.Ytgepbcakcjdmoaa
open Go Go.Ev Go.RowKit Go.Ev.Enc

def shapeS (l : List Int) : Bool := decide (l.length ≤ 4) && l.all (fun n => inR n 0 60) && decide (prodW l ≤ 60)
theorem shapeS_eq (l : List Int) : shapeS l = shapeOK l := rfl
set_option maxHeartbeats 2000000 in
set_option maxRecDepth 100000 in
theorem spec_validShape {Sg : FuncId → Option (List AV → Option AV)} (hS : Sound Try.prog Sg) (ha : Sg 99 = some (F3 gAllIn)) (hc : Sg 101 = some (F1 gCount)) : ∀ a r, F1 gIsShape a = some r → CSpec Try.prog 98 a r := by
  refine spec1 Try.func98 rfl Try.pf hS ?_
  intro l r hr
  obtain ⟨hl, rfl⟩ := gd_some hr
  by_cases h1 : (l.length : Int) ≤ 4
  · cases h2 : l.all fun n => inR n 0 60 with
    | false =>
      simp -implicitDefEqProofs only [go_sem, Nat.reduceAdd, Nat.reduceSub, reduceCtorEq, Nat.reduceLT, Nat.reduceLeDiff, Nat.reduceEqDiff, Nat.reduceMul, Int.reduceToNat, ↓reduceIte, Try.ntmps98, Try.results98, h1, ha, gAllIn_eq hl, h2]
      have : shapeOK l = false := by rw [← shapeS_eq]; unfold shapeS; rw [h2]; simp
      rw [this]
    | true =>
      have h4 : l.length ≤ 4 := by omega
      by_cases h3 : prodW l ≤ 60
      · simp -implicitDefEqProofs only [go_sem, Nat.reduceAdd, Nat.reduceSub, reduceCtorEq, Nat.reduceLT, Nat.reduceLeDiff, Nat.reduceEqDiff, Nat.reduceMul, Int.reduceToNat, ↓reduceIte, Try.ntmps98, Try.results98, h1, ha, gAllIn_eq hl, h2, hc, gCount_eq hl, h3]
        rw [← shapeS_eq]; unfold shapeS; rw [h2]; simp [h3, h4]
      · simp -implicitDefEqProofs only [go_sem, Nat.reduceAdd, Nat.reduceSub, reduceCtorEq, Nat.reduceLT, Nat.reduceLeDiff, Nat.reduceEqDiff, Nat.reduceMul, Int.reduceToNat, ↓reduceIte, Try.ntmps98, Try.results98, h1, ha, gAllIn_eq hl, h2, hc, gCount_eq hl, h3]
        rw [← shapeS_eq]; unfold shapeS; rw [h2]; simp [h3, h4]
  · simp -implicitDefEqProofs only [go_sem, Nat.reduceAdd, Nat.reduceSub, reduceCtorEq, Nat.reduceLT, Nat.reduceLeDiff, Nat.reduceEqDiff, Nat.reduceMul, Int.reduceToNat, ↓reduceIte, Try.ntmps98, Try.results98, h1]
    rw [← shapeS_eq]; unfold shapeS
    have h4 : ¬ l.length ≤ 4 := by omega
    simp [h4]

def tsrS (x : Tsr) : Bool := shapeOK x.sh && decide ((x.vl.length : Int) = prodW x.sh) && x.vl.all fun n => inR n (-1000000) 1000000
theorem tsrS_eq (x : Tsr) : tsrS x = tsrOK x := by
  unfold tsrS tsrOK
  congr 1
  rw [List.not_any_eq_all_not]
  congr 1
  funext n
  unfold inR notEnt
  rw [Bool.eq_iff_iff]
  simp only [Bool.and_eq_true, decide_eq_true_eq, Bool.not_eq_true', Bool.or_eq_false_iff, decide_eq_false_iff_not]
  omega
def gDifferent (l : List Int) : Option Bool := gd (l.length < 4294967296) (decide (∀ k, k < l.length → ¬ l.getD k 0 ∈ l.take k))
set_option maxHeartbeats 2000000 in
set_option maxRecDepth 100000 in
theorem spec_different {Sg : FuncId → Option (List AV → Option AV)} (hS : Sound Try.prog Sg) (hc : Sg 78 = some (F2 gPlaceIn)) : ∀ a r, F1 gDifferent a = some r → CSpec Try.prog 66 a r := by
  refine spec1 Try.func66 rfl Try.pf hS ?_
  intro l r hr
  obtain ⟨hl, rfl⟩ := gd_some hr
  simp -implicitDefEqProofs only [go_sem, Nat.reduceAdd, Nat.reduceSub, reduceCtorEq, Nat.reduceLT, Nat.reduceLeDiff, Nat.reduceEqDiff, Nat.reduceMul, Int.reduceToNat, ↓reduceIte, Try.ntmps66, Try.results66]
  refine LoopQ.mix (fun t0 L0 nn ss => ∃ (k : Nat) (_ : Unit), (∃ x : Nat → AV, ss = ⟨mixL 0 (.k :: .k :: .s :: .v (i64 (k : Nat)) :: .s :: .s :: .s :: .s :: .s :: .s :: .s :: .s :: .s :: .s :: .s :: .s :: .s :: .s :: .s :: []) t0 x, L0⟩) ∧ (k ≤ l.length) ∧ (∀ i, i < k → ¬ l.getD i 0 ∈ l.take i) ∧ nn = l.length - k) ⟨l.length, ?_⟩ ?_
  · exact ⟨0, (), mixI rfl, Nat.zero_le _, fun i hi => absurd hi (Nat.not_lt_zero _), rfl⟩
  · rintro I0 hI0 n s ⟨k, _, ⟨x, rfl⟩, h1, h2, rfl⟩
    by_cases hlt : k < l.length
    · have hp := plc_nonneg (l := l.take k) (n := l.getD k 0)
      have hk : (k : Int) ≤ l.length := by omega
      by_cases hb : l.getD k 0 ∈ l.take k
      · simp -implicitDefEqProofs only [go_sem, Nat.reduceAdd, Nat.reduceSub, reduceCtorEq, Nat.reduceLT, Nat.reduceLeDiff, Nat.reduceEqDiff, Nat.reduceMul, Int.reduceToNat, ↓reduceIte, Try.ntmps66, Try.results66, Int.ofNat_lt, hlt, hk, getD_ints hlt, hc, gPlaceIn_eq (l := l.take k) (by simp; omega), hp, hb]
        refine RegQ.intro (by kernel_rfl) ?_
        rw [show decide (∀ k, k < l.length → ¬ l.getD k 0 ∈ l.take k) = false from by rw [decide_eq_false_iff_not]; exact fun h => h k hlt hb]
      · simp -implicitDefEqProofs only [go_sem, Nat.reduceAdd, Nat.reduceSub, reduceCtorEq, Nat.reduceLT, Nat.reduceLeDiff, Nat.reduceEqDiff, Nat.reduceMul, Int.reduceToNat, ↓reduceIte, Try.ntmps66, Try.results66, Int.ofNat_lt, hlt, hk, getD_ints hlt, hc, gPlaceIn_eq (l := l.take k) (by simp; omega), hp, hb, wrap_succ (show k < 9223372036854775807 by omega)]
        refine RegQ.intro (by kernel_rfl) ?_
        exact ⟨l.length - (k + 1), by omega, hI0 _ _ ⟨k + 1, (), mixI rfl, hlt, fun i hi => if h : i = k then by rw [h]; exact hb else h2 i (by omega), rfl⟩⟩
    · obtain rfl : k = l.length := by omega
      simp -implicitDefEqProofs only [go_sem, Nat.reduceAdd, Nat.reduceSub, reduceCtorEq, Nat.reduceLT, Nat.reduceLeDiff, Nat.reduceEqDiff, Nat.reduceMul, Int.reduceToNat, ↓reduceIte, Try.ntmps66, Try.results66, Int.ofNat_lt, hlt]
      rw [show decide (∀ k, k < l.length → ¬ l.getD k 0 ∈ l.take k) = true from by rw [decide_eq_true_eq]; exact h2]
end Go.Proofs.Ytgepbcakcjdmoaa
