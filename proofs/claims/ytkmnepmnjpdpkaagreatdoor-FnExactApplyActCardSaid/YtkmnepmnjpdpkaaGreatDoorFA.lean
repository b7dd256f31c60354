/- Contracts of functions on lists, shapes and numbers that the laws of this seat call. -/
import Derived.Test.YtkmnepmnjpdpkaaGreatDoorFacts
import Derived.Test.YtkmnepmnjpdpkaaGreatDoorShelf
import Derived.Test.YtkmnepmnjpdpkaaGreatDoorEvC
set_option linter.all false
namespace Go.Proofs.YtkmnepmnjpdpkaaGreatDoor
open Go Go.Ev Go.RowKit Go.Ev.Enc

def prodW (l : List Int) : Int := l.foldl (fun n e => IntKind.i64.wrap (n * e)) 1
theorem prodW_take {l : List Int} {k : Nat} (h : k < l.length) : IntKind.i64.wrap (prodW (l.take k) * l.getD k 0) = prodW (l.take (k + 1)) := by
  rw [take_succ_getD h]; simp only [prodW, List.foldl_append, List.foldl_cons, List.foldl_nil]
def gCountOf (l : List Int) : Option Int := gd (l.length < 4294967296) (prodW l)
theorem gCountOf_eq {l : List Int} (h : l.length < 4294967296) : gCountOf l = some (prodW l) := gd_eq h
set_option maxHeartbeats 2000000 in
set_option maxRecDepth 100000 in
theorem spec_countOf {Sg : FuncId → Option (List AV → Option AV)} (hS : Sound Tryz.prog Sg) : ∀ a r, F1 gCountOf a = some r → CSpec Tryz.prog 150 a r := by
  refine spec1 Tryz.func150 rfl Tryz.pf hS ?_
  intro l r hr
  obtain ⟨hl, rfl⟩ := gd_some hr
  simp -implicitDefEqProofs only [go_sem, Nat.reduceAdd, Nat.reduceSub, reduceCtorEq, Nat.reduceLT, Nat.reduceLeDiff, Nat.reduceEqDiff, Nat.reduceMul, Int.reduceToNat, ↓reduceIte, Tryz.ntmps150, Tryz.results150]
  refine LoopQ.mix (fun t0 L0 nn ss => ∃ (k : Nat) (_ : Unit), (∃ x : Nat → AV, ss = ⟨mixL 0 (.k :: .k :: .k :: .v (i64 (prodW (l.take k))) :: .k :: .s :: .k :: .k :: .v (i64 (k : Nat)) :: .s :: .s :: .s :: .s :: .s :: .s :: .s :: .k :: []) t0 x, L0⟩) ∧ (k ≤ l.length) ∧ nn = l.length - k) ⟨l.length, ?_⟩ ?_
  · exact ⟨0, (), mixI rfl, Nat.zero_le _, rfl⟩
  · rintro I0 hI0 n s ⟨k, _, ⟨x, rfl⟩, h1, rfl⟩
    by_cases hlt : k < l.length
    · simp -implicitDefEqProofs only [go_sem, Nat.reduceAdd, Nat.reduceSub, reduceCtorEq, Nat.reduceLT, Nat.reduceLeDiff, Nat.reduceEqDiff, Nat.reduceMul, Int.reduceToNat, ↓reduceIte, Tryz.ntmps150, Tryz.results150, Int.ofNat_lt, hlt, getD_ints hlt, wrap_succ (show k < 9223372036854775807 by omega), prodW_take hlt]
      exact ⟨l.length - (k + 1), by omega, hI0 _ _ ⟨k + 1, (), mixI rfl, hlt, rfl⟩⟩
    · obtain rfl : k = l.length := by omega
      simp -implicitDefEqProofs only [go_sem, Nat.reduceAdd, Nat.reduceSub, reduceCtorEq, Nat.reduceLT, Nat.reduceLeDiff, Nat.reduceEqDiff, Nat.reduceMul, Int.reduceToNat, ↓reduceIte, Tryz.ntmps150, Tryz.results150, Int.ofNat_lt, hlt]

def inExt (e : Int) : Bool := decide (0 ≤ e) && decide (e ≤ 60)
def shapeOK (l : List Int) : Bool := decide (l.length ≤ 4) && l.all inExt && decide (prodW l ≤ 60)
def gIsShape (l : List Int) : Option Bool := gd (l.length < 4294967296) (shapeOK l)
theorem gIsShape_eq {l : List Int} (h : l.length < 4294967296) : gIsShape l = some (shapeOK l) := gd_eq h

set_option maxHeartbeats 2000000 in
set_option maxRecDepth 100000 in
theorem spec_isShape {Sg : FuncId → Option (List AV → Option AV)} (hS : Sound Tryz.prog Sg) (hc : Sg 150 = some (F1 gCountOf)) : ∀ a r, F1 gIsShape a = some r → CSpec Tryz.prog 115 a r := by
  refine spec1 Tryz.func115 rfl Tryz.pf hS ?_
  intro l r hr
  obtain ⟨hl, rfl⟩ := gd_some hr
  by_cases h4 : l.length ≤ 4
  · have h4' : ¬ (4 : Int) < (l.length : Int) := by omega
    simp -implicitDefEqProofs only [go_sem, Nat.reduceAdd, Nat.reduceSub, reduceCtorEq, Nat.reduceLT, Nat.reduceLeDiff, Nat.reduceEqDiff, Nat.reduceMul, Int.reduceToNat, ↓reduceIte, Tryz.ntmps115, Tryz.results115, h4']
    refine LoopQ.mix (fun t0 L0 nn ss => ∃ (k : Nat) (_ : Unit), (∃ x : Nat → AV, ss = ⟨mixL 0 (.k :: .k :: .s :: .k :: .s :: .k :: .k :: .k :: .k :: .k :: .v (i64 (k : Nat)) :: .s :: .s :: .s :: .s :: .s :: .s :: .s :: .s :: .s :: .s :: .k :: .k :: .k :: []) t0 x, L0⟩) ∧ (k ≤ l.length) ∧ ((l.take k).all inExt = true) ∧ nn = l.length - k) ⟨l.length, ?_⟩ ?_
    · exact ⟨0, (), mixI rfl, Nat.zero_le _, rfl, rfl⟩
    · rintro I0 hI0 n s ⟨k, _, ⟨x, rfl⟩, h1, h2, rfl⟩
      by_cases hlt : k < l.length
      · have ea := all_take (p := inExt) hlt
        rw [h2, Bool.true_and] at ea
        by_cases ha : l.getD k 0 < 0
        · have hf := all_false (p := inExt) hlt (by simp [inExt]; intro h; exfalso; simp at ha; omega)
          simp -implicitDefEqProofs only [go_sem, Nat.reduceAdd, Nat.reduceSub, reduceCtorEq, Nat.reduceLT, Nat.reduceLeDiff, Nat.reduceEqDiff, Nat.reduceMul, Int.reduceToNat, ↓reduceIte, Tryz.ntmps115, Tryz.results115, Int.ofNat_lt, hlt, getD_ints hlt, ha]
          simp [shapeOK, hf]
        · by_cases hb : 60 < l.getD k 0
          · have hf := all_false (p := inExt) hlt (by simp only [inExt, Bool.and_eq_false_iff, decide_eq_false_iff_not]; right; omega)
            simp -implicitDefEqProofs only [go_sem, Nat.reduceAdd, Nat.reduceSub, reduceCtorEq, Nat.reduceLT, Nat.reduceLeDiff, Nat.reduceEqDiff, Nat.reduceMul, Int.reduceToNat, ↓reduceIte, Tryz.ntmps115, Tryz.results115, Int.ofNat_lt, hlt, getD_ints hlt, ha, hb]
            simp [shapeOK, hf]
          · have hg : inExt (l.getD k 0) = true := by simp only [inExt, Bool.and_eq_true, decide_eq_true_eq]; omega
            rw [hg] at ea
            simp -implicitDefEqProofs only [go_sem, Nat.reduceAdd, Nat.reduceSub, reduceCtorEq, Nat.reduceLT, Nat.reduceLeDiff, Nat.reduceEqDiff, Nat.reduceMul, Int.reduceToNat, ↓reduceIte, Tryz.ntmps115, Tryz.results115, Int.ofNat_lt, hlt, getD_ints hlt, ha, hb, wrap_succ (show k < 9223372036854775807 by omega)]
            exact ⟨l.length - (k + 1), by omega, hI0 _ _ ⟨k + 1, (), mixI rfl, hlt, ea, rfl⟩⟩
      · obtain rfl : k = l.length := by omega
        rw [List.take_length] at h2
        simp -implicitDefEqProofs only [go_sem, Nat.reduceAdd, Nat.reduceSub, reduceCtorEq, Nat.reduceLT, Nat.reduceLeDiff, Nat.reduceEqDiff, Nat.reduceMul, Int.reduceToNat, ↓reduceIte, Tryz.ntmps115, Tryz.results115, Int.ofNat_lt, hlt, hc, gCountOf_eq hl]
        simp [shapeOK, h2, h4]
  · have h4' : (4 : Int) < (l.length : Int) := by omega
    simp -implicitDefEqProofs only [go_sem, Nat.reduceAdd, Nat.reduceSub, reduceCtorEq, Nat.reduceLT, Nat.reduceLeDiff, Nat.reduceEqDiff, Nat.reduceMul, Int.reduceToNat, ↓reduceIte, Tryz.ntmps115, Tryz.results115, h4']
    simp [shapeOK, h4]

end Go.Proofs.YtkmnepmnjpdpkaaGreatDoor
namespace Go.Proofs.YtkmnepmnjpdpkaaGreatDoor
open Go Go.Ev Go.RowKit Go.Ev.Enc

def inR (n lo hi : Int) : Bool := decide (lo ≤ n) && decide (n ≤ hi)
def gInRange (n lo hi : Int) : Option Bool := gd True (inR n lo hi)
theorem gInRange_eq (n lo hi : Int) : gInRange n lo hi = some (inR n lo hi) := rfl
set_option maxHeartbeats 2000000 in
set_option maxRecDepth 100000 in
theorem spec_inRange {Sg : FuncId → Option (List AV → Option AV)} (hS : Sound Tryz.prog Sg) : ∀ a r, F3 gInRange a = some r → CSpec Tryz.prog 100 a r := by
  refine spec3 Tryz.func100 rfl Tryz.pf hS ?_
  intro n lo hi r hr
  obtain ⟨-, rfl⟩ := gd_some hr
  by_cases h : lo ≤ n
  · by_cases h' : n ≤ hi
    · simp -implicitDefEqProofs only [go_sem, Nat.reduceAdd, Nat.reduceSub, reduceCtorEq, Nat.reduceLT, Nat.reduceLeDiff, Nat.reduceEqDiff, Nat.reduceMul, Int.reduceToNat, ↓reduceIte, Tryz.ntmps100, Tryz.results100, h, h', inR]
    · simp -implicitDefEqProofs only [go_sem, Nat.reduceAdd, Nat.reduceSub, reduceCtorEq, Nat.reduceLT, Nat.reduceLeDiff, Nat.reduceEqDiff, Nat.reduceMul, Int.reduceToNat, ↓reduceIte, Tryz.ntmps100, Tryz.results100, h, h', inR]
  · simp -implicitDefEqProofs only [go_sem, Nat.reduceAdd, Nat.reduceSub, reduceCtorEq, Nat.reduceLT, Nat.reduceLeDiff, Nat.reduceEqDiff, Nat.reduceMul, Int.reduceToNat, ↓reduceIte, Tryz.ntmps100, Tryz.results100, h, inR]

def gAllIn (l : List Int) (lo hi : Int) : Option Bool := gd (l.length < 4294967296) (l.all fun n => inR n lo hi)
theorem gAllIn_eq {l : List Int} (h : l.length < 4294967296) (lo hi : Int) : gAllIn l lo hi = some (l.all fun n => inR n lo hi) := gd_eq h
set_option maxHeartbeats 2000000 in
set_option maxRecDepth 100000 in
theorem spec_allIn {Sg : FuncId → Option (List AV → Option AV)} (hS : Sound Tryz.prog Sg) (hc : Sg 100 = some (F3 gInRange)) : ∀ a r, F3 gAllIn a = some r → CSpec Tryz.prog 114 a r := by
  refine spec3 Tryz.func114 rfl Tryz.pf hS ?_
  intro l lo hi r hr
  obtain ⟨hl, rfl⟩ := gd_some hr
  simp -implicitDefEqProofs only [go_sem, Nat.reduceAdd, Nat.reduceSub, reduceCtorEq, Nat.reduceLT, Nat.reduceLeDiff, Nat.reduceEqDiff, Nat.reduceMul, Int.reduceToNat, ↓reduceIte, Tryz.ntmps114, Tryz.results114]
  refine LoopQ.mix (fun t0 L0 nn ss => ∃ (k : Nat) (_ : Unit), (∃ x : Nat → AV, ss = ⟨mixL 0 (.k :: .k :: .k :: .k :: .k :: .k :: .s :: .v (i64 (k : Nat)) :: .s :: .s :: .s :: .s :: .s :: .s :: .s :: .s :: .s :: .s :: .s :: .s :: .s :: .s :: []) t0 x, L0⟩) ∧ (k ≤ l.length) ∧ ((l.take k).all (fun n => inR n lo hi) = true) ∧ nn = l.length - k) ⟨l.length, ?_⟩ ?_
  · exact ⟨0, (), mixI rfl, Nat.zero_le _, rfl, rfl⟩
  · rintro I0 hI0 n s ⟨k, _, ⟨x, rfl⟩, h1, h2, rfl⟩
    by_cases hlt : k < l.length
    · have ea := all_take (p := fun n => inR n lo hi) hlt
      rw [h2, Bool.true_and] at ea
      cases hb : inR (l.getD k 0) lo hi with
      | false =>
        have hf := all_false (p := fun n => inR n lo hi) hlt hb
        simp -implicitDefEqProofs only [go_sem, Nat.reduceAdd, Nat.reduceSub, reduceCtorEq, Nat.reduceLT, Nat.reduceLeDiff, Nat.reduceEqDiff, Nat.reduceMul, Int.reduceToNat, ↓reduceIte, Tryz.ntmps114, Tryz.results114, Int.ofNat_lt, hlt, getD_ints hlt, hc, gInRange_eq, hb, hf]
      | true =>
        rw [hb] at ea
        simp -implicitDefEqProofs only [go_sem, Nat.reduceAdd, Nat.reduceSub, reduceCtorEq, Nat.reduceLT, Nat.reduceLeDiff, Nat.reduceEqDiff, Nat.reduceMul, Int.reduceToNat, ↓reduceIte, Tryz.ntmps114, Tryz.results114, Int.ofNat_lt, hlt, getD_ints hlt, hc, gInRange_eq, hb, wrap_succ (show k < 9223372036854775807 by omega)]
        exact ⟨l.length - (k + 1), by omega, hI0 _ _ ⟨k + 1, (), mixI rfl, hlt, ea, rfl⟩⟩
    · obtain rfl : k = l.length := by omega
      rw [List.take_length] at h2
      simp -implicitDefEqProofs only [go_sem, Nat.reduceAdd, Nat.reduceSub, reduceCtorEq, Nat.reduceLT, Nat.reduceLeDiff, Nat.reduceEqDiff, Nat.reduceMul, Int.reduceToNat, ↓reduceIte, Tryz.ntmps114, Tryz.results114, Int.ofNat_lt, hlt, h2]

def gCount (l : List Int) : Option Int := gd (l.length < 4294967296) (prodW l)
theorem gCount_eq {l : List Int} (h : l.length < 4294967296) : gCount l = some (prodW l) := gd_eq h
set_option maxHeartbeats 2000000 in
set_option maxRecDepth 100000 in
theorem spec_count {Sg : FuncId → Option (List AV → Option AV)} (hS : Sound Tryz.prog Sg) : ∀ a r, F1 gCount a = some r → CSpec Tryz.prog 172 a r := by
  refine spec1 Tryz.func172 rfl Tryz.pf hS ?_
  intro l r hr
  obtain ⟨hl, rfl⟩ := gd_some hr
  simp -implicitDefEqProofs only [go_sem, Nat.reduceAdd, Nat.reduceSub, reduceCtorEq, Nat.reduceLT, Nat.reduceLeDiff, Nat.reduceEqDiff, Nat.reduceMul, Int.reduceToNat, ↓reduceIte, Tryz.ntmps172, Tryz.results172]
  refine LoopQ.mix (fun t0 L0 nn ss => ∃ (k : Nat) (_ : Unit), (∃ x : Nat → AV, ss = ⟨mixL 0 (.k :: .k :: .k :: .v (i64 (prodW (l.take k))) :: .v (i64 (k : Nat)) :: .s :: .s :: .s :: .s :: .s :: .s :: .s :: .s :: .s :: .s :: .s :: .s :: .k :: []) t0 x, L0⟩) ∧ (k ≤ l.length) ∧ nn = l.length - k) ⟨l.length, ?_⟩ ?_
  · exact ⟨0, (), mixI rfl, Nat.zero_le _, rfl⟩
  · rintro I0 hI0 n s ⟨k, _, ⟨x, rfl⟩, h1, rfl⟩
    by_cases hlt : k < l.length
    · simp -implicitDefEqProofs only [go_sem, Nat.reduceAdd, Nat.reduceSub, reduceCtorEq, Nat.reduceLT, Nat.reduceLeDiff, Nat.reduceEqDiff, Nat.reduceMul, Int.reduceToNat, ↓reduceIte, Tryz.ntmps172, Tryz.results172, Int.ofNat_lt, hlt, getD_ints hlt, wrap_succ (show k < 9223372036854775807 by omega), prodW_take hlt]
      exact ⟨l.length - (k + 1), by omega, hI0 _ _ ⟨k + 1, (), mixI rfl, hlt, rfl⟩⟩
    · obtain rfl : k = l.length := by omega
      simp -implicitDefEqProofs only [go_sem, Nat.reduceAdd, Nat.reduceSub, reduceCtorEq, Nat.reduceLT, Nat.reduceLeDiff, Nat.reduceEqDiff, Nat.reduceMul, Int.reduceToNat, ↓reduceIte, Tryz.ntmps172, Tryz.results172, Int.ofNat_lt, hlt]

end Go.Proofs.YtkmnepmnjpdpkaaGreatDoor
namespace Go.Proofs.YtkmnepmnjpdpkaaGreatDoor
open Go Go.Ev Go.RowKit Go.Ev.Enc

def plcF (l : List Int) (p : Int → Bool) : Int := if l.findIdx p < l.length then (l.findIdx p : Int) else -1
theorem plcF_eq {l : List Int} {p : Int → Bool} {k : Nat} (hk : k < l.length) (h : p (l.getD k 0) = true) (h' : ∀ i, i < k → p (l.getD i 0) = false) : plcF l p = k := by
  have : l.findIdx p = k := by
    rw [List.findIdx_eq hk]
    refine ⟨by simpa [hk] using h, fun j hj => ?_⟩
    have := h' j hj
    have hjl : j < l.length := Nat.lt_trans hj hk
    simpa [hjl] using this
  unfold plcF
  rw [this, if_pos hk]
theorem plcF_none {l : List Int} {p : Int → Bool} (h' : ∀ i, i < l.length → p (l.getD i 0) = false) : plcF l p = -1 := by
  have : ¬ l.findIdx p < l.length := by
    intro hk
    have h1 := List.findIdx_getElem (w := hk)
    have h2 := h' _ hk
    rw [List.getD_eq_getElem?_getD, List.getElem?_eq_getElem hk] at h2
    simp only [Option.getD_some] at h2
    rw [h2] at h1; simp at h1
  unfold plcF
  rw [if_neg this]
theorem plcF_nonneg {l : List Int} {p : Int → Bool} : (0 ≤ plcF l p) ↔ l.any p = true := by
  unfold plcF
  rw [List.any_eq_true, ← List.findIdx_lt_length]
  split
  · simp [*]
  · simp [*]
set_option maxHeartbeats 2000000 in
set_option maxRecDepth 100000 in
theorem ispec_IndexFunc {Sg : FuncId → Option (List AV → Option AV)} (hS : Sound Tryz.prog Sg) {g : FuncId} {p : Int → Bool} (hg : CanCall Tryz.prog g) (hp : ∀ x L, ISpec Tryz.prog g [i64 x] L fun r L' => r = .bool (p x) ∧ L' = L) (tag : Nat) (l : List Int) (hl : l.length < 4294967296) (L : List Blk) : ISpec Tryz.prog 146 [ints tag l, .fn g []] L (fun r L' => r = i64 (plcF l p) ∧ L' = L) := by
  refine ISpec.intro Tryz.func146 rfl (vc_sound Tryz.pf hS _ _ _ ?_)
  simp -implicitDefEqProofs only [go_sem, Nat.reduceAdd, Nat.reduceSub, reduceCtorEq, Nat.reduceLT, Nat.reduceLeDiff, Nat.reduceEqDiff, Nat.reduceMul, Int.reduceToNat, ↓reduceIte, Tryz.ntmps146, Tryz.results146]
  refine LoopQ.mix (fun t0 L0 nn ss => ∃ (k : Nat) (_ : Unit), (∃ x : Nat → AV, ss = ⟨mixL 0 (.k :: .k :: .k :: .k :: .s :: .s :: .k :: .k :: .v (i64 (k : Nat)) :: .s :: .s :: .s :: .s :: .s :: .s :: .s :: .s :: .s :: .s :: []) t0 x, L0⟩) ∧ (k ≤ l.length) ∧ (∀ i, i < k → p (l.getD i 0) = false) ∧ nn = l.length - k) ⟨l.length, ?_⟩ ?_
  · exact ⟨0, (), mixI rfl, Nat.zero_le _, fun i hi => absurd hi (Nat.not_lt_zero _), rfl⟩
  · rintro I0 hI0 m s ⟨k, _, ⟨x, rfl⟩, h1, h2, rfl⟩
    by_cases hlt : k < l.length
    · simp -implicitDefEqProofs only [go_sem, Nat.reduceAdd, Nat.reduceSub, reduceCtorEq, Nat.reduceLT, Nat.reduceLeDiff, Nat.reduceEqDiff, Nat.reduceMul, Int.reduceToNat, ↓reduceIte, Tryz.ntmps146, Tryz.results146, Int.ofNat_lt, hlt, getD_ints hlt, opQ_none]
      refine InlK_intro rfl rfl hg ((hp _ _).mono ?_)
      rintro r L' ⟨rfl, rfl⟩
      cases hb : p (l.getD k 0) with
      | true =>
        simp -implicitDefEqProofs only [go_sem, Nat.reduceAdd, Nat.reduceSub, reduceCtorEq, Nat.reduceLT, Nat.reduceLeDiff, Nat.reduceEqDiff, Nat.reduceMul, Int.reduceToNat, ↓reduceIte, Tryz.ntmps146, Tryz.results146, plcF_eq hlt hb h2]
      | false =>
        simp -implicitDefEqProofs only [go_sem, Nat.reduceAdd, Nat.reduceSub, reduceCtorEq, Nat.reduceLT, Nat.reduceLeDiff, Nat.reduceEqDiff, Nat.reduceMul, Int.reduceToNat, ↓reduceIte, Tryz.ntmps146, Tryz.results146, wrap_succ (show k < 9223372036854775807 by omega)]
        exact ⟨l.length - (k + 1), by omega, hI0 _ _ ⟨k + 1, (), mixI rfl, hlt, fun i hi => if h : i = k then by rw [h]; exact hb else h2 i (by omega), rfl⟩⟩
    · obtain rfl : k = l.length := by omega
      simp -implicitDefEqProofs only [go_sem, Nat.reduceAdd, Nat.reduceSub, reduceCtorEq, Nat.reduceLT, Nat.reduceLeDiff, Nat.reduceEqDiff, Nat.reduceMul, Int.reduceToNat, ↓reduceIte, Tryz.ntmps146, Tryz.results146, Int.ofNat_lt, hlt, plcF_none h2]

set_option maxHeartbeats 2000000 in
set_option maxRecDepth 100000 in
theorem ispec_ContainsFunc {Sg : FuncId → Option (List AV → Option AV)} (hS : Sound Tryz.prog Sg) (hc : Sg 146 = none) {g : FuncId} {p : Int → Bool} (hg : CanCall Tryz.prog g) (hp : ∀ x L, ISpec Tryz.prog g [i64 x] L fun r L' => r = .bool (p x) ∧ L' = L) (tag : Nat) (l : List Int) (hl : l.length < 4294967296) (L : List Blk) : ISpec Tryz.prog 108 [ints tag l, .fn g []] L (fun r L' => r = .bool (l.any p) ∧ L' = L) := by
  refine ISpec.intro Tryz.func108 rfl (vc_sound Tryz.pf hS _ _ _ ?_)
  simp -implicitDefEqProofs only [go_sem, Nat.reduceAdd, Nat.reduceSub, reduceCtorEq, Nat.reduceLT, Nat.reduceLeDiff, Nat.reduceEqDiff, Nat.reduceMul, Int.reduceToNat, ↓reduceIte, Tryz.ntmps108, Tryz.results108, hc, opQ_none]
  refine InlK_intro rfl rfl ⟨_, Tryz.func146, rfl, rfl⟩ ((ispec_IndexFunc hS hg hp tag l hl L).mono ?_)
  rintro r L' ⟨rfl, rfl⟩
  simp -implicitDefEqProofs only [go_sem, Nat.reduceAdd, Nat.reduceSub, reduceCtorEq, Nat.reduceLT, Nat.reduceLeDiff, Nat.reduceEqDiff, Nat.reduceMul, Int.reduceToNat, ↓reduceIte, Tryz.ntmps108, Tryz.results108]
  rw [show decide (0 ≤ plcF l p) = l.any p from by rw [Bool.eq_iff_iff, decide_eq_true_eq, plcF_nonneg]]

def notLab (x : Int) : Bool := decide (x < 0) || decide (4 < x)
def labOK (l : List Int) : Bool := !l.any notLab
end Go.Proofs.YtkmnepmnjpdpkaaGreatDoor
namespace Go.Proofs.YtkmnepmnjpdpkaaGreatDoor
open Go Go.Ev Go.RowKit Go.Ev.Enc

def tkn (l idx : List Int) : List Int := idx.map fun x => l.getD x.toNat 0
theorem tkn_take {e l : List Int} {k : Nat} (h : k < l.length) : tkn e (l.take k) ++ [e.getD (l.getD k 0).toNat 0] = tkn e (l.take (k + 1)) := by
  rw [take_succ_getD h]; simp only [tkn, List.map_append, List.map_cons, List.map_nil]
theorem tkn_len (e l : List Int) : (tkn e l).length = l.length := by simp [tkn]
def gTakenOf (e l : List Int) : Option (List Int) := gd (l.length < 4294967296 ∧ ∀ i, i < l.length → 0 ≤ l.getD i 0 ∧ l.getD i 0 < e.length) (tkn e l)
set_option maxHeartbeats 2000000 in
set_option maxRecDepth 100000 in
theorem spec_takenOf {Sg : FuncId → Option (List AV → Option AV)} (hS : Sound Tryz.prog Sg) : ∀ a r, F2 gTakenOf a = some r → CSpec Tryz.prog 166 a r := by
  refine spec2 Tryz.func166 rfl Tryz.pf hS ?_
  intro e l r hr
  obtain ⟨⟨hl, hi⟩, rfl⟩ := gd_some hr
  simp -implicitDefEqProofs only [go_sem, Nat.reduceAdd, Nat.reduceSub, reduceCtorEq, Nat.reduceLT, Nat.reduceLeDiff, Nat.reduceEqDiff, Nat.reduceMul, Int.reduceToNat, ↓reduceIte, Tryz.ntmps166, Tryz.results166]
  refine LoopQ.mix (fun t0 L0 nn ss => ∃ (k : Nat) (_ : Unit), (∃ x : Nat → AV, ss = ⟨mixL 0 (.k :: .k :: .k :: .k :: .k :: .v (.sl 0 k 0 k k) :: .k :: .s :: .k :: .k :: .k :: .v (i64 (k : Nat)) :: .s :: .s :: .s :: .s :: .s :: .s :: .s :: .s :: .s :: .s :: .s :: .k :: []) t0 x, [⟨1, (tkn e (l.take k)).map fun n => .int .i64 n⟩]⟩) ∧ (k ≤ l.length) ∧ nn = l.length - k) ⟨l.length, ?_⟩ ?_
  · exact ⟨0, (), mixI rfl, Nat.zero_le _, rfl⟩
  · rintro I0 hI0 n s ⟨k, _, ⟨x, rfl⟩, h1, rfl⟩
    by_cases hlt : k < l.length
    · obtain ⟨i1, i2⟩ := hi k hlt
      simp -implicitDefEqProofs only [go_sem, Nat.reduceAdd, Nat.reduceSub, reduceCtorEq, Nat.reduceLT, Nat.reduceLeDiff, Nat.reduceEqDiff, Nat.reduceMul, Int.reduceToNat, ↓reduceIte, Tryz.ntmps166, Tryz.results166, Int.ofNat_lt, hlt, getD_ints hlt, i1, i2, getD_ints (show (l.getD k 0).toNat < e.length by omega), wrap_succ (show k < 9223372036854775807 by omega), evApp_int (L := [⟨1, (tkn e (l.take k)).map fun n => .int .i64 n⟩]) (b := 0) (n := k) (by' := 8) (q := tkn e (l.take k)) rfl (by simp [tkn, h1]) (by omega) (by omega), tkn_take hlt]
      exact ⟨l.length - (k + 1), by omega, hI0 _ _ ⟨k + 1, (), mixI rfl, hlt, rfl⟩⟩
    · obtain rfl : k = l.length := by omega
      simp -implicitDefEqProofs only [go_sem, Nat.reduceAdd, Nat.reduceSub, reduceCtorEq, Nat.reduceLT, Nat.reduceLeDiff, Nat.reduceEqDiff, Nat.reduceMul, Int.reduceToNat, ↓reduceIte, Tryz.ntmps166, Tryz.results166, Int.ofNat_lt, hlt, tkn_len]
      rw [← tkn_len e l, List.take_length]
end Go.Proofs.YtkmnepmnjpdpkaaGreatDoor
namespace Go.Proofs.YtkmnepmnjpdpkaaGreatDoor
open Go Go.Ev Go.RowKit Go.Ev.Enc

structure Tsr where
  sh : List Int
  vl : List Int
  deriving DecidableEq

instance : Enc Tsr where
  enc t x := .agg [ints t x.sh, ints t x.vl]
  dec | .agg [x, y] => (dec x).bind fun a => (dec y).map fun b => ⟨a, b⟩
      | _ => none
  ok x a := by
    constructor
    · intro h
      split at h
      · simp only [Option.bind_eq_some_iff, Option.map_eq_some_iff] at h
        obtain ⟨p, hp, q, hq, rfl⟩ := h
        rw [(ok _ _).1 hp, (ok _ _).1 hq]; rfl
      · simp at h
    · rintro rfl
      show ((dec (enc 0 a.sh)).bind fun p => (dec (enc 0 a.vl)).map fun q => (⟨p, q⟩ : Tsr)) = some a
      rw [(ok _ a.sh).2 rfl, (ok _ a.vl).2 rfl]; rfl
  own a := .agg _ (by
    intro x hx
    simp only [List.mem_cons, List.not_mem_nil, or_false] at hx
    rcases hx with rfl | rfl
    · exact own a.sh
    · exact own a.vl)

theorem enc_tsr (t : Nat) (x : Tsr) : (enc t x : AV) = .agg [ints t x.sh, ints t x.vl] := rfl
theorem enc_tsrs (t : Nat) (l : List Tsr) : (enc t l : AV) = .ds t (l.map fun x => .agg [ints t x.sh, ints t x.vl]) := rfl
theorem dec_tsr (a b : List Int) : (dec (.agg [.ds 0 (a.map fun n => .int .i64 n), .ds 0 (b.map fun n => .int .i64 n)]) : Option Tsr) = some ⟨a, b⟩ := (ok _ _).2 rfl
theorem dec_tsrs (l : List Tsr) : (dec (.ds 0 (l.map fun x => .agg [ints 0 x.sh, ints 0 x.vl])) : Option (List Tsr)) = some l := (ok _ _).2 rfl
theorem ee_tsrs (t t' : Nat) (L : List Blk) (l : List Tsr) : expE (expC t L) (.ds t' (l.map fun x => .agg [ints t' x.sh, ints t' x.vl])) = .ds (min t' t) (l.map fun x => .agg [ints (min t' t) x.sh, ints (min t' t) x.vl]) := by
  simp [expE, expC, stepC, Function.comp_def]
theorem getD_tsrs {t : Nat} {l : List Tsr} {k : Nat} (h : k < l.length) : (l.map fun x => AV.agg [ints t x.sh, ints t x.vl]).getD k .any = .agg [ints t (l.getD k ⟨[], []⟩).sh, ints t (l.getD k ⟨[], []⟩).vl] := by simp [h]

theorem tsr_eta (x : Tsr) : (⟨x.sh, x.vl⟩ : Tsr) = x := rfl
theorem gcV_tsrs (n : Nat) (L : List Blk) (t : Nat) (l : List Tsr) : gcV n L (.ds t (l.map fun x => .agg [ints t x.sh, ints t x.vl])) = .ds t (l.map fun x => .agg [ints t x.sh, ints t x.vl]) := by
  simp [gcV, expE, gcC, gcStep, Function.comp_def]
theorem expS_tsrs (t t' : Nat) (L : List Blk) (e ver off len : Nat) (q : List Tsr) : expS t L ver off len (some ⟨e, q.map fun x => .agg [ints t' x.sh, ints t' x.vl]⟩) = if q.length = ver ∧ off + len ≤ ver then .ds t (((q.drop off).take len).map fun x => .agg [ints (min t' t) x.sh, ints (min t' t) x.vl]) else .any := by
  simp [expS, expE, stepC, Function.comp_def]
attribute [go_sem] expS_tsrs gcV_tsrs enc_tsr enc_tsrs dec_tsr dec_tsrs ee_tsrs tsr_eta

def notEnt (x : Int) : Bool := decide (x < -1000000) || decide (1000000 < x)
def tsrOK (x : Tsr) : Bool := shapeOK x.sh && decide ((x.vl.length : Int) = prodW x.sh) && !x.vl.any notEnt
end Go.Proofs.YtkmnepmnjpdpkaaGreatDoor
namespace Go.Proofs.YtkmnepmnjpdpkaaGreatDoor
open Go Go.Ev Go.RowKit Go.Ev.Enc

def shapeS (l : List Int) : Bool := decide (l.length ≤ 4) && l.all (fun n => inR n 0 60) && decide (prodW l ≤ 60)
theorem shapeS_eq (l : List Int) : shapeS l = shapeOK l := rfl
set_option maxHeartbeats 2000000 in
set_option maxRecDepth 100000 in
theorem spec_validShape {Sg : FuncId → Option (List AV → Option AV)} (hS : Sound Tryz.prog Sg) (ha : Sg 114 = some (F3 gAllIn)) (hc : Sg 172 = some (F1 gCount)) : ∀ a r, F1 gIsShape a = some r → CSpec Tryz.prog 179 a r := by
  refine spec1 Tryz.func179 rfl Tryz.pf hS ?_
  intro l r hr
  obtain ⟨hl, rfl⟩ := gd_some hr
  by_cases h1 : (l.length : Int) ≤ 4
  · cases h2 : l.all fun n => inR n 0 60 with
    | false =>
      simp -implicitDefEqProofs only [go_sem, Nat.reduceAdd, Nat.reduceSub, reduceCtorEq, Nat.reduceLT, Nat.reduceLeDiff, Nat.reduceEqDiff, Nat.reduceMul, Int.reduceToNat, ↓reduceIte, Tryz.ntmps179, Tryz.results179, h1, ha, gAllIn_eq hl, h2]
      have : shapeOK l = false := by rw [← shapeS_eq]; unfold shapeS; rw [h2]; simp
      rw [this]
    | true =>
      have h4 : l.length ≤ 4 := by omega
      by_cases h3 : prodW l ≤ 60
      · simp -implicitDefEqProofs only [go_sem, Nat.reduceAdd, Nat.reduceSub, reduceCtorEq, Nat.reduceLT, Nat.reduceLeDiff, Nat.reduceEqDiff, Nat.reduceMul, Int.reduceToNat, ↓reduceIte, Tryz.ntmps179, Tryz.results179, h1, ha, gAllIn_eq hl, h2, hc, gCount_eq hl, h3]
        rw [← shapeS_eq]; unfold shapeS; rw [h2]; simp [h3, h4]
      · simp -implicitDefEqProofs only [go_sem, Nat.reduceAdd, Nat.reduceSub, reduceCtorEq, Nat.reduceLT, Nat.reduceLeDiff, Nat.reduceEqDiff, Nat.reduceMul, Int.reduceToNat, ↓reduceIte, Tryz.ntmps179, Tryz.results179, h1, ha, gAllIn_eq hl, h2, hc, gCount_eq hl, h3]
        rw [← shapeS_eq]; unfold shapeS; rw [h2]; simp [h3, h4]
  · simp -implicitDefEqProofs only [go_sem, Nat.reduceAdd, Nat.reduceSub, reduceCtorEq, Nat.reduceLT, Nat.reduceLeDiff, Nat.reduceEqDiff, Nat.reduceMul, Int.reduceToNat, ↓reduceIte, Tryz.ntmps179, Tryz.results179, h1]
    rw [← shapeS_eq]; unfold shapeS
    have h4 : ¬ l.length ≤ 4 := by omega
    simp [h4]

end Go.Proofs.YtkmnepmnjpdpkaaGreatDoor
namespace Go.Proofs.YtkmnepmnjpdpkaaGreatDoor
open Go Go.Ev Go.RowKit Go.Ev.Enc

def szOK (l : List Tsr) (b : List (List Int)) : Prop := l.length < 4294967296 ∧ b.length < 4294967296 ∧ (∀ k, k < l.length → (l.getD k ⟨[], []⟩).sh.length < 4294967296 ∧ (l.getD k ⟨[], []⟩).vl.length < 4294967296) ∧ (∀ k, k < b.length → (b.getD k []).length < 4294967296)
instance (l : List Tsr) (b : List (List Int)) : Decidable (szOK l b) := by unfold szOK; infer_instance
end Go.Proofs.YtkmnepmnjpdpkaaGreatDoor
namespace Go.Proofs.YtkmnepmnjpdpkaaGreatDoor
open Go Go.Ev Go.RowKit Go.Ev.Enc

theorem drop_getD {α : Type} {l : List α} {k : Nat} {d : α} (h : k < l.length) : l.drop k = l.getD k d :: l.drop (k + 1) := by
  rw [List.drop_eq_getElem_cons h]; simp [h]
theorem list_ext {α : Type} {a b : List α} {d : α} (h : a.length = b.length) (hi : ∀ i, i < a.length → a.getD i d = b.getD i d) : a = b := by
  refine List.ext_getElem h fun i h1 h2 => ?_
  have := hi i h1
  simpa [h1, h2] using this
theorem ints_ext {a b : List Int} (h : a.length = b.length) (hi : ∀ i, i < a.length → a.getD i 0 = b.getD i 0) : a = b := list_ext h hi
def fillA {α : Type} (f : α → AV) (l : List α) (k : Nat) (z : AV) : List AV := (l.take k).map f ++ List.replicate (l.length - k) z
theorem fillA_len {α : Type} {f : α → AV} {l : List α} {k : Nat} {z : AV} (h : k ≤ l.length) : (fillA f l k z).length = l.length := by
  simp [fillA]; omega
theorem fillA_at {α : Type} {f : α → AV} {l : List α} {k : Nat} {z : AV} (h : k < l.length) : (fillA f l k z).getD k .any = z := by
  unfold fillA
  have e : k - ((l.take k).map f).length = 0 := by simp; omega
  rw [List.getD_eq_getElem?_getD, List.getElem?_append_right (by simp; omega), e, show l.length - k = (l.length - (k + 1)) + 1 by omega, List.replicate_succ]
  rfl
theorem fillA_set {α : Type} {f : α → AV} {l : List α} {k : Nat} {z : AV} {d : α} (h : k < l.length) : (fillA f l k z).set k (f (l.getD k d)) = fillA f l (k + 1) z := by
  unfold fillA
  rw [List.set_append_right _ _ (by simp; omega)]
  have e : k - ((l.take k).map f).length = 0 := by simp; omega
  rw [e, show l.length - k = (l.length - (k + 1)) + 1 by omega, List.replicate_succ, List.set_cons_zero, List.take_succ_eq_append_getElem h, List.map_append]
  simp [h]
theorem fillA_full {α : Type} {f : α → AV} {l : List α} {z : AV} : fillA f l l.length z = l.map f := by simp [fillA]
theorem fillA_zero {α : Type} {f : α → AV} {l : List α} {z : AV} : fillA f l 0 z = List.replicate l.length z := by simp [fillA]

def szI (n : Nat) (left : Int) : Int := if left < n then -1 else left - n
def gSzInts (l : List Int) (left : Int) : Option Int := gd (l.length < 9223372036854775808 ∧ 0 ≤ left ∧ left ≤ 1048576) (szI l.length left)
theorem gSzInts_eq {l : List Int} {left : Int} (h : l.length < 9223372036854775808 ∧ 0 ≤ left ∧ left ≤ 1048576) : gSzInts l left = some (szI l.length left) := gd_eq h
theorem szI_neg {n : Nat} {left : Int} (h : left < n) : szI n left = -1 := if_pos h
theorem szI_m1 {n : Nat} {left : Int} (h : szI n left < 0) : szI n left = -1 := by
  by_cases hc : left < n
  · exact if_pos hc
  · unfold szI at h ⊢
    rw [if_neg hc] at h
    omega
theorem szI_pos {n : Nat} {left : Int} (h : ¬ left < n) : szI n left = left - n := if_neg h
set_option maxHeartbeats 2000000 in
set_option maxRecDepth 100000 in
theorem spec_szIntS {Sg : FuncId → Option (List AV → Option AV)} (hS : Sound Tryz.prog Sg) : ∀ a r, F2 gSzInts a = some r → CSpec Tryz.prog 85 a r := by
  refine spec2 Tryz.func85 rfl Tryz.pf hS ?_
  intro l left r hr
  obtain ⟨⟨h1, h2, h3⟩, rfl⟩ := gd_some hr
  repeat' (first | with_reducible first | refine kI (by kernel_rfl) ?_ | (first | refine kB1 ?_ ?_ | refine kB2 ?_ ?_) <;> intro hp | (first | refine kD1 ?_ ?_ | refine kD2 ?_ ?_ | refine kS1 ?_ ?_ | refine kS2 ?_ ?_) <;> intro hp <;> try simp only [hp] | simp -implicitDefEqProofs (disch := omega) only [go_sem, Nat.reduceAdd, Nat.reduceSub, reduceCtorEq, Nat.reduceLT, Nat.reduceLeDiff, Nat.reduceEqDiff, Nat.reduceMul, Int.reduceToNat, ↓reduceIte, List.take_of_length_le, if_pos, if_neg, getD_tsrs, fillA_len, fillA_at, fillA_full, cnE, Tryz.ntmps85, Tryz.results85])
  · rw [szI_neg (by omega)]
  · rw [szI_pos (by omega)]

def rowsOK (l : List (List Int)) : Prop := ∀ k, k < l.length → (l.getD k []).length < 4294967296
instance (l : List (List Int)) : Decidable (rowsOK l) := by unfold rowsOK; infer_instance
def tsrB (x : Tsr) : Prop := x.sh.length < 4294967296 ∧ x.vl.length < 4294967296
instance (x : Tsr) : Decidable (tsrB x) := by unfold tsrB; infer_instance
def gEqInts (a b : List Int) : Option Bool := gd (a.length < 4294967296 ∧ b.length < 4294967296) (decide (a = b))
theorem gEqInts_eq {a b : List Int} (h : a.length < 4294967296 ∧ b.length < 4294967296) : gEqInts a b = some (decide (a = b)) := gd_eq h
set_option maxHeartbeats 2000000 in
set_option maxRecDepth 100000 in
theorem spec_eqIntS {Sg : FuncId → Option (List AV → Option AV)} (hS : Sound Tryz.prog Sg) : ∀ a r, F2 gEqInts a = some r → CSpec Tryz.prog 79 a r := by
  refine spec2 Tryz.func79 rfl Tryz.pf hS ?_
  intro a b r hr
  obtain ⟨⟨h1, h2⟩, rfl⟩ := gd_some hr
  repeat' (first | with_reducible first | refine kI (by kernel_rfl) ?_ | (first | refine kB1 ?_ ?_ | refine kB2 ?_ ?_) <;> intro hp | (first | refine kD1 ?_ ?_ | refine kD2 ?_ ?_ | refine kS1 ?_ ?_ | refine kS2 ?_ ?_) <;> intro hp <;> try simp only [hp] | simp -implicitDefEqProofs (disch := omega) only [go_sem, Nat.reduceAdd, Nat.reduceSub, reduceCtorEq, Nat.reduceLT, Nat.reduceLeDiff, Nat.reduceEqDiff, Nat.reduceMul, Int.reduceToNat, ↓reduceIte, List.take_of_length_le, if_pos, if_neg, getD_tsrs, fillA_len, fillA_at, fillA_full, cnE, Tryz.ntmps79, Tryz.results79])
  rotate_left
  · rw [decide_eq_false (fun h => hp (by rw [h]))]
  refine LoopQ.mix (fun t0 L0 nn ss => ∃ (k : Nat) (_ : Unit), (∃ x : Nat → AV, ss = ⟨mixL 0 (.k :: .k :: .k :: .k :: .s :: .v (i64 (k : Nat)) :: .k :: .k :: .k :: .k :: .k :: .s :: .s :: .s :: .s :: .s :: .s :: .s :: .s :: .s :: .s :: .s :: .s :: .s :: .s :: .s :: []) t0 x, L0⟩) ∧ (k ≤ a.length) ∧ (∀ i, i < k → a.getD i 0 = b.getD i 0) ∧ nn = a.length - k) ?_ ?_
  · exact ⟨_, ⟨0, (), mixI rfl, Nat.zero_le _, fun i hi => absurd hi (Nat.not_lt_zero _), rfl⟩⟩
  · rintro I0 hI0 n s ⟨k, _, ⟨x, rfl⟩, g1, g2, rfl⟩
    by_cases hlt : k < a.length
    · repeat' (first | with_reducible first | refine kI (by kernel_rfl) ?_ | (first | refine kB1 ?_ ?_ | refine kB2 ?_ ?_) <;> intro hp | (first | refine kD1 ?_ ?_ | refine kD2 ?_ ?_ | refine kS1 ?_ ?_ | refine kS2 ?_ ?_) <;> intro hp <;> try simp only [hp] | simp -implicitDefEqProofs (disch := omega) only [go_sem, Nat.reduceAdd, Nat.reduceSub, reduceCtorEq, Nat.reduceLT, Nat.reduceLeDiff, Nat.reduceEqDiff, Nat.reduceMul, Int.reduceToNat, ↓reduceIte, List.take_of_length_le, if_pos, if_neg, getD_tsrs, fillA_len, fillA_at, fillA_full, cnE, Tryz.ntmps79, Tryz.results79])
      · exact ⟨a.length - (k + 1), by omega, hI0 _ _ ⟨k + 1, (), mixI rfl, hlt, fun i hi => if h : i = k then by subst h; exact hp else g2 i (by omega), rfl⟩⟩
      · rw [decide_eq_false (fun h => hp (by rw [h]))]
    · obtain rfl : k = a.length := by omega
      repeat' (first | with_reducible first | refine kI (by kernel_rfl) ?_ | (first | refine kB1 ?_ ?_ | refine kB2 ?_ ?_) <;> intro hp | (first | refine kD1 ?_ ?_ | refine kD2 ?_ ?_ | refine kS1 ?_ ?_ | refine kS2 ?_ ?_) <;> intro hp <;> try simp only [hp] | simp -implicitDefEqProofs (disch := omega) only [go_sem, Nat.reduceAdd, Nat.reduceSub, reduceCtorEq, Nat.reduceLT, Nat.reduceLeDiff, Nat.reduceEqDiff, Nat.reduceMul, Int.reduceToNat, ↓reduceIte, List.take_of_length_le, if_pos, if_neg, getD_tsrs, fillA_len, fillA_at, fillA_full, cnE, Tryz.ntmps79, Tryz.results79])
      rw [decide_eq_true (ints_ext (by omega) g2)]

def tsrsB (l : List Tsr) : Prop := ∀ k, k < l.length → tsrB (l.getD k ⟨[], []⟩)
instance (l : List Tsr) : Decidable (tsrsB l) := by unfold tsrsB; infer_instance
theorem szI_le {n : Nat} {left : Int} (h : ¬ szI n left < 0) : szI n left = left - n ∧ (n : Int) ≤ left := by
  unfold szI at *
  split at h <;> omega
def bigRows (l : List (List Int)) : Prop := ∀ k, k < l.length → (l.getD k []).length < 9223372036854775808
instance (l : List (List Int)) : Decidable (bigRows l) := by unfold bigRows; infer_instance
def szT (x : Tsr) (left : Int) : Int := if szI x.sh.length left < 0 then -1 else szI x.vl.length (szI x.sh.length left)
def tsrBig (x : Tsr) : Prop := x.sh.length < 9223372036854775808 ∧ x.vl.length < 9223372036854775808
instance (x : Tsr) : Decidable (tsrBig x) := by unfold tsrBig; infer_instance
def szTs : List Tsr → Int → Int
  | [], n => n
  | x :: r, n => if szT x n < 0 then -1 else szTs r (szT x n)
theorem szT_le {x : Tsr} {left : Int} (h : ¬ szT x left < 0) : szT x left = left - x.sh.length - x.vl.length ∧ (x.sh.length : Int) + x.vl.length ≤ left := by
  by_cases h3 : szI x.sh.length left < 0
  · exact absurd (by rw [szT, if_pos h3]; omega) h
  · rw [szT, if_neg h3] at h ⊢
    have h1 := szI_le h3
    have h2 := szI_le h
    omega
theorem szTs_step {l : List Tsr} {k : Nat} {n : Int} (h : k < l.length) : szTs (l.drop k) n = if szT (l.getD k ⟨[], []⟩) n < 0 then -1 else szTs (l.drop (k + 1)) (szT (l.getD k ⟨[], []⟩) n) := by
  rw [drop_getD (d := ⟨[], []⟩) h]; rfl
def tsrsBig (l : List Tsr) : Prop := ∀ k, k < l.length → tsrBig (l.getD k ⟨[], []⟩)
instance (l : List Tsr) : Decidable (tsrsBig l) := by unfold tsrsBig; infer_instance
def szTS (l : List Tsr) (left : Int) : Int := if szI l.length left < 0 then -1 else szTs l (szI l.length left)
theorem szTS_ok {l : List Tsr} {left : Int} (hl : left ≤ 1048576) (h : ¬ szTS l left < 0) : l.length ≤ 1048576 ∧ (∀ k, k < l.length → (l.getD k ⟨[], []⟩).sh.length ≤ 1048576 ∧ (l.getD k ⟨[], []⟩).vl.length ≤ 1048576) ∧ szTS l left ≤ 1048576 := by
  unfold szTS at h ⊢
  split at h
  · omega
  · rename_i h0
    rw [if_neg h0]
    have h1 := szI_le h0
    have key : ∀ (r : List Tsr) (n : Int), n ≤ 1048576 → ¬ szTs r n < 0 → (∀ x ∈ r, x.sh.length ≤ 1048576 ∧ x.vl.length ≤ 1048576) ∧ szTs r n ≤ 1048576 := by
      intro r
      induction r with
      | nil => intro n hn _; exact ⟨by simp, hn⟩
      | cons y r ih =>
        intro n hn hs
        unfold szTs at hs ⊢
        split at hs
        · omega
        · rename_i h2
          rw [if_neg h2]
          have h3 := szT_le h2
          have := ih _ (by omega) hs
          refine ⟨fun x hx => ?_, this.2⟩
          rcases List.mem_cons.1 hx with rfl | hx
          · omega
          · exact this.1 x hx
    have := key l _ (by omega) h
    exact ⟨by omega, fun k hk => this.1 _ (by simp [hk]), this.2⟩
end Go.Proofs.YtkmnepmnjpdpkaaGreatDoor
namespace Go.Proofs.YtkmnepmnjpdpkaaGreatDoor
open Go Go.Ev Go.RowKit Go.Ev.Enc

end Go.Proofs.YtkmnepmnjpdpkaaGreatDoor
namespace Go.Proofs.YtkmnepmnjpdpkaaGreatDoor
open Go Go.Ev Go.RowKit Go.Ev.Enc

def pairIn (n : Nat) (i j : Int) : Prop := 0 ≤ i ∧ i < n ∧ 0 ≤ j ∧ j < n
instance (n : Nat) (i j : Int) : Decidable (pairIn n i j) := by unfold pairIn; infer_instance
def keepB (b : List (List Int)) (out : List Int) (i j : Int) : Prop := ((b.length < 4294967296 ∧ out.length < 4294967296) ∧ rowsOK b) ∧ pairIn b.length i j
instance (b : List (List Int)) (out : List Int) (i j : Int) : Decidable (keepB b out i j) := by unfold keepB; infer_instance
end Go.Proofs.YtkmnepmnjpdpkaaGreatDoor
namespace Go.Proofs.YtkmnepmnjpdpkaaGreatDoor
open Go Go.Ev Go.RowKit Go.Ev.Enc

def pairOK (n : Nat) (i j : Int) : Prop := 0 ≤ i ∧ i < n ∧ 0 ≤ j ∧ j < n ∧ i ≠ j
instance (n : Nat) (i j : Int) : Decidable (pairOK n i j) := by unfold pairOK; infer_instance
end Go.Proofs.YtkmnepmnjpdpkaaGreatDoor
namespace Go.Proofs.YtkmnepmnjpdpkaaGreatDoor
open Go Go.Ev Go.RowKit Go.Ev.Enc Go.Pl

def bigB (ls : List (List Int)) : Prop := ls.length ≤ 1048576 ∧ ∀ k, k < ls.length → (ls.getD k []).length ≤ 1048576
instance (ls : List (List Int)) : Decidable (bigB ls) := by unfold bigB; infer_instance
def rowsOf (T : List (Nat × List Int)) : List AV := T.map fun p => .ds p.1 (p.2.map fun n => .int .i64 n)
theorem ee_rows1 (t t' u : Nat) (L : List Blk) (a : List Int) : expE (expC t L) (.ds t' [.ds u (a.map fun n => .int .i64 n)]) = .ds (min t' t) [.ds (min u t) (a.map fun n => .int .i64 n)] := by
  simp [expE, expC, stepC, Function.comp_def]
theorem ee_rows2 (t t' u v : Nat) (L : List Blk) (a b : List Int) : expE (expC t L) (.ds t' [.ds u (a.map fun n => .int .i64 n), .ds v (b.map fun n => .int .i64 n)]) = .ds (min t' t) [.ds (min u t) (a.map fun n => .int .i64 n), .ds (min v t) (b.map fun n => .int .i64 n)] := by
  simp [expE, expC, stepC, Function.comp_def]
theorem ee_rowsT (t t' : Nat) (L : List Blk) (T : List (Nat × List Int)) : expE (expC t L) (.ds t' (rowsOf T)) = .ds (min t' t) (T.map fun p => .ds (min p.1 t) (p.2.map fun n => .int .i64 n)) := by
  simp [rowsOf, expE, expC, stepC, Function.comp_def]
theorem expS_rowsT (t : Nat) (L : List Blk) (e ver off len : Nat) (T : List (Nat × List Int)) : expS t L ver off len (some ⟨e, rowsOf T⟩) = if (rowsOf T).length = ver ∧ off + len ≤ ver then .ds t (((T.drop off).take len).map fun p => .ds (min p.1 t) (p.2.map fun n => .int .i64 n)) else .any := by
  simp [rowsOf, expS, expE, stepC, Function.comp_def]
theorem dec_rows1 (a : List Int) : (dec (.ds 0 [.ds 0 (a.map fun n => .int .i64 n)]) : Option (List (List Int))) = some [a] := (ok _ _).2 rfl
theorem dec_rows2 (a b : List Int) : (dec (.ds 0 [.ds 0 (a.map fun n => .int .i64 n), .ds 0 (b.map fun n => .int .i64 n)]) : Option (List (List Int))) = some [a, b] := (ok _ _).2 rfl
theorem dec_rowsT (T : List (Nat × List Int)) : (dec (.ds 0 (T.map fun p => .ds 0 (p.2.map fun n => .int .i64 n))) : Option (List (List Int))) = some (T.map (·.2)) := (ok _ _).2 (by
  show _ = AV.ds 0 ((T.map (·.2)).map fun r => .ds 0 (r.map fun n => .int .i64 n))
  rw [List.map_map]; rfl)
theorem rowsOf_len (T : List (Nat × List Int)) : (rowsOf T).length = T.length := by simp [rowsOf]
attribute [go_sem] ee_rows1 ee_rows2 ee_rowsT expS_rowsT dec_rows1 dec_rows2 dec_rowsT rowsOf_len Nat.zero_min Nat.min_zero

def rowsM (l : List (List Int)) : Prop := ∀ k, k < l.length → (l.getD k []).length ≤ 1048576
instance (l : List (List Int)) : Decidable (rowsM l) := by unfold rowsM; infer_instance
def labsIn (b : List (List Int)) : Prop := ∀ k, k < b.length → labOK (b.getD k []) = true
instance (b : List (List Int)) : Decidable (labsIn b) := by unfold labsIn; infer_instance
def keptB (b : List (List Int)) (out : List Int) (i j : Int) : Prop := ((b.length ≤ 3 ∧ out.length ≤ 1048576) ∧ rowsM b) ∧ pairIn b.length i j
instance (b : List (List Int)) (out : List Int) (i j : Int) : Decidable (keptB b out i j) := by unfold keptB; infer_instance
inductive IsRows : AV → List Blk → List (Nat × List Int) → Prop
  | ds (T) : IsRows (.ds 2 (rowsOf T)) [] T
  | sl (n T) : T.length = n → IsRows (.sl 0 n 0 n n) [⟨1, rowsOf T⟩] T
end Go.Proofs.YtkmnepmnjpdpkaaGreatDoor
namespace Go.Proofs.YtkmnepmnjpdpkaaGreatDoor
open Go Go.Ev Go.RowKit Go.Ev.Enc Go.Pl

end Go.Proofs.YtkmnepmnjpdpkaaGreatDoor
