/- Contracts of functions on lists, shapes and numbers that the laws of this seat call. -/
import Derived.Test.YtjmkdnnfhphckaaFacts
import Derived.Test.YtjmkdnnfhphckaaShelf
import Derived.Test.YtjmkdnnfhphckaaEvC
set_option linter.all false
namespace Go.Proofs.Ytjmkdnnfhphckaa
open Go Go.Ev Go.RowKit Go.Ev.Enc

def prodW (l : List Int) : Int := l.foldl (fun n e => IntKind.i64.wrap (n * e)) 1
theorem prodW_take {l : List Int} {k : Nat} (h : k < l.length) : IntKind.i64.wrap (prodW (l.take k) * l.getD k 0) = prodW (l.take (k + 1)) := by
  rw [take_succ_getD h]; simp only [prodW, List.foldl_append, List.foldl_cons, List.foldl_nil]
def gCountOf (l : List Int) : Option Int := gd (l.length < 4294967296) (prodW l)
theorem gCountOf_eq {l : List Int} (h : l.length < 4294967296) : gCountOf l = some (prodW l) := gd_eq h
theorem getD_pos {l : List Int} {k : Nat} (h : k < l.length) : l[k]? = some (l.getD k 0) := by simp [h]

set_option maxHeartbeats 2000000 in
set_option maxRecDepth 100000 in
theorem spec_countOf {Sg : FuncId → Option (List AV → Option AV)} (hS : Sound Try.prog Sg) : ∀ a r, F1 gCountOf a = some r → CSpec Try.prog 27 a r := by
  refine spec1 Try.func27 rfl Try.pf hS ?_
  intro l r hr
  obtain ⟨hl, rfl⟩ := gd_some hr
  simp -implicitDefEqProofs only [go_sem, Nat.reduceAdd, Nat.reduceSub, reduceCtorEq, Nat.reduceLT, Nat.reduceLeDiff, Nat.reduceEqDiff, Nat.reduceMul, Int.reduceToNat, ↓reduceIte, Try.ntmps27, Try.results27]
  refine LoopQ.mix (fun t0 L0 nn ss => ∃ (k : Nat) (_ : Unit), (∃ x : Nat → AV, ss = ⟨mixL 0 (.k :: .k :: .k :: .v (i64 (prodW (l.take k))) :: .k :: .s :: .k :: .k :: .v (i64 (k : Nat)) :: .s :: .s :: .s :: .s :: .s :: .s :: .s :: .k :: []) t0 x, L0⟩) ∧ (k ≤ l.length) ∧ nn = l.length - k) ⟨l.length, ?_⟩ ?_
  · exact ⟨0, (), mixI rfl, Nat.zero_le _, rfl⟩
  · rintro I0 hI0 n s ⟨k, _, ⟨x, rfl⟩, h1, rfl⟩
    by_cases hlt : k < l.length
    · simp -implicitDefEqProofs only [go_sem, Nat.reduceAdd, Nat.reduceSub, reduceCtorEq, Nat.reduceLT, Nat.reduceLeDiff, Nat.reduceEqDiff, Nat.reduceMul, Int.reduceToNat, ↓reduceIte, Try.ntmps27, Try.results27, Int.ofNat_lt, hlt, getD_ints hlt, wrap_succ (show k < 9223372036854775807 by omega), prodW_take hlt]
      exact ⟨l.length - (k + 1), by omega, hI0 _ _ ⟨k + 1, (), mixI rfl, hlt, rfl⟩⟩
    · obtain rfl : k = l.length := by omega
      simp -implicitDefEqProofs only [go_sem, Nat.reduceAdd, Nat.reduceSub, reduceCtorEq, Nat.reduceLT, Nat.reduceLeDiff, Nat.reduceEqDiff, Nat.reduceMul, Int.reduceToNat, ↓reduceIte, Try.ntmps27, Try.results27, Int.ofNat_lt, hlt]

def inExt (e : Int) : Bool := decide (0 ≤ e) && decide (e ≤ 60)
def shapeOK (l : List Int) : Bool := decide (l.length ≤ 4) && l.all inExt && decide (prodW l ≤ 60)
def gIsShape (l : List Int) : Option Bool := gd (l.length < 4294967296) (shapeOK l)
theorem gIsShape_eq {l : List Int} (h : l.length < 4294967296) : gIsShape l = some (shapeOK l) := gd_eq h

set_option maxHeartbeats 2000000 in
set_option maxRecDepth 100000 in
theorem spec_isShape {Sg : FuncId → Option (List AV → Option AV)} (hS : Sound Try.prog Sg) (hc : Sg 27 = some (F1 gCountOf)) : ∀ a r, F1 gIsShape a = some r → CSpec Try.prog 21 a r := by
  refine spec1 Try.func21 rfl Try.pf hS ?_
  intro l r hr
  obtain ⟨hl, rfl⟩ := gd_some hr
  by_cases h4 : l.length ≤ 4
  · have h4' : ¬ (4 : Int) < (l.length : Int) := by omega
    simp -implicitDefEqProofs only [go_sem, Nat.reduceAdd, Nat.reduceSub, reduceCtorEq, Nat.reduceLT, Nat.reduceLeDiff, Nat.reduceEqDiff, Nat.reduceMul, Int.reduceToNat, ↓reduceIte, Try.ntmps21, Try.results21, h4']
    refine LoopQ.mix (fun t0 L0 nn ss => ∃ (k : Nat) (_ : Unit), (∃ x : Nat → AV, ss = ⟨mixL 0 (.k :: .k :: .s :: .k :: .s :: .k :: .k :: .k :: .k :: .k :: .v (i64 (k : Nat)) :: .s :: .s :: .s :: .s :: .s :: .s :: .s :: .s :: .s :: .s :: .k :: .k :: .k :: []) t0 x, L0⟩) ∧ (k ≤ l.length) ∧ ((l.take k).all inExt = true) ∧ nn = l.length - k) ⟨l.length, ?_⟩ ?_
    · exact ⟨0, (), mixI rfl, Nat.zero_le _, rfl, rfl⟩
    · rintro I0 hI0 n s ⟨k, _, ⟨x, rfl⟩, h1, h2, rfl⟩
      by_cases hlt : k < l.length
      · have ea := all_take (p := inExt) hlt
        rw [h2, Bool.true_and] at ea
        by_cases ha : l.getD k 0 < 0
        · have hf := all_false (p := inExt) hlt (by simp [inExt]; intro h; exfalso; simp at ha; omega)
          simp -implicitDefEqProofs only [go_sem, Nat.reduceAdd, Nat.reduceSub, reduceCtorEq, Nat.reduceLT, Nat.reduceLeDiff, Nat.reduceEqDiff, Nat.reduceMul, Int.reduceToNat, ↓reduceIte, Try.ntmps21, Try.results21, Int.ofNat_lt, hlt, getD_ints hlt, ha]
          simp [shapeOK, hf]
        · by_cases hb : 60 < l.getD k 0
          · have hf := all_false (p := inExt) hlt (by simp only [inExt, Bool.and_eq_false_iff, decide_eq_false_iff_not]; right; omega)
            simp -implicitDefEqProofs only [go_sem, Nat.reduceAdd, Nat.reduceSub, reduceCtorEq, Nat.reduceLT, Nat.reduceLeDiff, Nat.reduceEqDiff, Nat.reduceMul, Int.reduceToNat, ↓reduceIte, Try.ntmps21, Try.results21, Int.ofNat_lt, hlt, getD_ints hlt, ha, hb]
            simp [shapeOK, hf]
          · have hg : inExt (l.getD k 0) = true := by simp only [inExt, Bool.and_eq_true, decide_eq_true_eq]; omega
            rw [hg] at ea
            simp -implicitDefEqProofs only [go_sem, Nat.reduceAdd, Nat.reduceSub, reduceCtorEq, Nat.reduceLT, Nat.reduceLeDiff, Nat.reduceEqDiff, Nat.reduceMul, Int.reduceToNat, ↓reduceIte, Try.ntmps21, Try.results21, Int.ofNat_lt, hlt, getD_ints hlt, ha, hb, wrap_succ (show k < 9223372036854775807 by omega)]
            exact ⟨l.length - (k + 1), by omega, hI0 _ _ ⟨k + 1, (), mixI rfl, hlt, ea, rfl⟩⟩
      · obtain rfl : k = l.length := by omega
        rw [List.take_length] at h2
        simp -implicitDefEqProofs only [go_sem, Nat.reduceAdd, Nat.reduceSub, reduceCtorEq, Nat.reduceLT, Nat.reduceLeDiff, Nat.reduceEqDiff, Nat.reduceMul, Int.reduceToNat, ↓reduceIte, Try.ntmps21, Try.results21, Int.ofNat_lt, hlt, hc, gCountOf_eq hl]
        simp [shapeOK, h2, h4]
  · have h4' : (4 : Int) < (l.length : Int) := by omega
    simp -implicitDefEqProofs only [go_sem, Nat.reduceAdd, Nat.reduceSub, reduceCtorEq, Nat.reduceLT, Nat.reduceLeDiff, Nat.reduceEqDiff, Nat.reduceMul, Int.reduceToNat, ↓reduceIte, Try.ntmps21, Try.results21, h4']
    simp [shapeOK, h4]

/-- the index is one of the shape -/
def idxAll (shape index : List Int) (k : Nat) : Prop := ∀ i, i < k → 0 ≤ index.getD i 0 ∧ index.getD i 0 < shape.getD i 0
def idxOK (shape index : List Int) : Bool := decide (index.length = shape.length) && decide (∀ i, i < index.length → 0 ≤ index.getD i 0 ∧ index.getD i 0 < shape.getD i 0)
theorem idxOK_false {s i : List Int} {k : Nat} (hk : k < i.length) (h : ¬ (0 ≤ i.getD k 0 ∧ i.getD k 0 < s.getD k 0)) : idxOK s i = false := by
  unfold idxOK
  rw [Bool.and_eq_false_iff, decide_eq_false_iff_not, decide_eq_false_iff_not]
  exact Or.inr fun g => h (g k hk)
theorem idxOK_true {s i : List Int} (hl : i.length = s.length) (h : idxAll s i i.length) : idxOK s i = true := by
  unfold idxOK
  rw [Bool.and_eq_true, decide_eq_true_eq, decide_eq_true_eq]
  exact ⟨hl, h⟩
def gIsIndex (shape index : List Int) : Option Bool := gd (shape.length < 4294967296 ∧ index.length < 4294967296) (idxOK shape index)
theorem gIsIndex_eq {s i : List Int} (h : s.length < 4294967296) (h' : i.length < 4294967296) : gIsIndex s i = some (idxOK s i) := gd_eq ⟨h, h'⟩

set_option maxHeartbeats 2000000 in
set_option maxRecDepth 100000 in
theorem spec_isIndex {Sg : FuncId → Option (List AV → Option AV)} (hS : Sound Try.prog Sg) : ∀ a r, F2 gIsIndex a = some r → CSpec Try.prog 29 a r := by
  refine spec2 Try.func29 rfl Try.pf hS ?_
  intro a l r hr
  obtain ⟨⟨ha, hl⟩, rfl⟩ := gd_some hr
  by_cases he : l.length = a.length
  · have he' : ((l.length : Int) == (a.length : Int)) = true := beq_t (by omega)
    simp -implicitDefEqProofs only [go_sem, Nat.reduceAdd, Nat.reduceSub, reduceCtorEq, Nat.reduceLT, Nat.reduceLeDiff, Nat.reduceEqDiff, Nat.reduceMul, Int.reduceToNat, ↓reduceIte, Try.ntmps29, Try.results29, he']
    refine LoopQ.mix (fun t0 L0 nn ss => ∃ (k : Nat) (_ : Unit), (∃ x : Nat → AV, ss = ⟨mixL 0 (.k :: .k :: .k :: .k :: .s :: .s :: .s :: .k :: .k :: .k :: .k :: .k :: .k :: .k :: .v (i64 (k : Nat)) :: .s :: .s :: .s :: .s :: .s :: .s :: .s :: .s :: .s :: .s :: .s :: .s :: .s :: .s :: .s :: []) t0 x, L0⟩) ∧ (k ≤ l.length) ∧ (idxAll a l k) ∧ nn = l.length - k) ⟨l.length, ?_⟩ ?_
    · exact ⟨0, (), mixI rfl, Nat.zero_le _, fun i hi => absurd hi (Nat.not_lt_zero _), rfl⟩
    · rintro I0 hI0 n s ⟨k, _, ⟨x, rfl⟩, h1, h2, rfl⟩
      by_cases hlt : k < l.length
      · have hka : k < a.length := by omega
        by_cases hc1 : l.getD k 0 < 0
        · simp -implicitDefEqProofs only [go_sem, Nat.reduceAdd, Nat.reduceSub, reduceCtorEq, Nat.reduceLT, Nat.reduceLeDiff, Nat.reduceEqDiff, Nat.reduceMul, Int.reduceToNat, ↓reduceIte, Try.ntmps29, Try.results29, Int.ofNat_lt, hlt, getD_ints hlt, hc1]
          rw [idxOK_false (k := k) hlt (fun h => absurd h.1 (Int.not_le.2 hc1))]
        · by_cases hc2 : a.getD k 0 ≤ l.getD k 0
          · simp -implicitDefEqProofs only [go_sem, Nat.reduceAdd, Nat.reduceSub, reduceCtorEq, Nat.reduceLT, Nat.reduceLeDiff, Nat.reduceEqDiff, Nat.reduceMul, Int.reduceToNat, ↓reduceIte, Try.ntmps29, Try.results29, Int.ofNat_lt, hlt, hka, getD_ints hlt, getD_ints hka, hc1, hc2]
            rw [idxOK_false (k := k) hlt (fun h => absurd h.2 (Int.not_lt.2 hc2))]
          · simp -implicitDefEqProofs only [go_sem, Nat.reduceAdd, Nat.reduceSub, reduceCtorEq, Nat.reduceLT, Nat.reduceLeDiff, Nat.reduceEqDiff, Nat.reduceMul, Int.reduceToNat, ↓reduceIte, Try.ntmps29, Try.results29, Int.ofNat_lt, hlt, hka, getD_ints hlt, getD_ints hka, hc1, hc2, wrap_succ (show k < 9223372036854775807 by omega)]
            exact ⟨l.length - (k + 1), by omega, hI0 _ _ ⟨k + 1, (), mixI rfl, hlt, fun i hi => if h : i = k then by subst h; exact ⟨Int.not_lt.1 hc1, Int.not_le.1 hc2⟩ else h2 i (by omega), rfl⟩⟩
      · obtain rfl : k = l.length := by omega
        simp -implicitDefEqProofs only [go_sem, Nat.reduceAdd, Nat.reduceSub, reduceCtorEq, Nat.reduceLT, Nat.reduceLeDiff, Nat.reduceEqDiff, Nat.reduceMul, Int.reduceToNat, ↓reduceIte, Try.ntmps29, Try.results29, Int.ofNat_lt, hlt]
        rw [idxOK_true he h2]
  · have he' : ((l.length : Int) == (a.length : Int)) = false := beq_f (by omega)
    simp -implicitDefEqProofs only [go_sem, Nat.reduceAdd, Nat.reduceSub, reduceCtorEq, Nat.reduceLT, Nat.reduceLeDiff, Nat.reduceEqDiff, Nat.reduceMul, Int.reduceToNat, ↓reduceIte, Try.ntmps29, Try.results29, he']
    simp [idxOK, he]
end Go.Proofs.Ytjmkdnnfhphckaa
namespace Go.Proofs.Ytjmkdnnfhphckaa
open Go Go.Ev Go.RowKit Go.Ev.Enc

def inR (n lo hi : Int) : Bool := decide (lo ≤ n) && decide (n ≤ hi)
def gInRange (n lo hi : Int) : Option Bool := gd True (inR n lo hi)
theorem gInRange_eq (n lo hi : Int) : gInRange n lo hi = some (inR n lo hi) := rfl
set_option maxHeartbeats 2000000 in
set_option maxRecDepth 100000 in
theorem spec_inRange {Sg : FuncId → Option (List AV → Option AV)} (hS : Sound Try.prog Sg) : ∀ a r, F3 gInRange a = some r → CSpec Try.prog 39 a r := by
  refine spec3 Try.func39 rfl Try.pf hS ?_
  intro n lo hi r hr
  obtain ⟨-, rfl⟩ := gd_some hr
  by_cases h : lo ≤ n
  · by_cases h' : n ≤ hi
    · simp -implicitDefEqProofs only [go_sem, Nat.reduceAdd, Nat.reduceSub, reduceCtorEq, Nat.reduceLT, Nat.reduceLeDiff, Nat.reduceEqDiff, Nat.reduceMul, Int.reduceToNat, ↓reduceIte, Try.ntmps39, Try.results39, h, h', inR]
    · simp -implicitDefEqProofs only [go_sem, Nat.reduceAdd, Nat.reduceSub, reduceCtorEq, Nat.reduceLT, Nat.reduceLeDiff, Nat.reduceEqDiff, Nat.reduceMul, Int.reduceToNat, ↓reduceIte, Try.ntmps39, Try.results39, h, h', inR]
  · simp -implicitDefEqProofs only [go_sem, Nat.reduceAdd, Nat.reduceSub, reduceCtorEq, Nat.reduceLT, Nat.reduceLeDiff, Nat.reduceEqDiff, Nat.reduceMul, Int.reduceToNat, ↓reduceIte, Try.ntmps39, Try.results39, h, inR]

def gAllIn (l : List Int) (lo hi : Int) : Option Bool := gd (l.length < 4294967296) (l.all fun n => inR n lo hi)
theorem gAllIn_eq {l : List Int} (h : l.length < 4294967296) (lo hi : Int) : gAllIn l lo hi = some (l.all fun n => inR n lo hi) := gd_eq h
set_option maxHeartbeats 2000000 in
set_option maxRecDepth 100000 in
theorem spec_allIn {Sg : FuncId → Option (List AV → Option AV)} (hS : Sound Try.prog Sg) (hc : Sg 39 = some (F3 gInRange)) : ∀ a r, F3 gAllIn a = some r → CSpec Try.prog 38 a r := by
  refine spec3 Try.func38 rfl Try.pf hS ?_
  intro l lo hi r hr
  obtain ⟨hl, rfl⟩ := gd_some hr
  simp -implicitDefEqProofs only [go_sem, Nat.reduceAdd, Nat.reduceSub, reduceCtorEq, Nat.reduceLT, Nat.reduceLeDiff, Nat.reduceEqDiff, Nat.reduceMul, Int.reduceToNat, ↓reduceIte, Try.ntmps38, Try.results38]
  refine LoopQ.mix (fun t0 L0 nn ss => ∃ (k : Nat) (_ : Unit), (∃ x : Nat → AV, ss = ⟨mixL 0 (.k :: .k :: .k :: .k :: .k :: .k :: .s :: .v (i64 (k : Nat)) :: .s :: .s :: .s :: .s :: .s :: .s :: .s :: .s :: .s :: .s :: .s :: .s :: .s :: .s :: []) t0 x, L0⟩) ∧ (k ≤ l.length) ∧ ((l.take k).all (fun n => inR n lo hi) = true) ∧ nn = l.length - k) ⟨l.length, ?_⟩ ?_
  · exact ⟨0, (), mixI rfl, Nat.zero_le _, rfl, rfl⟩
  · rintro I0 hI0 n s ⟨k, _, ⟨x, rfl⟩, h1, h2, rfl⟩
    by_cases hlt : k < l.length
    · have ea := all_take (p := fun n => inR n lo hi) hlt
      rw [h2, Bool.true_and] at ea
      cases hb : inR (l.getD k 0) lo hi with
      | false =>
        have hf := all_false (p := fun n => inR n lo hi) hlt hb
        simp -implicitDefEqProofs only [go_sem, Nat.reduceAdd, Nat.reduceSub, reduceCtorEq, Nat.reduceLT, Nat.reduceLeDiff, Nat.reduceEqDiff, Nat.reduceMul, Int.reduceToNat, ↓reduceIte, Try.ntmps38, Try.results38, Int.ofNat_lt, hlt, getD_ints hlt, hc, gInRange_eq, hb, hf]
      | true =>
        rw [hb] at ea
        simp -implicitDefEqProofs only [go_sem, Nat.reduceAdd, Nat.reduceSub, reduceCtorEq, Nat.reduceLT, Nat.reduceLeDiff, Nat.reduceEqDiff, Nat.reduceMul, Int.reduceToNat, ↓reduceIte, Try.ntmps38, Try.results38, Int.ofNat_lt, hlt, getD_ints hlt, hc, gInRange_eq, hb, wrap_succ (show k < 9223372036854775807 by omega)]
        exact ⟨l.length - (k + 1), by omega, hI0 _ _ ⟨k + 1, (), mixI rfl, hlt, ea, rfl⟩⟩
    · obtain rfl : k = l.length := by omega
      rw [List.take_length] at h2
      simp -implicitDefEqProofs only [go_sem, Nat.reduceAdd, Nat.reduceSub, reduceCtorEq, Nat.reduceLT, Nat.reduceLeDiff, Nat.reduceEqDiff, Nat.reduceMul, Int.reduceToNat, ↓reduceIte, Try.ntmps38, Try.results38, Int.ofNat_lt, hlt, h2]

/-- the place of a number in a list -/
def plc (l : List Int) (n : Int) : Int := if l.findIdx (· == n) < l.length then (l.findIdx (· == n) : Int) else -1
def gPlaceIn (l : List Int) (n : Int) : Option Int := gd (l.length < 4294967296) (plc l n)
theorem gPlaceIn_eq {l : List Int} (h : l.length < 4294967296) (n : Int) : gPlaceIn l n = some (plc l n) := gd_eq h
theorem plc_eq {l : List Int} {n : Int} {k : Nat} (hk : k < l.length) (h : (l.getD k 0 == n) = true) (h' : ∀ i, i < k → (l.getD i 0 == n) = false) : plc l n = k := by
  have : l.findIdx (· == n) = k := by
    rw [List.findIdx_eq hk]
    refine ⟨by simpa [hk] using h, fun j hj => ?_⟩
    have := h' j hj
    have hjl : j < l.length := Nat.lt_trans hj hk
    simpa [hjl] using this
  unfold plc
  rw [this, if_pos hk]
theorem plc_none {l : List Int} {n : Int} (h' : ∀ i, i < l.length → (l.getD i 0 == n) = false) : plc l n = -1 := by
  have : ¬ l.findIdx (· == n) < l.length := by
    intro hk
    have h1 := List.findIdx_getElem (w := hk)
    have h2 := h' _ hk
    rw [List.getD_eq_getElem?_getD, List.getElem?_eq_getElem hk] at h2
    simp only [Option.getD_some] at h2
    rw [h2] at h1; simp at h1
  unfold plc
  rw [if_neg this]

set_option maxHeartbeats 2000000 in
set_option maxRecDepth 100000 in
theorem spec_placeIn {Sg : FuncId → Option (List AV → Option AV)} (hS : Sound Try.prog Sg) : ∀ a r, F2 gPlaceIn a = some r → CSpec Try.prog 90 a r := by
  refine spec2 Try.func90 rfl Try.pf hS ?_
  intro l n r hr
  obtain ⟨hl, rfl⟩ := gd_some hr
  simp -implicitDefEqProofs only [go_sem, Nat.reduceAdd, Nat.reduceSub, reduceCtorEq, Nat.reduceLT, Nat.reduceLeDiff, Nat.reduceEqDiff, Nat.reduceMul, Int.reduceToNat, ↓reduceIte, Try.ntmps90, Try.results90]
  refine LoopQ.mix (fun t0 L0 nn ss => ∃ (k : Nat) (_ : Unit), (∃ x : Nat → AV, ss = ⟨mixL 0 (.k :: .k :: .k :: .k :: .s :: .v (i64 (k : Nat)) :: .s :: .s :: .s :: .s :: .s :: .s :: .s :: .s :: .s :: .s :: .s :: .s :: .s :: []) t0 x, L0⟩) ∧ (k ≤ l.length) ∧ (∀ i, i < k → (l.getD i 0 == n) = false) ∧ nn = l.length - k) ⟨l.length, ?_⟩ ?_
  · exact ⟨0, (), mixI rfl, Nat.zero_le _, fun i hi => absurd hi (Nat.not_lt_zero _), rfl⟩
  · rintro I0 hI0 m s ⟨k, _, ⟨x, rfl⟩, h1, h2, rfl⟩
    by_cases hlt : k < l.length
    · cases hb : l.getD k 0 == n with
      | true =>
        simp -implicitDefEqProofs only [go_sem, Nat.reduceAdd, Nat.reduceSub, reduceCtorEq, Nat.reduceLT, Nat.reduceLeDiff, Nat.reduceEqDiff, Nat.reduceMul, Int.reduceToNat, ↓reduceIte, Try.ntmps90, Try.results90, Int.ofNat_lt, hlt, getD_ints hlt, hb, plc_eq hlt hb h2]
      | false =>
        simp -implicitDefEqProofs only [go_sem, Nat.reduceAdd, Nat.reduceSub, reduceCtorEq, Nat.reduceLT, Nat.reduceLeDiff, Nat.reduceEqDiff, Nat.reduceMul, Int.reduceToNat, ↓reduceIte, Try.ntmps90, Try.results90, Int.ofNat_lt, hlt, getD_ints hlt, hb, wrap_succ (show k < 9223372036854775807 by omega)]
        exact ⟨l.length - (k + 1), by omega, hI0 _ _ ⟨k + 1, (), mixI rfl, hlt, fun i hi => if h : i = k then by rw [h]; exact hb else h2 i (by omega), rfl⟩⟩
    · obtain rfl : k = l.length := by omega
      simp -implicitDefEqProofs only [go_sem, Nat.reduceAdd, Nat.reduceSub, reduceCtorEq, Nat.reduceLT, Nat.reduceLeDiff, Nat.reduceEqDiff, Nat.reduceMul, Int.reduceToNat, ↓reduceIte, Try.ntmps90, Try.results90, Int.ofNat_lt, hlt, plc_none h2]

def gCount (l : List Int) : Option Int := gd (l.length < 4294967296) (prodW l)
theorem gCount_eq {l : List Int} (h : l.length < 4294967296) : gCount l = some (prodW l) := gd_eq h
set_option maxHeartbeats 2000000 in
set_option maxRecDepth 100000 in
theorem spec_count {Sg : FuncId → Option (List AV → Option AV)} (hS : Sound Try.prog Sg) : ∀ a r, F1 gCount a = some r → CSpec Try.prog 40 a r := by
  refine spec1 Try.func40 rfl Try.pf hS ?_
  intro l r hr
  obtain ⟨hl, rfl⟩ := gd_some hr
  simp -implicitDefEqProofs only [go_sem, Nat.reduceAdd, Nat.reduceSub, reduceCtorEq, Nat.reduceLT, Nat.reduceLeDiff, Nat.reduceEqDiff, Nat.reduceMul, Int.reduceToNat, ↓reduceIte, Try.ntmps40, Try.results40]
  refine LoopQ.mix (fun t0 L0 nn ss => ∃ (k : Nat) (_ : Unit), (∃ x : Nat → AV, ss = ⟨mixL 0 (.k :: .k :: .k :: .v (i64 (prodW (l.take k))) :: .v (i64 (k : Nat)) :: .s :: .s :: .s :: .s :: .s :: .s :: .s :: .s :: .s :: .s :: .s :: .s :: .k :: []) t0 x, L0⟩) ∧ (k ≤ l.length) ∧ nn = l.length - k) ⟨l.length, ?_⟩ ?_
  · exact ⟨0, (), mixI rfl, Nat.zero_le _, rfl⟩
  · rintro I0 hI0 n s ⟨k, _, ⟨x, rfl⟩, h1, rfl⟩
    by_cases hlt : k < l.length
    · simp -implicitDefEqProofs only [go_sem, Nat.reduceAdd, Nat.reduceSub, reduceCtorEq, Nat.reduceLT, Nat.reduceLeDiff, Nat.reduceEqDiff, Nat.reduceMul, Int.reduceToNat, ↓reduceIte, Try.ntmps40, Try.results40, Int.ofNat_lt, hlt, getD_ints hlt, wrap_succ (show k < 9223372036854775807 by omega), prodW_take hlt]
      exact ⟨l.length - (k + 1), by omega, hI0 _ _ ⟨k + 1, (), mixI rfl, hlt, rfl⟩⟩
    · obtain rfl : k = l.length := by omega
      simp -implicitDefEqProofs only [go_sem, Nat.reduceAdd, Nat.reduceSub, reduceCtorEq, Nat.reduceLT, Nat.reduceLeDiff, Nat.reduceEqDiff, Nat.reduceMul, Int.reduceToNat, ↓reduceIte, Try.ntmps40, Try.results40, Int.ofNat_lt, hlt]

/-- the rank of an index, as the code computes it -/
def rankW : List Int → List Int → Nat → Int
  | s, i, 0 => 0
  | s, i, k + 1 => IntKind.i64.wrap (IntKind.i64.wrap (rankW s i k * s.getD k 0) + i.getD k 0)
def gRank (s i : List Int) : Option Int := gd (s.length < 4294967296 ∧ s.length ≤ i.length) (rankW s i s.length)
theorem gRank_eq {s i : List Int} (h : s.length < 4294967296) (h' : s.length ≤ i.length) : gRank s i = some (rankW s i s.length) := gd_eq ⟨h, h'⟩
def rankOf (s i : List Int) : Int := if shapeOK s && idxOK s i then rankW s i s.length else -1
def gRankOf (s i : List Int) : Option Int := gd (s.length < 4294967296 ∧ i.length < 4294967296) (rankOf s i)
theorem gRankOf_eq {s i : List Int} (h : s.length < 4294967296) (h' : i.length < 4294967296) : gRankOf s i = some (rankOf s i) := gd_eq ⟨h, h'⟩
end Go.Proofs.Ytjmkdnnfhphckaa
namespace Go.Proofs.Ytjmkdnnfhphckaa
open Go Go.Ev Go.RowKit Go.Ev.Enc

/-- the first place where a test holds -/
def plcF (l : List Int) (p : Int → Bool) : Int := if l.findIdx p < l.length then (l.findIdx p : Int) else -1
theorem plcF_eq {l : List Int} {p : Int → Bool} {k : Nat} (hk : k < l.length) (h : p (l.getD k 0) = true) (h' : ∀ i, i < k → p (l.getD i 0) = false) : plcF l p = k := by
  have : l.findIdx p = k := by
    rw [List.findIdx_eq hk]
    refine ⟨by simpa [hk] using h, fun j hj => ?_⟩
    have := h' j hj
    have hjl : j < l.length := Nat.lt_trans hj hk
    simpa [hjl] using this
  unfold plcF
  rw [this, if_pos hk]
theorem plcF_none {l : List Int} {p : Int → Bool} (h' : ∀ i, i < l.length → p (l.getD i 0) = false) : plcF l p = -1 := by
  have : ¬ l.findIdx p < l.length := by
    intro hk
    have h1 := List.findIdx_getElem (w := hk)
    have h2 := h' _ hk
    rw [List.getD_eq_getElem?_getD, List.getElem?_eq_getElem hk] at h2
    simp only [Option.getD_some] at h2
    rw [h2] at h1; simp at h1
  unfold plcF
  rw [if_neg this]
theorem plcF_nonneg {l : List Int} {p : Int → Bool} : (0 ≤ plcF l p) ↔ l.any p = true := by
  unfold plcF
  rw [List.any_eq_true, ← List.findIdx_lt_length]
  split
  · simp [*]
  · simp [*]
theorem plc_F (l : List Int) (n : Int) : plc l n = plcF l (· == n) := rfl
theorem plc_nonneg {l : List Int} {n : Int} : (0 ≤ plc l n) ↔ n ∈ l := by
  rw [plc_F, plcF_nonneg]; simp

set_option maxHeartbeats 2000000 in
set_option maxRecDepth 100000 in
theorem spec_Index {Sg : FuncId → Option (List AV → Option AV)} (hS : Sound Try.prog Sg) : ∀ a r, F2 gPlaceIn a = some r → CSpec Try.prog 58 a r := by
  refine spec2 Try.func58 rfl Try.pf hS ?_
  intro l n r hr
  obtain ⟨hl, rfl⟩ := gd_some hr
  simp -implicitDefEqProofs only [go_sem, Nat.reduceAdd, Nat.reduceSub, reduceCtorEq, Nat.reduceLT, Nat.reduceLeDiff, Nat.reduceEqDiff, Nat.reduceMul, Int.reduceToNat, ↓reduceIte, Try.ntmps58, Try.results58]
  refine LoopQ.mix (fun t0 L0 nn ss => ∃ (k : Nat) (_ : Unit), (∃ x : Nat → AV, ss = ⟨mixL 0 (.k :: .k :: .k :: .k :: .s :: .s :: .k :: .k :: .v (i64 (k : Nat)) :: .s :: .s :: .s :: .s :: .s :: .s :: .s :: .s :: .s :: .s :: []) t0 x, L0⟩) ∧ (k ≤ l.length) ∧ (∀ i, i < k → (l.getD i 0 == n) = false) ∧ nn = l.length - k) ⟨l.length, ?_⟩ ?_
  · exact ⟨0, (), mixI rfl, Nat.zero_le _, fun i hi => absurd hi (Nat.not_lt_zero _), rfl⟩
  · rintro I0 hI0 m s ⟨k, _, ⟨x, rfl⟩, h1, h2, rfl⟩
    by_cases hlt : k < l.length
    · cases hb : l.getD k 0 == n with
      | true =>
        have hb' : (n == l.getD k 0) = true := by rw [← hb]; exact BEq.comm
        simp -implicitDefEqProofs only [go_sem, Nat.reduceAdd, Nat.reduceSub, reduceCtorEq, Nat.reduceLT, Nat.reduceLeDiff, Nat.reduceEqDiff, Nat.reduceMul, Int.reduceToNat, ↓reduceIte, Try.ntmps58, Try.results58, Int.ofNat_lt, hlt, getD_ints hlt, hb', plc_eq hlt hb h2]
      | false =>
        have hb' : (n == l.getD k 0) = false := by rw [← hb]; exact BEq.comm
        simp -implicitDefEqProofs only [go_sem, Nat.reduceAdd, Nat.reduceSub, reduceCtorEq, Nat.reduceLT, Nat.reduceLeDiff, Nat.reduceEqDiff, Nat.reduceMul, Int.reduceToNat, ↓reduceIte, Try.ntmps58, Try.results58, Int.ofNat_lt, hlt, getD_ints hlt, hb', wrap_succ (show k < 9223372036854775807 by omega)]
        exact ⟨l.length - (k + 1), by omega, hI0 _ _ ⟨k + 1, (), mixI rfl, hlt, fun i hi => if h : i = k then by rw [h]; exact hb else h2 i (by omega), rfl⟩⟩
    · obtain rfl : k = l.length := by omega
      simp -implicitDefEqProofs only [go_sem, Nat.reduceAdd, Nat.reduceSub, reduceCtorEq, Nat.reduceLT, Nat.reduceLeDiff, Nat.reduceEqDiff, Nat.reduceMul, Int.reduceToNat, ↓reduceIte, Try.ntmps58, Try.results58, Int.ofNat_lt, hlt, plc_none h2]

def gContains (l : List Int) (n : Int) : Option Bool := gd (l.length < 4294967296) (l.contains n)
theorem gContains_eq {l : List Int} (h : l.length < 4294967296) (n : Int) : gContains l n = some (l.contains n) := gd_eq h
theorem plc_dec (l : List Int) (n : Int) : decide (0 ≤ plc l n) = l.contains n := by
  rw [Bool.eq_iff_iff, decide_eq_true_eq, plc_nonneg, List.contains_iff_mem]
set_option maxHeartbeats 2000000 in
set_option maxRecDepth 100000 in
theorem spec_Contains {Sg : FuncId → Option (List AV → Option AV)} (hS : Sound Try.prog Sg) (hc : Sg 58 = some (F2 gPlaceIn)) : ∀ a r, F2 gContains a = some r → CSpec Try.prog 43 a r := by
  refine spec2 Try.func43 rfl Try.pf hS ?_
  intro l n r hr
  obtain ⟨hl, rfl⟩ := gd_some hr
  simp -implicitDefEqProofs only [go_sem, Nat.reduceAdd, Nat.reduceSub, reduceCtorEq, Nat.reduceLT, Nat.reduceLeDiff, Nat.reduceEqDiff, Nat.reduceMul, Int.reduceToNat, ↓reduceIte, Try.ntmps43, Try.results43, hc, gPlaceIn_eq hl, plc_dec]

set_option maxHeartbeats 2000000 in
set_option maxRecDepth 100000 in
theorem ispec_IndexFunc {Sg : FuncId → Option (List AV → Option AV)} (hS : Sound Try.prog Sg) {g : FuncId} {p : Int → Bool} (hg : CanCall Try.prog g) (hp : ∀ x L, ISpec Try.prog g [i64 x] L fun r L' => r = .bool (p x) ∧ L' = L) (tag : Nat) (l : List Int) (hl : l.length < 4294967296) (L : List Blk) : ISpec Try.prog 55 [ints tag l, .fn g []] L (fun r L' => r = i64 (plcF l p) ∧ L' = L) := by
  refine ISpec.intro Try.func55 rfl (vc_sound Try.pf hS _ _ _ ?_)
  simp -implicitDefEqProofs only [go_sem, Nat.reduceAdd, Nat.reduceSub, reduceCtorEq, Nat.reduceLT, Nat.reduceLeDiff, Nat.reduceEqDiff, Nat.reduceMul, Int.reduceToNat, ↓reduceIte, Try.ntmps55, Try.results55]
  refine LoopQ.mix (fun t0 L0 nn ss => ∃ (k : Nat) (_ : Unit), (∃ x : Nat → AV, ss = ⟨mixL 0 (.k :: .k :: .k :: .k :: .s :: .s :: .k :: .k :: .v (i64 (k : Nat)) :: .s :: .s :: .s :: .s :: .s :: .s :: .s :: .s :: .s :: .s :: []) t0 x, L0⟩) ∧ (k ≤ l.length) ∧ (∀ i, i < k → p (l.getD i 0) = false) ∧ nn = l.length - k) ⟨l.length, ?_⟩ ?_
  · exact ⟨0, (), mixI rfl, Nat.zero_le _, fun i hi => absurd hi (Nat.not_lt_zero _), rfl⟩
  · rintro I0 hI0 m s ⟨k, _, ⟨x, rfl⟩, h1, h2, rfl⟩
    by_cases hlt : k < l.length
    · simp -implicitDefEqProofs only [go_sem, Nat.reduceAdd, Nat.reduceSub, reduceCtorEq, Nat.reduceLT, Nat.reduceLeDiff, Nat.reduceEqDiff, Nat.reduceMul, Int.reduceToNat, ↓reduceIte, Try.ntmps55, Try.results55, Int.ofNat_lt, hlt, getD_ints hlt, opQ_none]
      refine InlK_intro rfl rfl hg ((hp _ _).mono ?_)
      rintro r L' ⟨rfl, rfl⟩
      cases hb : p (l.getD k 0) with
      | true =>
        simp -implicitDefEqProofs only [go_sem, Nat.reduceAdd, Nat.reduceSub, reduceCtorEq, Nat.reduceLT, Nat.reduceLeDiff, Nat.reduceEqDiff, Nat.reduceMul, Int.reduceToNat, ↓reduceIte, Try.ntmps55, Try.results55, plcF_eq hlt hb h2]
      | false =>
        simp -implicitDefEqProofs only [go_sem, Nat.reduceAdd, Nat.reduceSub, reduceCtorEq, Nat.reduceLT, Nat.reduceLeDiff, Nat.reduceEqDiff, Nat.reduceMul, Int.reduceToNat, ↓reduceIte, Try.ntmps55, Try.results55, wrap_succ (show k < 9223372036854775807 by omega)]
        exact ⟨l.length - (k + 1), by omega, hI0 _ _ ⟨k + 1, (), mixI rfl, hlt, fun i hi => if h : i = k then by rw [h]; exact hb else h2 i (by omega), rfl⟩⟩
    · obtain rfl : k = l.length := by omega
      simp -implicitDefEqProofs only [go_sem, Nat.reduceAdd, Nat.reduceSub, reduceCtorEq, Nat.reduceLT, Nat.reduceLeDiff, Nat.reduceEqDiff, Nat.reduceMul, Int.reduceToNat, ↓reduceIte, Try.ntmps55, Try.results55, Int.ofNat_lt, hlt, plcF_none h2]

set_option maxHeartbeats 2000000 in
set_option maxRecDepth 100000 in
theorem ispec_ContainsFunc {Sg : FuncId → Option (List AV → Option AV)} (hS : Sound Try.prog Sg) (hc : Sg 55 = none) {g : FuncId} {p : Int → Bool} (hg : CanCall Try.prog g) (hp : ∀ x L, ISpec Try.prog g [i64 x] L fun r L' => r = .bool (p x) ∧ L' = L) (tag : Nat) (l : List Int) (hl : l.length < 4294967296) (L : List Blk) : ISpec Try.prog 35 [ints tag l, .fn g []] L (fun r L' => r = .bool (l.any p) ∧ L' = L) := by
  refine ISpec.intro Try.func35 rfl (vc_sound Try.pf hS _ _ _ ?_)
  simp -implicitDefEqProofs only [go_sem, Nat.reduceAdd, Nat.reduceSub, reduceCtorEq, Nat.reduceLT, Nat.reduceLeDiff, Nat.reduceEqDiff, Nat.reduceMul, Int.reduceToNat, ↓reduceIte, Try.ntmps35, Try.results35, hc, opQ_none]
  refine InlK_intro rfl rfl ⟨_, Try.func55, rfl, rfl⟩ ((ispec_IndexFunc hS hg hp tag l hl L).mono ?_)
  rintro r L' ⟨rfl, rfl⟩
  simp -implicitDefEqProofs only [go_sem, Nat.reduceAdd, Nat.reduceSub, reduceCtorEq, Nat.reduceLT, Nat.reduceLeDiff, Nat.reduceEqDiff, Nat.reduceMul, Int.reduceToNat, ↓reduceIte, Try.ntmps35, Try.results35]
  rw [show decide (0 ≤ plcF l p) = l.any p from by rw [Bool.eq_iff_iff, decide_eq_true_eq, plcF_nonneg]]

def notLab (x : Int) : Bool := decide (x < 0) || decide (4 < x)
def labOK (l : List Int) : Bool := !l.any notLab
def gAreLabels (l : List Int) : Option Bool := gd (l.length < 4294967296) (labOK l)
theorem gAreLabels_eq {l : List Int} (h : l.length < 4294967296) : gAreLabels l = some (labOK l) := gd_eq h
end Go.Proofs.Ytjmkdnnfhphckaa
namespace Go.Proofs.Ytjmkdnnfhphckaa
open Go Go.Ev Go.RowKit Go.Ev.Enc

def gCopyInts (l : List Int) : Option (List Int) := gd (l.length < 4294967296) l
theorem gCopyInts_eq {l : List Int} (h : l.length < 4294967296) : gCopyInts l = some l := gd_eq h
set_option maxHeartbeats 2000000 in
set_option maxRecDepth 100000 in
theorem spec_copyInts {Sg : FuncId → Option (List AV → Option AV)} (hS : Sound Try.prog Sg) : ∀ a r, F1 gCopyInts a = some r → CSpec Try.prog 15 a r := by
  refine spec1 Try.func15 rfl Try.pf hS ?_
  intro l r hr
  obtain ⟨hl, rfl⟩ := gd_some hr
  simp -implicitDefEqProofs only [go_sem, Nat.reduceAdd, Nat.reduceSub, reduceCtorEq, Nat.reduceLT, Nat.reduceLeDiff, Nat.reduceEqDiff, Nat.reduceMul, Int.reduceToNat, ↓reduceIte, Try.ntmps15, Try.results15, evApp_gen (L := [⟨1, []⟩]) (b := 0) (n := 0) (sz := 1) (by' := 8) (q := []) (new := l.map fun n => .int .i64 n) rfl rfl (by rw [List.length_map]; omega) (by rw [List.length_map]; omega)]

/-- the product of the extents of labels -/
def costW (e l : List Int) : Int := l.foldl (fun n x => IntKind.i64.wrap (n * e.getD x.toNat 0)) 1
theorem costW_take {e l : List Int} {k : Nat} (h : k < l.length) : IntKind.i64.wrap (costW e (l.take k) * e.getD (l.getD k 0).toNat 0) = costW e (l.take (k + 1)) := by
  rw [take_succ_getD h]; simp only [costW, List.foldl_append, List.foldl_cons, List.foldl_nil]
def gCostOver (e l : List Int) : Option Int := gd (l.length < 4294967296 ∧ ∀ i, i < l.length → 0 ≤ l.getD i 0 ∧ l.getD i 0 < e.length) (costW e l)
/-- the elements at some places -/
def tkn (l idx : List Int) : List Int := idx.map fun x => l.getD x.toNat 0
theorem tkn_take {e l : List Int} {k : Nat} (h : k < l.length) : tkn e (l.take k) ++ [e.getD (l.getD k 0).toNat 0] = tkn e (l.take (k + 1)) := by
  rw [take_succ_getD h]; simp only [tkn, List.map_append, List.map_cons, List.map_nil]
theorem tkn_len (e l : List Int) : (tkn e l).length = l.length := by simp [tkn]
def gTakenOf (e l : List Int) : Option (List Int) := gd (l.length < 4294967296 ∧ ∀ i, i < l.length → 0 ≤ l.getD i 0 ∧ l.getD i 0 < e.length) (tkn e l)
end Go.Proofs.Ytjmkdnnfhphckaa
namespace Go.Proofs.Ytjmkdnnfhphckaa
open Go Go.Ev Go.RowKit Go.Ev.Enc

/-- a tensor: its shape and its values -/
structure Tsr where
  sh : List Int
  vl : List Int
  deriving DecidableEq

instance : Enc Tsr where
  enc t x := .agg [ints t x.sh, ints t x.vl]
  dec | .agg [x, y] => (dec x).bind fun a => (dec y).map fun b => ⟨a, b⟩
      | _ => none
  ok x a := by
    constructor
    · intro h
      split at h
      · simp only [Option.bind_eq_some_iff, Option.map_eq_some_iff] at h
        obtain ⟨p, hp, q, hq, rfl⟩ := h
        rw [(ok _ _).1 hp, (ok _ _).1 hq]; rfl
      · simp at h
    · rintro rfl
      show ((dec (enc 0 a.sh)).bind fun p => (dec (enc 0 a.vl)).map fun q => (⟨p, q⟩ : Tsr)) = some a
      rw [(ok _ a.sh).2 rfl, (ok _ a.vl).2 rfl]; rfl
  own a := .agg _ (by
    intro x hx
    simp only [List.mem_cons, List.not_mem_nil, or_false] at hx
    rcases hx with rfl | rfl
    · exact own a.sh
    · exact own a.vl)

theorem enc_tsr (t : Nat) (x : Tsr) : (enc t x : AV) = .agg [ints t x.sh, ints t x.vl] := rfl
theorem enc_tsrs (t : Nat) (l : List Tsr) : (enc t l : AV) = .ds t (l.map fun x => .agg [ints t x.sh, ints t x.vl]) := rfl
theorem dec_tsr (a b : List Int) : (dec (.agg [.ds 0 (a.map fun n => .int .i64 n), .ds 0 (b.map fun n => .int .i64 n)]) : Option Tsr) = some ⟨a, b⟩ := (ok _ _).2 rfl
theorem dec_tsrs (l : List Tsr) : (dec (.ds 0 (l.map fun x => .agg [ints 0 x.sh, ints 0 x.vl])) : Option (List Tsr)) = some l := (ok _ _).2 rfl
theorem ee_tsrs (t t' : Nat) (L : List Blk) (l : List Tsr) : expE (expC t L) (.ds t' (l.map fun x => .agg [ints t' x.sh, ints t' x.vl])) = .ds (min t' t) (l.map fun x => .agg [ints (min t' t) x.sh, ints (min t' t) x.vl]) := by
  simp [expE, expC, stepC, Function.comp_def]
theorem getD_tsrs {t : Nat} {l : List Tsr} {k : Nat} (h : k < l.length) : (l.map fun x => AV.agg [ints t x.sh, ints t x.vl]).getD k .any = .agg [ints t (l.getD k ⟨[], []⟩).sh, ints t (l.getD k ⟨[], []⟩).vl] := by simp [h]

theorem tsr_eta (x : Tsr) : (⟨x.sh, x.vl⟩ : Tsr) = x := rfl
theorem gcV_tsrs (n : Nat) (L : List Blk) (t : Nat) (l : List Tsr) : gcV n L (.ds t (l.map fun x => .agg [ints t x.sh, ints t x.vl])) = .ds t (l.map fun x => .agg [ints t x.sh, ints t x.vl]) := by
  simp [gcV, expE, gcC, gcStep, Function.comp_def]
theorem expS_tsrs (t t' : Nat) (L : List Blk) (e ver off len : Nat) (q : List Tsr) : expS t L ver off len (some ⟨e, q.map fun x => .agg [ints t' x.sh, ints t' x.vl]⟩) = if q.length = ver ∧ off + len ≤ ver then .ds t (((q.drop off).take len).map fun x => .agg [ints (min t' t) x.sh, ints (min t' t) x.vl]) else .any := by
  simp [expS, expE, stepC, Function.comp_def]
attribute [go_sem] expS_tsrs gcV_tsrs enc_tsr enc_tsrs dec_tsr dec_tsrs ee_tsrs tsr_eta

def gArePair (l : List Tsr) (i j : Int) : Option Bool := gd (l.length < 4294967296) (decide (0 ≤ i ∧ i < l.length ∧ 0 ≤ j ∧ j < l.length ∧ i ≠ j))
theorem gArePair_eq {l : List Tsr} (h : l.length < 4294967296) (i j : Int) : gArePair l i j = some (decide (0 ≤ i ∧ i < l.length ∧ 0 ≤ j ∧ j < l.length ∧ i ≠ j)) := gd_eq h
def notEnt (x : Int) : Bool := decide (x < -1000000) || decide (1000000 < x)
def tsrOK (x : Tsr) : Bool := shapeOK x.sh && decide ((x.vl.length : Int) = prodW x.sh) && !x.vl.any notEnt
def gIsTensor (x : Tsr) : Option Bool := gd (x.sh.length < 4294967296 ∧ x.vl.length < 4294967296) (tsrOK x)
theorem gIsTensor_eq {x : Tsr} (h : x.sh.length < 4294967296) (h' : x.vl.length < 4294967296) : gIsTensor x = some (tsrOK x) := gd_eq ⟨h, h'⟩
end Go.Proofs.Ytjmkdnnfhphckaa
namespace Go.Proofs.Ytjmkdnnfhphckaa
open Go Go.Ev Go.RowKit Go.Ev.Enc

def shapeS (l : List Int) : Bool := decide (l.length ≤ 4) && l.all (fun n => inR n 0 60) && decide (prodW l ≤ 60)
theorem shapeS_eq (l : List Int) : shapeS l = shapeOK l := rfl
set_option maxHeartbeats 2000000 in
set_option maxRecDepth 100000 in
theorem spec_validShape {Sg : FuncId → Option (List AV → Option AV)} (hS : Sound Try.prog Sg) (ha : Sg 38 = some (F3 gAllIn)) (hc : Sg 40 = some (F1 gCount)) : ∀ a r, F1 gIsShape a = some r → CSpec Try.prog 24 a r := by
  refine spec1 Try.func24 rfl Try.pf hS ?_
  intro l r hr
  obtain ⟨hl, rfl⟩ := gd_some hr
  by_cases h1 : (l.length : Int) ≤ 4
  · cases h2 : l.all fun n => inR n 0 60 with
    | false =>
      simp -implicitDefEqProofs only [go_sem, Nat.reduceAdd, Nat.reduceSub, reduceCtorEq, Nat.reduceLT, Nat.reduceLeDiff, Nat.reduceEqDiff, Nat.reduceMul, Int.reduceToNat, ↓reduceIte, Try.ntmps24, Try.results24, h1, ha, gAllIn_eq hl, h2]
      have : shapeOK l = false := by rw [← shapeS_eq]; unfold shapeS; rw [h2]; simp
      rw [this]
    | true =>
      have h4 : l.length ≤ 4 := by omega
      by_cases h3 : prodW l ≤ 60
      · simp -implicitDefEqProofs only [go_sem, Nat.reduceAdd, Nat.reduceSub, reduceCtorEq, Nat.reduceLT, Nat.reduceLeDiff, Nat.reduceEqDiff, Nat.reduceMul, Int.reduceToNat, ↓reduceIte, Try.ntmps24, Try.results24, h1, ha, gAllIn_eq hl, h2, hc, gCount_eq hl, h3]
        rw [← shapeS_eq]; unfold shapeS; rw [h2]; simp [h3, h4]
      · simp -implicitDefEqProofs only [go_sem, Nat.reduceAdd, Nat.reduceSub, reduceCtorEq, Nat.reduceLT, Nat.reduceLeDiff, Nat.reduceEqDiff, Nat.reduceMul, Int.reduceToNat, ↓reduceIte, Try.ntmps24, Try.results24, h1, ha, gAllIn_eq hl, h2, hc, gCount_eq hl, h3]
        rw [← shapeS_eq]; unfold shapeS; rw [h2]; simp [h3, h4]
  · simp -implicitDefEqProofs only [go_sem, Nat.reduceAdd, Nat.reduceSub, reduceCtorEq, Nat.reduceLT, Nat.reduceLeDiff, Nat.reduceEqDiff, Nat.reduceMul, Int.reduceToNat, ↓reduceIte, Try.ntmps24, Try.results24, h1]
    rw [← shapeS_eq]; unfold shapeS
    have h4 : ¬ l.length ≤ 4 := by omega
    simp [h4]

def tsrS (x : Tsr) : Bool := shapeOK x.sh && decide ((x.vl.length : Int) = prodW x.sh) && x.vl.all fun n => inR n (-1000000) 1000000
theorem tsrS_eq (x : Tsr) : tsrS x = tsrOK x := by
  unfold tsrS tsrOK
  congr 1
  rw [List.not_any_eq_all_not]
  congr 1
  funext n
  unfold inR notEnt
  rw [Bool.eq_iff_iff]
  simp only [Bool.and_eq_true, decide_eq_true_eq, Bool.not_eq_true', Bool.or_eq_false_iff, decide_eq_false_iff_not]
  omega
def gDifferent (l : List Int) : Option Bool := gd (l.length < 4294967296) (decide (∀ k, k < l.length → ¬ l.getD k 0 ∈ l.take k))
set_option maxHeartbeats 2000000 in
set_option maxRecDepth 100000 in
theorem spec_different {Sg : FuncId → Option (List AV → Option AV)} (hS : Sound Try.prog Sg) (hc : Sg 90 = some (F2 gPlaceIn)) : ∀ a r, F1 gDifferent a = some r → CSpec Try.prog 82 a r := by
  refine spec1 Try.func82 rfl Try.pf hS ?_
  intro l r hr
  obtain ⟨hl, rfl⟩ := gd_some hr
  simp -implicitDefEqProofs only [go_sem, Nat.reduceAdd, Nat.reduceSub, reduceCtorEq, Nat.reduceLT, Nat.reduceLeDiff, Nat.reduceEqDiff, Nat.reduceMul, Int.reduceToNat, ↓reduceIte, Try.ntmps82, Try.results82]
  refine LoopQ.mix (fun t0 L0 nn ss => ∃ (k : Nat) (_ : Unit), (∃ x : Nat → AV, ss = ⟨mixL 0 (.k :: .k :: .s :: .v (i64 (k : Nat)) :: .s :: .s :: .s :: .s :: .s :: .s :: .s :: .s :: .s :: .s :: .s :: .s :: .s :: .s :: .s :: []) t0 x, L0⟩) ∧ (k ≤ l.length) ∧ (∀ i, i < k → ¬ l.getD i 0 ∈ l.take i) ∧ nn = l.length - k) ⟨l.length, ?_⟩ ?_
  · exact ⟨0, (), mixI rfl, Nat.zero_le _, fun i hi => absurd hi (Nat.not_lt_zero _), rfl⟩
  · rintro I0 hI0 n s ⟨k, _, ⟨x, rfl⟩, h1, h2, rfl⟩
    by_cases hlt : k < l.length
    · have hp := plc_nonneg (l := l.take k) (n := l.getD k 0)
      have hk : (k : Int) ≤ l.length := by omega
      by_cases hb : l.getD k 0 ∈ l.take k
      · simp -implicitDefEqProofs only [go_sem, Nat.reduceAdd, Nat.reduceSub, reduceCtorEq, Nat.reduceLT, Nat.reduceLeDiff, Nat.reduceEqDiff, Nat.reduceMul, Int.reduceToNat, ↓reduceIte, Try.ntmps82, Try.results82, Int.ofNat_lt, hlt, hk, getD_ints hlt, hc, gPlaceIn_eq (l := l.take k) (by simp; omega), hp, hb]
        refine RegQ.intro (by kernel_rfl) ?_
        rw [show decide (∀ k, k < l.length → ¬ l.getD k 0 ∈ l.take k) = false from by rw [decide_eq_false_iff_not]; exact fun h => h k hlt hb]
      · simp -implicitDefEqProofs only [go_sem, Nat.reduceAdd, Nat.reduceSub, reduceCtorEq, Nat.reduceLT, Nat.reduceLeDiff, Nat.reduceEqDiff, Nat.reduceMul, Int.reduceToNat, ↓reduceIte, Try.ntmps82, Try.results82, Int.ofNat_lt, hlt, hk, getD_ints hlt, hc, gPlaceIn_eq (l := l.take k) (by simp; omega), hp, hb, wrap_succ (show k < 9223372036854775807 by omega)]
        refine RegQ.intro (by kernel_rfl) ?_
        exact ⟨l.length - (k + 1), by omega, hI0 _ _ ⟨k + 1, (), mixI rfl, hlt, fun i hi => if h : i = k then by rw [h]; exact hb else h2 i (by omega), rfl⟩⟩
    · obtain rfl : k = l.length := by omega
      simp -implicitDefEqProofs only [go_sem, Nat.reduceAdd, Nat.reduceSub, reduceCtorEq, Nat.reduceLT, Nat.reduceLeDiff, Nat.reduceEqDiff, Nat.reduceMul, Int.reduceToNat, ↓reduceIte, Try.ntmps82, Try.results82, Int.ofNat_lt, hlt]
      rw [show decide (∀ k, k < l.length → ¬ l.getD k 0 ∈ l.take k) = true from by rw [decide_eq_true_eq]; exact h2]
end Go.Proofs.Ytjmkdnnfhphckaa
namespace Go.Proofs.Ytjmkdnnfhphckaa
open Go Go.Ev Go.RowKit Go.Ev.Enc

/-- the extents of the labels of one tensor, put into those that are known -/
def extIn : List Int → List (Int × Int) → Option (List Int)
  | out, [] => some out
  | out, x :: r => if 0 ≤ out.getD x.1.toNat 0 ∧ out.getD x.1.toNat 0 ≠ x.2 then none else extIn (out.set x.1.toNat x.2) r
def extAll (p : Tsr → Bool) : List Int → List (Tsr × List Int) → Option (List Int)
  | out, [] => some out
  | out, x :: r => if p x.1 = true ∧ x.2.length = x.1.sh.length ∧ labOK x.2 = true then (extIn out (x.2.zip x.1.sh)).bind fun o => extAll p o r else none
def extRes : Option (List Int) → List Int × Bool
  | some o => (o, true)
  | none => ([], false)
theorem extIn_len : ∀ (z : List (Int × Int)) (out o : List Int), extIn out z = some o → o.length = out.length
  | [], out, o, h => by simp [extIn] at h; rw [h]
  | x :: r, out, o, h => by
    unfold extIn at h
    split at h
    · simp at h
    · rw [extIn_len r _ _ h, List.length_set]
theorem zip_drop {α β : Type} {a : List α} {b : List β} {k : Nat} {x : α} {y : β} (ha : k < a.length) (hb : k < b.length) : (a.zip b).drop k = (a.getD k x, b.getD k y) :: (a.zip b).drop (k + 1) := by
  rw [List.drop_eq_getElem_cons (by rw [List.length_zip]; omega)]
  simp [ha, hb]
theorem labOK_at {l : List Int} (h : labOK l = true) {k : Nat} (hk : k < l.length) : 0 ≤ l.getD k 0 ∧ l.getD k 0 ≤ 4 := by
  unfold labOK at h
  rw [Bool.not_eq_true', List.any_eq_false] at h
  have := h (l.getD k 0) (by simp [hk])
  unfold notLab at this
  simp only [Bool.or_eq_true, decide_eq_true_eq, not_or] at this
  omega

def szOK (l : List Tsr) (b : List (List Int)) : Prop := l.length < 4294967296 ∧ b.length < 4294967296 ∧ (∀ k, k < l.length → (l.getD k ⟨[], []⟩).sh.length < 4294967296 ∧ (l.getD k ⟨[], []⟩).vl.length < 4294967296) ∧ (∀ k, k < b.length → (b.getD k []).length < 4294967296)
instance (l : List Tsr) (b : List (List Int)) : Decidable (szOK l b) := by unfold szOK; infer_instance
def extF (l : List Tsr) (b : List (List Int)) : Option (List Int) := if 1 ≤ l.length ∧ l.length ≤ 3 ∧ b.length = l.length then extAll tsrOK [-1, -1, -1, -1, -1] (l.zip b) else none
def gExtentsOf (l : List Tsr) (b : List (List Int)) : Option (List Int × Bool) := gd (szOK l b) (extRes (extF l b))
theorem gExtentsOf_eq {l : List Tsr} {b : List (List Int)} (h : szOK l b) : gExtentsOf l b = some (extRes (extF l b)) := gd_eq h
theorem fives {q : List Int} (h : q.length = 5) (h' : ∀ i, i < 5 → q.getD i 0 = -1) : q = [-1, -1, -1, -1, -1] := by
  match q, h with
  | [a, b, c, d, e], _ =>
    have h0 := h' 0 (by omega); have h1 := h' 1 (by omega); have h2 := h' 2 (by omega); have h3 := h' 3 (by omega); have h4 := h' 4 (by omega)
    simp at h0 h1 h2 h3 h4
    simp [h0, h1, h2, h3, h4]

end Go.Proofs.Ytjmkdnnfhphckaa
namespace Go.Proofs.Ytjmkdnnfhphckaa
open Go Go.Ev Go.RowKit Go.Ev.Enc

theorem drop_getD {α : Type} {l : List α} {k : Nat} {d : α} (h : k < l.length) : l.drop k = l.getD k d :: l.drop (k + 1) := by
  rw [List.drop_eq_getElem_cons h]; simp [h]
theorem list_ext {α : Type} {a b : List α} {d : α} (h : a.length = b.length) (hi : ∀ i, i < a.length → a.getD i d = b.getD i d) : a = b := by
  refine List.ext_getElem h fun i h1 h2 => ?_
  have := hi i h1
  simpa [h1, h2] using this
theorem ints_ext {a b : List Int} (h : a.length = b.length) (hi : ∀ i, i < a.length → a.getD i 0 = b.getD i 0) : a = b := list_ext h hi
/-- a new slice, filled up to k -/
def fillA {α : Type} (f : α → AV) (l : List α) (k : Nat) (z : AV) : List AV := (l.take k).map f ++ List.replicate (l.length - k) z
theorem fillA_len {α : Type} {f : α → AV} {l : List α} {k : Nat} {z : AV} (h : k ≤ l.length) : (fillA f l k z).length = l.length := by
  simp [fillA]; omega
theorem fillA_at {α : Type} {f : α → AV} {l : List α} {k : Nat} {z : AV} (h : k < l.length) : (fillA f l k z).getD k .any = z := by
  unfold fillA
  have e : k - ((l.take k).map f).length = 0 := by simp; omega
  rw [List.getD_eq_getElem?_getD, List.getElem?_append_right (by simp; omega), e, show l.length - k = (l.length - (k + 1)) + 1 by omega, List.replicate_succ]
  rfl
theorem fillA_set {α : Type} {f : α → AV} {l : List α} {k : Nat} {z : AV} {d : α} (h : k < l.length) : (fillA f l k z).set k (f (l.getD k d)) = fillA f l (k + 1) z := by
  unfold fillA
  rw [List.set_append_right _ _ (by simp; omega)]
  have e : k - ((l.take k).map f).length = 0 := by simp; omega
  rw [e, show l.length - k = (l.length - (k + 1)) + 1 by omega, List.replicate_succ, List.set_cons_zero, List.take_succ_eq_append_getElem h, List.map_append]
  simp [h]
theorem fillA_full {α : Type} {f : α → AV} {l : List α} {z : AV} : fillA f l l.length z = l.map f := by simp [fillA]
theorem fillA_zero {α : Type} {f : α → AV} {l : List α} {z : AV} : fillA f l 0 z = List.replicate l.length z := by simp [fillA]

def szI (n : Nat) (left : Int) : Int := if left < n then -1 else left - n
def gSzInts (l : List Int) (left : Int) : Option Int := gd (l.length < 9223372036854775808 ∧ 0 ≤ left ∧ left ≤ 1048576) (szI l.length left)
theorem gSzInts_eq {l : List Int} {left : Int} (h : l.length < 9223372036854775808 ∧ 0 ≤ left ∧ left ≤ 1048576) : gSzInts l left = some (szI l.length left) := gd_eq h
theorem szI_neg {n : Nat} {left : Int} (h : left < n) : szI n left = -1 := if_pos h
theorem szI_m1 {n : Nat} {left : Int} (h : szI n left < 0) : szI n left = -1 := by
  by_cases hc : left < n
  · exact if_pos hc
  · unfold szI at h ⊢
    rw [if_neg hc] at h
    omega
theorem szI_pos {n : Nat} {left : Int} (h : ¬ left < n) : szI n left = left - n := if_neg h
def gToInts (l : List Int) : Option (List Int) := gd (l.length < 4294967296) l
theorem gToInts_eq {l : List Int} (h : l.length < 4294967296) : gToInts l = some l := gd_eq h
theorem enc1_intss (l : List (List Int)) : l.map (fun r => AV.ds 1 (r.map fun n => .int .i64 n)) = l.map (fun r => AV.ds 1 (r.map fun n => .int .i64 n)) := rfl
def rowsOK (l : List (List Int)) : Prop := ∀ k, k < l.length → (l.getD k []).length < 4294967296
instance (l : List (List Int)) : Decidable (rowsOK l) := by unfold rowsOK; infer_instance
def gToIntss (l : List (List Int)) : Option (List (List Int)) := gd (l.length < 4294967296 ∧ rowsOK l) l
theorem gToIntss_eq {l : List (List Int)} (h : l.length < 4294967296 ∧ rowsOK l) : gToIntss l = some l := gd_eq h
def tsrB (x : Tsr) : Prop := x.sh.length < 4294967296 ∧ x.vl.length < 4294967296
instance (x : Tsr) : Decidable (tsrB x) := by unfold tsrB; infer_instance
def gToTsr (x : Tsr) : Option Tsr := gd (tsrB x) x
theorem gToTsr_eq {x : Tsr} (h : tsrB x) : gToTsr x = some x := gd_eq h
def gEqInts (a b : List Int) : Option Bool := gd (a.length < 4294967296 ∧ b.length < 4294967296) (decide (a = b))
theorem gEqInts_eq {a b : List Int} (h : a.length < 4294967296 ∧ b.length < 4294967296) : gEqInts a b = some (decide (a = b)) := gd_eq h
def gEqIntss (a b : List (List Int)) : Option Bool := gd ((a.length < 4294967296 ∧ b.length < 4294967296) ∧ rowsOK a ∧ rowsOK b) (decide (a = b))
theorem gEqIntss_eq {a b : List (List Int)} (h : (a.length < 4294967296 ∧ b.length < 4294967296) ∧ rowsOK a ∧ rowsOK b) : gEqIntss a b = some (decide (a = b)) := gd_eq h
def gEqTsr (a b : Tsr) : Option Bool := gd (tsrB a ∧ tsrB b) (decide (a = b))
theorem gEqTsr_eq {a b : Tsr} (h : tsrB a ∧ tsrB b) : gEqTsr a b = some (decide (a = b)) := gd_eq h
theorem tsr_ext {a b : Tsr} (h : a.sh = b.sh) (h' : a.vl = b.vl) : a = b := by cases a; cases b; simp_all
def tsrsB (l : List Tsr) : Prop := ∀ k, k < l.length → tsrB (l.getD k ⟨[], []⟩)
instance (l : List Tsr) : Decidable (tsrsB l) := by unfold tsrsB; infer_instance
def gEqTsrs (a b : List Tsr) : Option Bool := gd ((a.length < 4294967296 ∧ b.length < 4294967296) ∧ tsrsB a ∧ tsrsB b) (decide (a = b))
theorem gEqTsrs_eq {a b : List Tsr} (h : (a.length < 4294967296 ∧ b.length < 4294967296) ∧ tsrsB a ∧ tsrsB b) : gEqTsrs a b = some (decide (a = b)) := gd_eq h
def gToTsrs (l : List Tsr) : Option (List Tsr) := gd (l.length < 4294967296 ∧ tsrsB l) l
theorem gToTsrs_eq {l : List Tsr} (h : l.length < 4294967296 ∧ tsrsB l) : gToTsrs l = some l := gd_eq h
/-- what is left of a budget -/
def szRows : List (List Int) → Int → Int
  | [], n => n
  | x :: r, n => if szI x.length n < 0 then -1 else szRows r (szI x.length n)
theorem szI_le {n : Nat} {left : Int} (h : ¬ szI n left < 0) : szI n left = left - n ∧ (n : Int) ≤ left := by
  unfold szI at *
  split at h <;> omega
theorem szRows_step {l : List (List Int)} {k : Nat} {n : Int} (h : k < l.length) : szRows (l.drop k) n = if szI (l.getD k []).length n < 0 then -1 else szRows (l.drop (k + 1)) (szI (l.getD k []).length n) := by
  rw [drop_getD (d := []) h]; rfl
def bigRows (l : List (List Int)) : Prop := ∀ k, k < l.length → (l.getD k []).length < 9223372036854775808
instance (l : List (List Int)) : Decidable (bigRows l) := by unfold bigRows; infer_instance
def szSS (l : List (List Int)) (left : Int) : Int := if szI l.length left < 0 then -1 else szRows l (szI l.length left)
def gSzIntss (l : List (List Int)) (left : Int) : Option Int := gd ((l.length < 9223372036854775808 ∧ 0 ≤ left ∧ left ≤ 1048576) ∧ bigRows l) (szSS l left)
theorem gSzIntss_eq {l : List (List Int)} {left : Int} (h : (l.length < 9223372036854775808 ∧ 0 ≤ left ∧ left ≤ 1048576) ∧ bigRows l) : gSzIntss l left = some (szSS l left) := gd_eq h
def szT (x : Tsr) (left : Int) : Int := if szI x.sh.length left < 0 then -1 else szI x.vl.length (szI x.sh.length left)
def tsrBig (x : Tsr) : Prop := x.sh.length < 9223372036854775808 ∧ x.vl.length < 9223372036854775808
instance (x : Tsr) : Decidable (tsrBig x) := by unfold tsrBig; infer_instance
def gSzTsr (x : Tsr) (left : Int) : Option Int := gd ((0 ≤ left ∧ left ≤ 1048576) ∧ tsrBig x) (szT x left)
theorem gSzTsr_eq {x : Tsr} {left : Int} (h : (0 ≤ left ∧ left ≤ 1048576) ∧ tsrBig x) : gSzTsr x left = some (szT x left) := gd_eq h
def szTs : List Tsr → Int → Int
  | [], n => n
  | x :: r, n => if szT x n < 0 then -1 else szTs r (szT x n)
theorem szT_le {x : Tsr} {left : Int} (h : ¬ szT x left < 0) : szT x left = left - x.sh.length - x.vl.length ∧ (x.sh.length : Int) + x.vl.length ≤ left := by
  by_cases h3 : szI x.sh.length left < 0
  · exact absurd (by rw [szT, if_pos h3]; omega) h
  · rw [szT, if_neg h3] at h ⊢
    have h1 := szI_le h3
    have h2 := szI_le h
    omega
theorem szTs_step {l : List Tsr} {k : Nat} {n : Int} (h : k < l.length) : szTs (l.drop k) n = if szT (l.getD k ⟨[], []⟩) n < 0 then -1 else szTs (l.drop (k + 1)) (szT (l.getD k ⟨[], []⟩) n) := by
  rw [drop_getD (d := ⟨[], []⟩) h]; rfl
def tsrsBig (l : List Tsr) : Prop := ∀ k, k < l.length → tsrBig (l.getD k ⟨[], []⟩)
instance (l : List Tsr) : Decidable (tsrsBig l) := by unfold tsrsBig; infer_instance
def szTS (l : List Tsr) (left : Int) : Int := if szI l.length left < 0 then -1 else szTs l (szI l.length left)
def gSzTsrs (l : List Tsr) (left : Int) : Option Int := gd ((l.length < 9223372036854775808 ∧ 0 ≤ left ∧ left ≤ 1048576) ∧ tsrsBig l) (szTS l left)
theorem gSzTsrs_eq {l : List Tsr} {left : Int} (h : (l.length < 9223372036854775808 ∧ 0 ≤ left ∧ left ≤ 1048576) ∧ tsrsBig l) : gSzTsrs l left = some (szTS l left) := gd_eq h
/-- what a budget that is not used up says -/
theorem szSS_ok {l : List (List Int)} {left : Int} (hl : left ≤ 1048576) (h : ¬ szSS l left < 0) : l.length ≤ 1048576 ∧ (∀ k, k < l.length → (l.getD k []).length ≤ 1048576) ∧ szSS l left ≤ 1048576 := by
  unfold szSS at h ⊢
  split at h
  · omega
  · rename_i h0
    rw [if_neg h0]
    have h1 := szI_le h0
    have key : ∀ (r : List (List Int)) (n : Int), n ≤ 1048576 → ¬ szRows r n < 0 → (∀ x ∈ r, x.length ≤ 1048576) ∧ szRows r n ≤ 1048576 := by
      intro r
      induction r with
      | nil => intro n hn _; exact ⟨by simp, hn⟩
      | cons y r ih =>
        intro n hn hs
        unfold szRows at hs ⊢
        split at hs
        · omega
        · rename_i h2
          rw [if_neg h2]
          have h3 := szI_le h2
          have := ih _ (by omega) hs
          refine ⟨fun x hx => ?_, this.2⟩
          rcases List.mem_cons.1 hx with rfl | hx
          · omega
          · exact this.1 x hx
    have := key l _ (by omega) h
    exact ⟨by omega, fun k hk => this.1 _ (by simp [hk]), this.2⟩
theorem szTS_ok {l : List Tsr} {left : Int} (hl : left ≤ 1048576) (h : ¬ szTS l left < 0) : l.length ≤ 1048576 ∧ (∀ k, k < l.length → (l.getD k ⟨[], []⟩).sh.length ≤ 1048576 ∧ (l.getD k ⟨[], []⟩).vl.length ≤ 1048576) ∧ szTS l left ≤ 1048576 := by
  unfold szTS at h ⊢
  split at h
  · omega
  · rename_i h0
    rw [if_neg h0]
    have h1 := szI_le h0
    have key : ∀ (r : List Tsr) (n : Int), n ≤ 1048576 → ¬ szTs r n < 0 → (∀ x ∈ r, x.sh.length ≤ 1048576 ∧ x.vl.length ≤ 1048576) ∧ szTs r n ≤ 1048576 := by
      intro r
      induction r with
      | nil => intro n hn _; exact ⟨by simp, hn⟩
      | cons y r ih =>
        intro n hn hs
        unfold szTs at hs ⊢
        split at hs
        · omega
        · rename_i h2
          rw [if_neg h2]
          have h3 := szT_le h2
          have := ih _ (by omega) hs
          refine ⟨fun x hx => ?_, this.2⟩
          rcases List.mem_cons.1 hx with rfl | hx
          · omega
          · exact this.1 x hx
    have := key l _ (by omega) h
    exact ⟨by omega, fun k hk => this.1 _ (by simp [hk]), this.2⟩
end Go.Proofs.Ytjmkdnnfhphckaa
namespace Go.Proofs.Ytjmkdnnfhphckaa
open Go Go.Ev Go.RowKit Go.Ev.Enc

/-- tensors and labels that the program takes -/
def tsrsOK (l : List Tsr) (b : List (List Int)) : Bool := l.all tsrOK && decide (1 ≤ l.length ∧ l.length ≤ 3) && decide (b.length = l.length)
def gValidTensors (l : List Tsr) (b : List (List Int)) : Option Bool := gd ((l.length < 4294967296 ∧ b.length < 4294967296) ∧ tsrsB l) (tsrsOK l b)
theorem gValidTensors_eq {l : List Tsr} {b : List (List Int)} (h : (l.length < 4294967296 ∧ b.length < 4294967296) ∧ tsrsB l) : gValidTensors l b = some (tsrsOK l b) := gd_eq h
/-- the extents, without a look at the tensors -/
def extS (l : List Tsr) (b : List (List Int)) : Option (List Int) := extAll (fun _ => true) [-1, -1, -1, -1, -1] (l.zip b)
def gExtentsS (l : List Tsr) (b : List (List Int)) : Option (List Int × Bool) := gd (szOK l b ∧ b.length = l.length) (extRes (extS l b))
theorem gExtentsS_eq {l : List Tsr} {b : List (List Int)} (h : szOK l b ∧ b.length = l.length) : gExtentsS l b = some (extRes (extS l b)) := gd_eq h
theorem labOK_in (l : List Int) : (l.all fun n => inR n 0 4) = labOK l := by
  unfold labOK
  rw [List.not_any_eq_all_not]
  congr 1
  funext n
  unfold inR notLab
  rw [Bool.eq_iff_iff]
  simp only [Bool.and_eq_true, decide_eq_true_eq, Bool.not_eq_true', Bool.or_eq_false_iff, decide_eq_false_iff_not]
  omega
end Go.Proofs.Ytjmkdnnfhphckaa
namespace Go.Proofs.Ytjmkdnnfhphckaa
open Go Go.Ev Go.RowKit Go.Ev.Enc

theorem extAll_ok : ∀ (z : List (Tsr × List Int)) (o : List Int), (∀ x ∈ z, tsrOK x.1 = true) → extAll tsrOK o z = extAll (fun _ => true) o z
  | [], o, _ => rfl
  | x :: r, o, h => by
    unfold extAll
    have h0 := h x (by simp)
    have : (fun o => extAll tsrOK o r) = (fun o => extAll (fun _ => true) o r) := by
      funext o; exact extAll_ok r o fun y hy => h y (by simp [hy])
    rw [h0, this]
theorem extAll_bad : ∀ (z : List (Tsr × List Int)) (o : List Int), (∃ x ∈ z, tsrOK x.1 = false) → extAll tsrOK o z = none
  | [], o, h => by simp at h
  | x :: r, o, h => by
    unfold extAll
    split
    · rename_i hc
      obtain ⟨y, hy, hb⟩ := h
      rcases List.mem_cons.1 hy with rfl | hy
      · rw [hb] at hc; simp at hc
      · cases hE : extIn o (x.2.zip x.1.sh) with
        | none => rfl
        | some o' => exact extAll_bad r o' ⟨y, hy, hb⟩
    · rfl
theorem extF_eq (l : List Tsr) (b : List (List Int)) : extF l b = if tsrsOK l b = true then extS l b else none := by
  unfold extF extS tsrsOK
  by_cases hl : 1 ≤ l.length ∧ l.length ≤ 3 ∧ b.length = l.length
  · rw [if_pos hl, decide_eq_true (⟨hl.1, hl.2.1⟩ : 1 ≤ l.length ∧ l.length ≤ 3), decide_eq_true hl.2.2, Bool.and_true, Bool.and_true]
    by_cases ha : l.all tsrOK = true
    · rw [if_pos ha, extAll_ok]
      intro x hx
      exact List.all_eq_true.1 ha _ (List.of_mem_zip hx).1
    · rw [if_neg ha]
      have ha' : l.all tsrOK = false := by simpa using ha
      obtain ⟨y, hy, hb⟩ := List.all_eq_false.1 ha'
      refine extAll_bad _ _ ?_
      obtain ⟨i, hi, rfl⟩ := List.mem_iff_getElem.1 hy
      exact ⟨(l[i], b[i]'(by omega)), by rw [List.mem_iff_getElem]; exact ⟨i, by rw [List.length_zip]; omega, by simp⟩, by simpa using hb⟩
  · rw [if_neg hl]
    by_cases h1 : 1 ≤ l.length ∧ l.length ≤ 3
    · have h2 : ¬ b.length = l.length := fun h => hl ⟨h1.1, h1.2, h⟩
      rw [decide_eq_false h2, Bool.and_false, if_neg Bool.false_ne_true]
    · rw [decide_eq_false h1, Bool.and_false, Bool.false_and, if_neg Bool.false_ne_true]
theorem szOK_tsrsB {l : List Tsr} {b : List (List Int)} (h : szOK l b) : (l.length < 4294967296 ∧ b.length < 4294967296) ∧ tsrsB l := ⟨⟨h.1, h.2.1⟩, fun k hk => h.2.2.1 k hk⟩
theorem tsrsOK_len {l : List Tsr} {b : List (List Int)} (h : tsrsOK l b = true) : b.length = l.length := by
  unfold tsrsOK at h
  simp only [Bool.and_eq_true, decide_eq_true_eq] at h
  exact h.2
def pos1 (x : Int) : Int := if x < 0 then 1 else x
def gSpace (e : List Int) : Option (List Int × Int) := gd (e.length < 4294967296) (e.map pos1, prodW (e.map pos1))
theorem gSpace_eq {e : List Int} (h : e.length < 4294967296) : gSpace e = some (e.map pos1, prodW (e.map pos1)) := gd_eq h
theorem map_take_getD {e : List Int} {f : Int → Int} {k : Nat} (h : k < e.length) : (e.take (k + 1)).map f = (e.take k).map f ++ [f (e.getD k 0)] := by
  rw [take_succ_getD h, List.map_append]; rfl
theorem prodW_snoc (l : List Int) (x : Int) : prodW (l ++ [x]) = IntKind.i64.wrap (prodW l * x) := by simp [prodW]
/-- is a label needed by another tensor? -/
def othN (b : List (List Int)) (i j k : Int) : Nat → Bool
  | 0 => false
  | m + 1 => othN b i j k m || (decide ((m : Int) ≠ i ∧ (m : Int) ≠ j) && (b.getD m []).contains k)
def keepP (b : List (List Int)) (out : List Int) (i j k : Int) : Bool := ((b.getD i.toNat []).contains k || (b.getD j.toNat []).contains k) && (out.contains k || othN b i j k b.length)
def labs : List Int := [0, 1, 2, 3, 4]
theorem labs_take {α : Type} (f : Int → List α) {k : Nat} (h : k < 5) : (labs.take (k + 1)).flatMap f = (labs.take k).flatMap f ++ f (k : Nat) := by
  have : labs.take (k + 1) = labs.take k ++ [(k : Int)] := by
    match k, h with
    | 0, _ => rfl
    | 1, _ => rfl
    | 2, _ => rfl
    | 3, _ => rfl
    | 4, _ => rfl
  rw [this, List.flatMap_append]; simp
def keepF (b : List (List Int)) (out : List Int) (i j : Int) : List Int := labs.flatMap fun k => if keepP b out i j k then [k] else []
def pairIn (n : Nat) (i j : Int) : Prop := 0 ≤ i ∧ i < n ∧ 0 ≤ j ∧ j < n
instance (n : Nat) (i j : Int) : Decidable (pairIn n i j) := by unfold pairIn; infer_instance
def keepB (b : List (List Int)) (out : List Int) (i j : Int) : Prop := ((b.length < 4294967296 ∧ out.length < 4294967296) ∧ rowsOK b) ∧ pairIn b.length i j
instance (b : List (List Int)) (out : List Int) (i j : Int) : Decidable (keepB b out i j) := by unfold keepB; infer_instance
def gKeepFor (b : List (List Int)) (out : List Int) (i j : Int) : Option (List Int) := gd (keepB b out i j) (keepF b out i j)
theorem gKeepFor_eq {b : List (List Int)} {out : List Int} {i j : Int} (h : keepB b out i j) : gKeepFor b out i j = some (keepF b out i j) := gd_eq h
theorem plc_t {l : List Int} {n : Int} (h : 0 ≤ plc l n) : l.contains n = true := by rw [← plc_dec]; exact decide_eq_true h
theorem plc_f {l : List Int} {n : Int} (h : ¬ 0 ≤ plc l n) : l.contains n = false := by rw [← plc_dec]; exact decide_eq_false h
/-- the extents of the labels of the first contraction, and of the second -/
def costA (e : List Int) (b : List (List Int)) (i j k : Int) : Int := if ((b.getD i.toNat []).contains k || (b.getD j.toNat []).contains k) = true then e.getD k.toNat 0 else -1
def costR (e : List Int) (b : List (List Int)) (out : List Int) (i j k : Int) : Int := if (othN b i j k b.length || (keepF b out i j).contains k) = true then e.getD k.toNat 0 else -1
def costS (e : List Int) (b : List (List Int)) (out : List Int) (i j : Int) : Int :=
  IntKind.i64.wrap (prodW ((labs.map (costA e b i j)).map pos1) + prodW ((labs.map (costR e b out i j)).map pos1))
def gCostBy (e : List Int) (b : List (List Int)) (out : List Int) (i j : Int) : Option Int := gd (e.length = 5 ∧ keepB b out i j) (costS e b out i j)
theorem gCostBy_eq {e : List Int} {b : List (List Int)} {out : List Int} {i j : Int} (h : e.length = 5 ∧ keepB b out i j) : gCostBy e b out i j = some (costS e b out i j) := gd_eq h
theorem labs_map (f : Int → Int) {k : Nat} (h : k < 5) : (labs.take (k + 1)).map f = (labs.take k).map f ++ [f (k : Nat)] := by
  match k, h with
  | 0, _ => rfl
  | 1, _ => rfl
  | 2, _ => rfl
  | 3, _ => rfl
  | 4, _ => rfl
theorem keepF_len (b : List (List Int)) (out : List Int) (i j : Int) : (keepF b out i j).length ≤ 5 := by
  unfold keepF labs
  simp only [List.flatMap_cons, List.flatMap_nil, List.length_append]
  have h : ∀ (c : Bool) (k : Int), (if c = true then [k] else []).length ≤ 1 := by intro c k; cases c <;> simp
  have h0 := h (keepP b out i j 0) 0
  have h1 := h (keepP b out i j 1) 1
  have h2 := h (keepP b out i j 2) 2
  have h3 := h (keepP b out i j 3) 3
  have h4 := h (keepP b out i j 4) 4
  simp only [List.length_nil]
  omega
end Go.Proofs.Ytjmkdnnfhphckaa
namespace Go.Proofs.Ytjmkdnnfhphckaa
open Go Go.Ev Go.RowKit Go.Ev.Enc

theorem extAll_len {p : Tsr → Bool} : ∀ (z : List (Tsr × List Int)) (out o : List Int), extAll p out z = some o → o.length = out.length
  | [], out, o, h => by simp [extAll] at h; rw [h]
  | x :: r, out, o, h => by
    unfold extAll at h
    split at h
    · simp only [Option.bind_eq_some_iff] at h
      obtain ⟨o1, h1, h2⟩ := h
      rw [extAll_len r _ _ h2, extIn_len _ _ _ h1]
    · simp at h
theorem extF_len {l : List Tsr} {b : List (List Int)} {e : List Int} (h : extF l b = some e) : e.length = 5 ∧ b.length = l.length ∧ tsrsOK l b = true ∧ 1 ≤ l.length ∧ l.length ≤ 3 := by
  have h0 := extF_eq l b
  unfold extF at h
  split at h
  · rename_i hl
    refine ⟨extAll_len _ _ _ h, hl.2.2, ?_, hl.1, hl.2.1⟩
    by_cases ht : tsrsOK l b = true
    · exact ht
    · rw [if_neg ht] at h0
      unfold extF at h0
      rw [if_pos hl, h] at h0
      simp at h0
  · simp at h
def pairOK (n : Nat) (i j : Int) : Prop := 0 ≤ i ∧ i < n ∧ 0 ≤ j ∧ j < n ∧ i ≠ j
instance (n : Nat) (i j : Int) : Decidable (pairOK n i j) := by unfold pairOK; infer_instance
def costF (l : List Tsr) (b : List (List Int)) (out : List Int) (i j : Int) : Int :=
  match extF l b with
  | none => -1
  | some e => if labOK out = true ∧ pairOK l.length i j then costS e b out i j else -1
def gCostByT (l : List Tsr) (b : List (List Int)) (out : List Int) (i j : Int) : Option Int := gd (szOK l b ∧ out.length ≤ 1048576) (costF l b out i j)
theorem gCostByT_eq {l : List Tsr} {b : List (List Int)} {out : List Int} {i j : Int} (h : szOK l b ∧ out.length ≤ 1048576) : gCostByT l b out i j = some (costF l b out i j) := gd_eq h
theorem inR_t {n lo hi : Int} (h : inR n lo hi = true) : lo ≤ n ∧ n ≤ hi := by
  unfold inR at h; simpa using h
theorem inR_f {n lo hi : Int} (h : inR n lo hi = false) : ¬ (lo ≤ n ∧ n ≤ hi) := by
  intro hh; unfold inR at h; rw [decide_eq_true hh.1, decide_eq_true hh.2] at h; simp at h
end Go.Proofs.Ytjmkdnnfhphckaa
namespace Go.Proofs.Ytjmkdnnfhphckaa
open Go Go.Ev Go.RowKit Go.Ev.Enc Go.Pl

theorem isp_sort {b n : Nat} {q : List Int} {L : List Blk} (hL : L[b]? = some ⟨1, q.map fun n => .int .i64 n⟩) (hn : q.length = n) (hsz : n < 4611686018427387904) :
    ISpec Try.prog 44 [.sl b n 0 n n] L (fun r L' => r = .tup [] ∧ L' = L.set b ⟨1, (q.mergeSort fun x y => decide (x ≤ y)).map fun n => .int .i64 n⟩) :=
  ispec_sort (fun blk off cap zs w h1 h2 h3 => Try.slices_Sort_int blk off cap zs w h1 h2 h3) (fun p cap w => Try.slices_Sort_int_none p cap w) hL hn hsz
theorem isp_compact {b n : Nat} {q : List Int} {L : List Blk} (hL : L[b]? = some ⟨1, q.map fun n => .int .i64 n⟩) (hn : q.length = n) (hsz : n ≤ 9223372036854775807) :
    ISpec Try.prog 45 [.sl b n 0 n n] L (fun r L' => r = .sl b n 0 (Lib.compact q).length n ∧ L' = L.set b ⟨1, (Lib.compact q ++ List.replicate (q.length - (Lib.compact q).length) 0).map fun n => .int .i64 n⟩) :=
  ispec_compact (fun blk off cap zs w h1 h2 h3 => Try.slices_Compact_int blk off cap zs w h1 h2 h3) (fun p cap w => Try.slices_Compact_int_empty p cap w) (fun zs => Lib.compact_length_le zs) hL hn hsz
theorem can_sort : CanCall Try.prog 44 := ⟨_, Try.func44, rfl, rfl⟩
theorem can_compact : CanCall Try.prog 45 := ⟨_, Try.func45, rfl, rfl⟩

def bigB (ls : List (List Int)) : Prop := ls.length ≤ 1048576 ∧ ∀ k, k < ls.length → (ls.getD k []).length ≤ 1048576
instance (ls : List (List Int)) : Decidable (bigB ls) := by unfold bigB; infer_instance
def gAllLabels (ls : List (List Int)) : Option (List Int) := gd (bigB ls) (srt ls.flatten)
theorem gAllLabels_eq {ls : List (List Int)} (h : bigB ls) : gAllLabels ls = some (srt ls.flatten) := gd_eq h
theorem flat_take {ls : List (List Int)} {k : Nat} (h : k < ls.length) : (ls.take (k + 1)).flatten = (ls.take k).flatten ++ ls.getD k [] := by
  rw [List.take_succ_eq_append_getElem h, List.flatten_append]; simp [h]
def rowsOf (T : List (Nat × List Int)) : List AV := T.map fun p => .ds p.1 (p.2.map fun n => .int .i64 n)
theorem ee_rows1 (t t' u : Nat) (L : List Blk) (a : List Int) : expE (expC t L) (.ds t' [.ds u (a.map fun n => .int .i64 n)]) = .ds (min t' t) [.ds (min u t) (a.map fun n => .int .i64 n)] := by
  simp [expE, expC, stepC, Function.comp_def]
theorem ee_rows2 (t t' u v : Nat) (L : List Blk) (a b : List Int) : expE (expC t L) (.ds t' [.ds u (a.map fun n => .int .i64 n), .ds v (b.map fun n => .int .i64 n)]) = .ds (min t' t) [.ds (min u t) (a.map fun n => .int .i64 n), .ds (min v t) (b.map fun n => .int .i64 n)] := by
  simp [expE, expC, stepC, Function.comp_def]
theorem ee_rowsT (t t' : Nat) (L : List Blk) (T : List (Nat × List Int)) : expE (expC t L) (.ds t' (rowsOf T)) = .ds (min t' t) (T.map fun p => .ds (min p.1 t) (p.2.map fun n => .int .i64 n)) := by
  simp [rowsOf, expE, expC, stepC, Function.comp_def]
theorem expS_rowsT (t : Nat) (L : List Blk) (e ver off len : Nat) (T : List (Nat × List Int)) : expS t L ver off len (some ⟨e, rowsOf T⟩) = if (rowsOf T).length = ver ∧ off + len ≤ ver then .ds t (((T.drop off).take len).map fun p => .ds (min p.1 t) (p.2.map fun n => .int .i64 n)) else .any := by
  simp [rowsOf, expS, expE, stepC, Function.comp_def]
theorem dec_rows1 (a : List Int) : (dec (.ds 0 [.ds 0 (a.map fun n => .int .i64 n)]) : Option (List (List Int))) = some [a] := (ok _ _).2 rfl
theorem dec_rows2 (a b : List Int) : (dec (.ds 0 [.ds 0 (a.map fun n => .int .i64 n), .ds 0 (b.map fun n => .int .i64 n)]) : Option (List (List Int))) = some [a, b] := (ok _ _).2 rfl
theorem dec_rowsT (T : List (Nat × List Int)) : (dec (.ds 0 (T.map fun p => .ds 0 (p.2.map fun n => .int .i64 n))) : Option (List (List Int))) = some (T.map (·.2)) := (ok _ _).2 (by
  show _ = AV.ds 0 ((T.map (·.2)).map fun r => .ds 0 (r.map fun n => .int .i64 n))
  rw [List.map_map]; rfl)
theorem rowsOf_len (T : List (Nat × List Int)) : (rowsOf T).length = T.length := by simp [rowsOf]
theorem bigB1 {a : List Int} (h : a.length ≤ 1048576) : bigB [a] := ⟨by simp, fun k hk => by match k, hk with | 0, _ => exact h⟩
theorem bigB2 {a b : List Int} (h : a.length ≤ 1048576) (h' : b.length ≤ 1048576) : bigB [a, b] := ⟨by simp, fun k hk => by match k, hk with | 0, _ => exact h | 1, _ => exact h'⟩
attribute [go_sem] ee_rows1 ee_rows2 ee_rowsT expS_rowsT dec_rows1 dec_rows2 dec_rowsT rowsOf_len Nat.zero_min Nat.min_zero

def rowsM (l : List (List Int)) : Prop := ∀ k, k < l.length → (l.getD k []).length ≤ 1048576
instance (l : List (List Int)) : Decidable (rowsM l) := by unfold rowsM; infer_instance
def labsIn (b : List (List Int)) : Prop := ∀ k, k < b.length → labOK (b.getD k []) = true
instance (b : List (List Int)) : Decidable (labsIn b) := by unfold labsIn; infer_instance
/-- what is needed by others -/
def needF (b : List (List Int)) (i j : Int) : Nat → List Int
  | 0 => []
  | m + 1 => needF b i j m ++ if (m : Int) ≠ i ∧ (m : Int) ≠ j then b.getD m [] else []
def keptB (b : List (List Int)) (out : List Int) (i j : Int) : Prop := ((b.length ≤ 3 ∧ out.length ≤ 1048576) ∧ rowsM b) ∧ pairIn b.length i j
instance (b : List (List Int)) (out : List Int) (i j : Int) : Decidable (keptB b out i j) := by unfold keptB; infer_instance
def keptF (b : List (List Int)) (out : List Int) (i j : Int) : List Int := (srt [b.getD i.toNat [], b.getD j.toNat []].flatten).filter fun k => (out ++ needF b i j b.length).contains k
def gKept (b : List (List Int)) (out : List Int) (i j : Int) : Option (List Int) := gd (keptB b out i j) (keptF b out i j)
theorem gKept_eq {b : List (List Int)} {out : List Int} {i j : Int} (h : keptB b out i j) : gKept b out i j = some (keptF b out i j) := gd_eq h
def restF (b : List (List Int)) (i j : Int) : Nat → List (List Int)
  | 0 => []
  | m + 1 => restF b i j m ++ if (m : Int) ≠ i ∧ (m : Int) ≠ j then [b.getD m []] else []
theorem gCostOver_eq {e l : List Int} (hl : l.length < 4294967296) (h : ∀ x ∈ l, 0 ≤ x ∧ x < e.length) : gCostOver e l = some (costW e l) :=
  gd_eq ⟨hl, fun i hi => h _ (by simp [hi])⟩
theorem labOK_mem {l : List Int} (h : labOK l = true) {x : Int} (hx : x ∈ l) : 0 ≤ x ∧ x < 5 := by
  obtain ⟨i, hi, rfl⟩ := List.mem_iff_getElem.1 hx
  have := labOK_at h hi
  simp only [List.getD_eq_getElem?_getD, List.getElem?_eq_getElem hi, Option.getD_some] at this
  omega
theorem srt_len (l : List Int) : (srt l).length ≤ l.length := Nat.le_trans (Lib.compact_length_le _) (by rw [List.length_mergeSort]; exact Nat.le_refl _)
theorem costW_ok {e : List Int} {ls : List (List Int)} (he : e.length = 5) (hl : ls.flatten.length ≤ 16777216) (h : ∀ r ∈ ls, ∀ x ∈ r, 0 ≤ x ∧ x < 5) : gCostOver e (srt ls.flatten) = some (costW e (srt ls.flatten)) :=
  gCostOver_eq (by have := srt_len ls.flatten; omega) fun x hx => by
    rw [srt_mem, List.mem_flatten] at hx
    obtain ⟨r, hr, hx⟩ := hx
    have := h r hr x hx
    omega
theorem restF_mem {b : List (List Int)} {i j : Int} {r : List Int} : ∀ k, k ≤ b.length → r ∈ restF b i j k → ∃ m, m < k ∧ r = b.getD m [] ∧ (m : Int) ≠ i ∧ (m : Int) ≠ j
  | 0, _, h => by simp [restF] at h
  | k + 1, hk, h => by
    unfold restF at h
    rcases List.mem_append.1 h with h | h
    · obtain ⟨m, h1, h2, h3⟩ := restF_mem k (by omega) h
      exact ⟨m, by omega, h2, h3⟩
    · split at h
      · rename_i hc
        exact ⟨k, by omega, by simpa using h, hc⟩
      · simp at h
theorem restF_flat {b : List (List Int)} {i j : Int} (hb : rowsM b) : ∀ k, k ≤ b.length → (restF b i j k).flatten.length ≤ k * 1048576
  | 0, _ => by simp [restF]
  | k + 1, hk => by
    have h1 := restF_flat (i := i) (j := j) hb k (by omega)
    have h2 := hb k (by omega)
    rw [Nat.succ_mul]
    unfold restF
    split
    · simp only [List.flatten_append, List.length_append, List.flatten_cons, List.flatten_nil, List.length_nil]; omega
    · simp only [List.append_nil]; exact Nat.le_trans h1 (Nat.le_add_right _ _)
theorem labs_asc : labs.Pairwise (· < ·) := by simp [labs]
/-- a list of labels that ascends -/
theorem asc_labs {l : List Int} (h : l.Pairwise (· < ·)) (hm : ∀ x ∈ l, 0 ≤ x ∧ x < 5) : l = labs.filter fun k => l.contains k := by
  refine asc_ext h (labs_asc.sublist List.filter_sublist) fun x => ?_
  rw [List.mem_filter, List.contains_iff_mem]
  constructor
  · intro hx
    have := hm x hx
    refine ⟨?_, hx⟩
    have : x = 0 ∨ x = 1 ∨ x = 2 ∨ x = 3 ∨ x = 4 := by omega
    rcases this with rfl | rfl | rfl | rfl | rfl <;> simp [labs]
  · exact fun hx => hx.2
theorem keptF_len {b : List (List Int)} {out : List Int} {i j : Int} (hb : keptB b out i j) (hl : labsIn b) : (keptF b out i j).length ≤ 5 := by
  obtain ⟨⟨⟨b1, b2⟩, b3⟩, i1, i2, j1, j2⟩ := hb
  have bi := b3 i.toNat (by omega)
  have bj := b3 j.toNat (by omega)
  have hli := hl i.toNat (by omega)
  have hlj := hl j.toNat (by omega)
  unfold keptF
  refine Nat.le_trans (List.length_filter_le _ _) ?_
  have hsub : ∀ x ∈ srt [b.getD i.toNat [], b.getD j.toNat []].flatten, 0 ≤ x ∧ x < 5 := fun x hx => by
    rw [srt_mem] at hx
    simp only [List.flatten_cons, List.flatten_nil, List.append_nil, List.mem_append] at hx
    rcases hx with h | h
    · exact labOK_mem hli h
    · exact labOK_mem hlj h
  have ha := srt_asc [b.getD i.toNat [], b.getD j.toNat []].flatten
  rw [asc_labs ha hsub]
  exact Nat.le_trans (List.length_filter_le _ _) (Nat.le_refl _)
theorem keptF_mem {b : List (List Int)} {out : List Int} {i j : Int} {x : Int} : x ∈ keptF b out i j ↔ (x ∈ b.getD i.toNat [] ∨ x ∈ b.getD j.toNat []) ∧ (x ∈ out ∨ x ∈ needF b i j b.length) := by
  unfold keptF
  rw [List.mem_filter, srt_mem]
  simp only [List.flatten_cons, List.flatten_nil, List.append_nil, List.mem_append, List.contains_iff_mem]
theorem restF_len (b : List (List Int)) (i j : Int) : ∀ k, (restF b i j k).length ≤ k
  | 0 => Nat.le_refl _
  | k + 1 => by
    have := restF_len b i j k
    unfold restF
    split <;> simp <;> omega
def costI (e : List Int) (b : List (List Int)) (out : List Int) (i j : Int) : Int :=
  IntKind.i64.wrap (costW e (srt [b.getD i.toNat [], b.getD j.toNat []].flatten) + costW e (srt (keptF b out i j :: restF b i j b.length).flatten))
def gCostI (e : List Int) (b : List (List Int)) (out : List Int) (i j : Int) : Option Int := gd (e.length = 5 ∧ keptB b out i j ∧ labsIn b) (costI e b out i j)
theorem gCostI_eq {e : List Int} {b : List (List Int)} {out : List Int} {i j : Int} (h : e.length = 5 ∧ keptB b out i j ∧ labsIn b) : gCostI e b out i j = some (costI e b out i j) := gd_eq h
theorem evApp_ds2 {T : List (Nat × List Int)} {u : Nat} {r : List Int} (h : T.length ≤ 1048576) (h1 : T.length ≠ 0 ∨ True) :
    evApp [] (.ds 2 (rowsOf T)) [.ds u (r.map fun n => .int .i64 n)] 1 24 = some (.sl 0 (T.length + 1) 0 (T.length + 1) (T.length + 1), [⟨1, rowsOf (T ++ [(u, r)])⟩]) := by
  have ha : ((rowsOf T).all fun x => decide (x.cells.length = 1)) = true := by
    rw [List.all_eq_true]
    intro x hx
    obtain ⟨p, _, rfl⟩ := List.mem_map.1 hx
    rfl
  unfold evApp
  simp only [List.isEmpty_cons, Bool.false_eq_true, if_false, ha, rowsOf_len, List.length_cons, List.length_nil]
  rw [if_pos ⟨trivial, trivial, by omega, by omega⟩]
  simp [rowsOf]
theorem evApp_rows {T : List (Nat × List Int)} {u c : Nat} {r : List Int} (hc : T.length = c) (h : c ≤ 1048576) :
    evApp [⟨1, rowsOf T⟩] (.sl 0 c 0 c c) [.ds u (r.map fun n => .int .i64 n)] 1 24 = some (.sl 0 (c + 1) 0 (c + 1) (c + 1), [⟨1, rowsOf (T ++ [(u, r)])⟩]) := by
  rw [evApp_gen (q := rowsOf T) rfl (by rw [rowsOf_len]; exact hc) (by simp; omega) (by simp; omega)]
  simp [rowsOf]
/-- the rows so far: data, or a slice of our own -/
inductive IsRows : AV → List Blk → List (Nat × List Int) → Prop
  | ds (T) : IsRows (.ds 2 (rowsOf T)) [] T
  | sl (n T) : T.length = n → IsRows (.sl 0 n 0 n n) [⟨1, rowsOf T⟩] T
end Go.Proofs.Ytjmkdnnfhphckaa
namespace Go.Proofs.Ytjmkdnnfhphckaa
open Go Go.Ev Go.RowKit Go.Ev.Enc Go.Pl

theorem ww_idem (n : Int) : IntKind.i64.wrap (IntKind.i64.wrap n) = IntKind.i64.wrap n := by
  rw [IntKind.wrap_i64, IntKind.wrap_i64]; omega
def isW (n : Int) : Prop := IntKind.i64.wrap n = n
theorem isW_wrap (n : Int) : isW (IntKind.i64.wrap n) := ww_idem n
theorem fold_filter (e : List Int) (p : Int → Bool) (g : Int → Int) (hg : ∀ k, k ∈ labs → g k = if p k = true then e.getD k.toNat 0 else 1) :
    ∀ (l : List Int) (a : Int), (∀ k ∈ l, k ∈ labs) → isW a → (l.filter p).foldl (fun n x => IntKind.i64.wrap (n * e.getD x.toNat 0)) a = (l.map g).foldl (fun n e => IntKind.i64.wrap (n * e)) a
  | [], a, _, _ => rfl
  | k :: l, a, hl, ha => by
    have hk := hg k (hl k (by simp))
    simp only [List.filter_cons, List.map_cons, List.foldl_cons]
    by_cases hp : p k = true
    · rw [if_pos hp] at hk ⊢
      rw [List.foldl_cons, hk]
      exact fold_filter e p g hg l _ (fun k hk => hl k (by simp [hk])) (isW_wrap _)
    · rw [if_neg hp] at hk ⊢
      rw [hk, Int.mul_one, ha]
      exact fold_filter e p g hg l _ (fun k hk => hl k (by simp [hk])) ha
theorem isW_one : isW 1 := by rw [isW, IntKind.wrap_i64]; omega

/-- the costs are the same -/
theorem cost_lab {e X : List Int} (hX : ∀ x ∈ X, 0 ≤ x ∧ x < 5) (hn : ∀ x ∈ X, 0 ≤ e.getD x.toNat 0) (f : Int → Int) (hf : ∀ k ∈ labs, f k = if X.contains k = true then e.getD k.toNat 0 else -1) :
    costW e (srt X) = prodW ((labs.map f).map pos1) := by
  have h1 : srt X = labs.filter fun k => X.contains k := by
    rw [asc_labs (srt_asc X) (fun x hx => hX x ((srt_mem X x).1 hx))]
    congr 1
    funext k
    rw [Bool.eq_iff_iff, List.contains_iff_mem, List.contains_iff_mem, srt_mem]
  rw [h1, List.map_map]
  unfold costW prodW
  refine fold_filter e (fun k => X.contains k) (pos1 ∘ f) (fun k hk => ?_) labs 1 (fun _ h => h) isW_one
  simp only [Function.comp, hf k hk]
  by_cases hc : X.contains k = true
  · rw [if_pos hc, if_pos hc, pos1, if_neg]
    have := hn k (List.contains_iff_mem.1 hc)
    omega
  · rw [if_neg hc, if_neg hc]; rfl
theorem othN_iff {b : List (List Int)} {i j k : Int} : ∀ n, othN b i j k n = true ↔ ∃ m, m < n ∧ (m : Int) ≠ i ∧ (m : Int) ≠ j ∧ k ∈ b.getD m []
  | 0 => by simp [othN]
  | n + 1 => by
    rw [othN, Bool.or_eq_true, othN_iff n, Bool.and_eq_true, decide_eq_true_eq, List.contains_iff_mem]
    constructor
    · rintro (⟨m, h1, h2⟩ | ⟨⟨h1, h2⟩, h3⟩)
      · exact ⟨m, by omega, h2⟩
      · exact ⟨n, by omega, h1, h2, h3⟩
    · rintro ⟨m, h1, h2, h3, h4⟩
      rcases Nat.lt_or_ge m n with h | h
      · exact Or.inl ⟨m, h, h2, h3, h4⟩
      · have : m = n := by omega
        subst this; exact Or.inr ⟨⟨h2, h3⟩, h4⟩
theorem needF_iff {b : List (List Int)} {i j k : Int} : ∀ n, k ∈ needF b i j n ↔ ∃ m, m < n ∧ (m : Int) ≠ i ∧ (m : Int) ≠ j ∧ k ∈ b.getD m []
  | 0 => by simp [needF]
  | n + 1 => by
    rw [needF, List.mem_append, needF_iff n]
    constructor
    · rintro (⟨m, h1, h2⟩ | h)
      · exact ⟨m, by omega, h2⟩
      · split at h
        · rename_i hc; exact ⟨n, by omega, hc.1, hc.2, h⟩
        · simp at h
    · rintro ⟨m, h1, h2, h3, h4⟩
      rcases Nat.lt_or_ge m n with h | h
      · exact Or.inl ⟨m, h, h2, h3, h4⟩
      · have : m = n := by omega
        subst this; exact Or.inr (by rw [if_pos ⟨h2, h3⟩]; exact h4)
theorem restF_iff {b : List (List Int)} {i j k : Int} : ∀ n, k ∈ (restF b i j n).flatten ↔ ∃ m, m < n ∧ (m : Int) ≠ i ∧ (m : Int) ≠ j ∧ k ∈ b.getD m []
  | 0 => by simp [restF]
  | n + 1 => by
    rw [restF, List.flatten_append, List.mem_append, restF_iff n]
    constructor
    · rintro (⟨m, h1, h2⟩ | h)
      · exact ⟨m, by omega, h2⟩
      · split at h
        · rename_i hc; exact ⟨n, by omega, hc.1, hc.2, by simpa using h⟩
        · simp at h
    · rintro ⟨m, h1, h2, h3, h4⟩
      rcases Nat.lt_or_ge m n with h | h
      · exact Or.inl ⟨m, h, h2, h3, h4⟩
      · have : m = n := by omega
        subst this; exact Or.inr (by rw [if_pos ⟨h2, h3⟩]; simpa using h4)
theorem keep_eq {b : List (List Int)} {out : List Int} {i j : Int} {k : Int} (hk : k ∈ labs) : (keepF b out i j).contains k = (keptF b out i j).contains k := by
  rw [Bool.eq_iff_iff, List.contains_iff_mem, List.contains_iff_mem, keptF_mem, needF_iff]
  unfold keepF
  rw [List.mem_flatMap]
  constructor
  · rintro ⟨x, hx, h⟩
    split at h
    · rename_i hc
      have : k = x := by simpa using h
      subst this
      unfold keepP at hc
      simp only [Bool.and_eq_true, Bool.or_eq_true, List.contains_iff_mem, othN_iff] at hc
      exact hc
    · simp at h
  · intro h
    refine ⟨k, hk, ?_⟩
    rw [if_pos]
    · simp
    · unfold keepP
      simp only [Bool.and_eq_true, Bool.or_eq_true, List.contains_iff_mem, othN_iff]
      exact h
/-- every label's extent is told -/
def extNN (e : List Int) (b : List (List Int)) : Prop := ∀ k, k < b.length → ∀ x ∈ b.getD k [], 0 ≤ e.getD x.toNat 0
theorem cost_eq {e : List Int} {b : List (List Int)} {out : List Int} {i j : Int} (hp : pairIn b.length i j) (hl : labsIn b) (hn : extNN e b) : costI e b out i j = costS e b out i j := by
  obtain ⟨i1, i2, j1, j2⟩ := hp
  have hli := hl i.toNat (by omega)
  have hlj := hl j.toNat (by omega)
  unfold costI costS
  rw [cost_lab (f := costA e b i j), cost_lab (f := costR e b out i j)]
  · intro x hx
    rw [List.flatten_cons, List.mem_append, restF_iff] at hx
    rcases hx with h | ⟨m, m1, _, _, h⟩
    · rcases (keptF_mem.1 h).1 with h | h
      · exact labOK_mem hli h
      · exact labOK_mem hlj h
    · exact labOK_mem (hl m m1) h
  · intro x hx
    rw [List.flatten_cons, List.mem_append, restF_iff] at hx
    rcases hx with h | ⟨m, m1, _, _, h⟩
    · rcases (keptF_mem.1 h).1 with h | h
      · exact hn _ (by omega) x h
      · exact hn _ (by omega) x h
    · exact hn m m1 x h
  · intro k hk
    unfold costR
    have : (othN b i j k b.length || (keepF b out i j).contains k) = (keptF b out i j :: restF b i j b.length).flatten.contains k := by
      rw [keep_eq hk, Bool.eq_iff_iff, Bool.or_eq_true, List.contains_iff_mem, List.contains_iff_mem, othN_iff, List.flatten_cons, List.mem_append, restF_iff, or_comm]
    rw [this]
  · intro x hx
    simp only [List.flatten_cons, List.flatten_nil, List.append_nil, List.mem_append] at hx
    rcases hx with h | h
    · exact labOK_mem hli h
    · exact labOK_mem hlj h
  · intro x hx
    simp only [List.flatten_cons, List.flatten_nil, List.append_nil, List.mem_append] at hx
    rcases hx with h | h
    · exact hn _ (by omega) x h
    · exact hn _ (by omega) x h
  · intro k hk
    unfold costA
    have : ((b.getD i.toNat []).contains k || (b.getD j.toNat []).contains k) = [b.getD i.toNat [], b.getD j.toNat []].flatten.contains k := by
      rw [Bool.eq_iff_iff, Bool.or_eq_true, List.contains_iff_mem, List.contains_iff_mem, List.contains_iff_mem]
      simp
    rw [this]

theorem extIn_nn : ∀ (z : List (Int × Int)) (o o' : List Int), o.length = 5 → (∀ p ∈ z, (0 ≤ p.1 ∧ p.1 ≤ 4) ∧ 0 ≤ p.2) → extIn o z = some o' →
    (∀ k, 0 ≤ o.getD k 0 → 0 ≤ o'.getD k 0) ∧ ∀ p ∈ z, 0 ≤ o'.getD p.1.toNat 0
  | [], o, o', _, _, h => by simp [extIn] at h; subst h; simp
  | x :: r, o, o', ho, hz, h => by
    unfold extIn at h
    split at h
    · simp at h
    · obtain ⟨⟨x1, x2⟩, x3⟩ := hz x (by simp)
      obtain ⟨g1, g2⟩ := extIn_nn r _ o' (by simp [ho]) (fun p hp => hz p (by simp [hp])) h
      have hs : 0 ≤ (o.set x.1.toNat x.2).getD x.1.toNat 0 := by rw [getD_set, if_pos ⟨rfl, by omega⟩]; exact x3
      refine ⟨fun k hk => g1 k ?_, fun p hp => ?_⟩
      · rw [getD_set]
        split
        · exact x3
        · exact hk
      · rcases List.mem_cons.1 hp with rfl | hp
        · exact g1 _ hs
        · exact g2 p hp
theorem tsrOK_dims {x : Tsr} (h : tsrOK x = true) : x.sh.length ≤ 4 ∧ ∀ d ∈ x.sh, 0 ≤ d ∧ d ≤ 60 := by
  unfold tsrOK shapeOK at h
  simp only [Bool.and_eq_true, decide_eq_true_eq, List.all_eq_true] at h
  refine ⟨h.1.1.1.1, fun d hd => ?_⟩
  have := h.1.1.1.2 d hd
  unfold inExt at this
  simpa using this
theorem extAll_nn : ∀ (z : List (Tsr × List Int)) (o o' : List Int), o.length = 5 → extAll tsrOK o z = some o' →
    (∀ k, 0 ≤ o.getD k 0 → 0 ≤ o'.getD k 0) ∧ ∀ x ∈ z, (x.2.length ≤ 4 ∧ labOK x.2 = true) ∧ ∀ y ∈ x.2, 0 ≤ o'.getD y.toNat 0
  | [], o, o', _, h => by simp [extAll] at h; subst h; simp
  | x :: r, o, o', ho, h => by
    unfold extAll at h
    split at h
    · rename_i hc
      simp only [Option.bind_eq_some_iff] at h
      obtain ⟨o1, h1, h2⟩ := h
      have hd := tsrOK_dims hc.1
      obtain ⟨a1, a2⟩ := extIn_nn _ o o1 ho (fun p hp => by
        have hm := List.of_mem_zip hp
        have := labOK_mem hc.2.2 hm.1
        exact ⟨⟨this.1, by omega⟩, (hd.2 _ hm.2).1⟩) h1
      obtain ⟨b1, b2⟩ := extAll_nn r o1 o' (by rw [extIn_len _ _ _ h1, ho]) h2
      refine ⟨fun k hk => b1 k (a1 k hk), fun y hy => ?_⟩
      rcases List.mem_cons.1 hy with rfl | hy
      · refine ⟨⟨by omega, hc.2.2⟩, fun l hl => ?_⟩
        obtain ⟨i, hi, rfl⟩ := List.mem_iff_getElem.1 hl
        have hm : (y.2[i], y.1.sh[i]'(by omega)) ∈ y.2.zip y.1.sh := by
          rw [List.mem_iff_getElem]
          exact ⟨i, by rw [List.length_zip]; omega, by simp⟩
        exact b1 _ (a2 _ hm)
      · exact b2 y hy
    · simp at h
theorem extF_facts {l : List Tsr} {b : List (List Int)} {e : List Int} (h : extF l b = some e) : labsIn b ∧ extNN e b ∧ ∀ k, k < b.length → (b.getD k []).length ≤ 4 := by
  obtain ⟨h1, h2, h3, h4, h5⟩ := extF_len h
  unfold extF at h
  rw [if_pos ⟨h4, h5, h2⟩] at h
  obtain ⟨_, g⟩ := extAll_nn _ _ _ rfl h
  have hm : ∀ k, k < b.length → (l.getD k ⟨[], []⟩, b.getD k []) ∈ l.zip b := fun k hk => by
    rw [List.mem_iff_getElem]
    exact ⟨k, by rw [List.length_zip]; omega, by simp [hk, show k < l.length by omega]⟩
  exact ⟨fun k hk => (g _ (hm k hk)).1.2, fun k hk => (g _ (hm k hk)).2, fun k hk => (g _ (hm k hk)).1.1⟩

def gTrue5 (l : List Tsr) (b : List (List Int)) (out : List Int) (i j : Int) : Option Bool := gd ((l.length ≤ 9223372036854775807 ∧ b.length ≤ 9223372036854775807 ∧ out.length ≤ 9223372036854775807) ∧ tsrsBig l ∧ bigRows b) true
end Go.Proofs.Ytjmkdnnfhphckaa
