/- Contracts of functions that the laws of this seat call. -/
import Derived.Test.YtgepbcakcjdmoaaFa
set_option linter.all false
namespace Go.Proofs.Ytgepbcakcjdmoaa
open Go Go.Ev Go.RowKit Go.Ev.Enc

def inR (n lo hi : Int) : Bool := decide (lo ≤ n) && decide (n ≤ hi)
def gInRange (n lo hi : Int) : Option Bool := gd True (inR n lo hi)
theorem gInRange_eq (n lo hi : Int) : gInRange n lo hi = some (inR n lo hi) := rfl
set_option maxHeartbeats 2000000 in
set_option maxRecDepth 100000 in
theorem spec_inRange {Sg : FuncId → Option (List AV → Option AV)} (hS : Sound Try.prog Sg) : ∀ a r, F3 gInRange a = some r → CSpec Try.prog 100 a r := by
  refine spec3 Try.func100 rfl Try.pf hS ?_
  intro n lo hi r hr
  obtain ⟨-, rfl⟩ := gd_some hr
  by_cases h : lo ≤ n
  · by_cases h' : n ≤ hi
    · simp -implicitDefEqProofs only [go_sem, Nat.reduceAdd, Nat.reduceSub, reduceCtorEq, Nat.reduceLT, Nat.reduceLeDiff, Nat.reduceEqDiff, Nat.reduceMul, Int.reduceToNat, ↓reduceIte, Try.ntmps100, Try.results100, h, h', inR]
    · simp -implicitDefEqProofs only [go_sem, Nat.reduceAdd, Nat.reduceSub, reduceCtorEq, Nat.reduceLT, Nat.reduceLeDiff, Nat.reduceEqDiff, Nat.reduceMul, Int.reduceToNat, ↓reduceIte, Try.ntmps100, Try.results100, h, h', inR]
  · simp -implicitDefEqProofs only [go_sem, Nat.reduceAdd, Nat.reduceSub, reduceCtorEq, Nat.reduceLT, Nat.reduceLeDiff, Nat.reduceEqDiff, Nat.reduceMul, Int.reduceToNat, ↓reduceIte, Try.ntmps100, Try.results100, h, inR]

def gAllIn (l : List Int) (lo hi : Int) : Option Bool := gd (l.length < 4294967296) (l.all fun n => inR n lo hi)
theorem gAllIn_eq {l : List Int} (h : l.length < 4294967296) (lo hi : Int) : gAllIn l lo hi = some (l.all fun n => inR n lo hi) := gd_eq h
set_option maxHeartbeats 2000000 in
set_option maxRecDepth 100000 in
theorem spec_allIn {Sg : FuncId → Option (List AV → Option AV)} (hS : Sound Try.prog Sg) (hc : Sg 100 = some (F3 gInRange)) : ∀ a r, F3 gAllIn a = some r → CSpec Try.prog 99 a r := by
  refine spec3 Try.func99 rfl Try.pf hS ?_
  intro l lo hi r hr
  obtain ⟨hl, rfl⟩ := gd_some hr
  simp -implicitDefEqProofs only [go_sem, Nat.reduceAdd, Nat.reduceSub, reduceCtorEq, Nat.reduceLT, Nat.reduceLeDiff, Nat.reduceEqDiff, Nat.reduceMul, Int.reduceToNat, ↓reduceIte, Try.ntmps99, Try.results99]
  refine LoopQ.mix (fun t0 L0 nn ss => ∃ (k : Nat) (_ : Unit), (∃ x : Nat → AV, ss = ⟨mixL 0 (.k :: .k :: .k :: .k :: .k :: .k :: .s :: .v (i64 (k : Nat)) :: .s :: .s :: .s :: .s :: .s :: .s :: .s :: .s :: .s :: .s :: .s :: .s :: .s :: .s :: []) t0 x, L0⟩) ∧ (k ≤ l.length) ∧ ((l.take k).all (fun n => inR n lo hi) = true) ∧ nn = l.length - k) ⟨l.length, ?_⟩ ?_
  · exact ⟨0, (), mixI rfl, Nat.zero_le _, rfl, rfl⟩
  · rintro I0 hI0 n s ⟨k, _, ⟨x, rfl⟩, h1, h2, rfl⟩
    by_cases hlt : k < l.length
    · have ea := all_take (p := fun n => inR n lo hi) hlt
      rw [h2, Bool.true_and] at ea
      cases hb : inR (l.getD k 0) lo hi with
      | false =>
        have hf := all_false (p := fun n => inR n lo hi) hlt hb
        simp -implicitDefEqProofs only [go_sem, Nat.reduceAdd, Nat.reduceSub, reduceCtorEq, Nat.reduceLT, Nat.reduceLeDiff, Nat.reduceEqDiff, Nat.reduceMul, Int.reduceToNat, ↓reduceIte, Try.ntmps99, Try.results99, Int.ofNat_lt, hlt, getD_ints hlt, hc, gInRange_eq, hb, hf]
      | true =>
        rw [hb] at ea
        simp -implicitDefEqProofs only [go_sem, Nat.reduceAdd, Nat.reduceSub, reduceCtorEq, Nat.reduceLT, Nat.reduceLeDiff, Nat.reduceEqDiff, Nat.reduceMul, Int.reduceToNat, ↓reduceIte, Try.ntmps99, Try.results99, Int.ofNat_lt, hlt, getD_ints hlt, hc, gInRange_eq, hb, wrap_succ (show k < 9223372036854775807 by omega)]
        exact ⟨l.length - (k + 1), by omega, hI0 _ _ ⟨k + 1, (), mixI rfl, hlt, ea, rfl⟩⟩
    · obtain rfl : k = l.length := by omega
      rw [List.take_length] at h2
      simp -implicitDefEqProofs only [go_sem, Nat.reduceAdd, Nat.reduceSub, reduceCtorEq, Nat.reduceLT, Nat.reduceLeDiff, Nat.reduceEqDiff, Nat.reduceMul, Int.reduceToNat, ↓reduceIte, Try.ntmps99, Try.results99, Int.ofNat_lt, hlt, h2]

/-- the place of a number in a list -/
def plc (l : List Int) (n : Int) : Int := if l.findIdx (· == n) < l.length then (l.findIdx (· == n) : Int) else -1
def gPlaceIn (l : List Int) (n : Int) : Option Int := gd (l.length < 4294967296) (plc l n)
theorem gPlaceIn_eq {l : List Int} (h : l.length < 4294967296) (n : Int) : gPlaceIn l n = some (plc l n) := gd_eq h
theorem plc_eq {l : List Int} {n : Int} {k : Nat} (hk : k < l.length) (h : (l.getD k 0 == n) = true) (h' : ∀ i, i < k → (l.getD i 0 == n) = false) : plc l n = k := by
  have : l.findIdx (· == n) = k := by
    rw [List.findIdx_eq hk]
    refine ⟨by simpa [hk] using h, fun j hj => ?_⟩
    have := h' j hj
    have hjl : j < l.length := Nat.lt_trans hj hk
    simpa [hjl] using this
  unfold plc
  rw [this, if_pos hk]
theorem plc_none {l : List Int} {n : Int} (h' : ∀ i, i < l.length → (l.getD i 0 == n) = false) : plc l n = -1 := by
  have : ¬ l.findIdx (· == n) < l.length := by
    intro hk
    have h1 := List.findIdx_getElem (w := hk)
    have h2 := h' _ hk
    rw [List.getD_eq_getElem?_getD, List.getElem?_eq_getElem hk] at h2
    simp only [Option.getD_some] at h2
    rw [h2] at h1; simp at h1
  unfold plc
  rw [if_neg this]

set_option maxHeartbeats 2000000 in
set_option maxRecDepth 100000 in
theorem spec_placeIn {Sg : FuncId → Option (List AV → Option AV)} (hS : Sound Try.prog Sg) : ∀ a r, F2 gPlaceIn a = some r → CSpec Try.prog 78 a r := by
  refine spec2 Try.func78 rfl Try.pf hS ?_
  intro l n r hr
  obtain ⟨hl, rfl⟩ := gd_some hr
  simp -implicitDefEqProofs only [go_sem, Nat.reduceAdd, Nat.reduceSub, reduceCtorEq, Nat.reduceLT, Nat.reduceLeDiff, Nat.reduceEqDiff, Nat.reduceMul, Int.reduceToNat, ↓reduceIte, Try.ntmps78, Try.results78]
  refine LoopQ.mix (fun t0 L0 nn ss => ∃ (k : Nat) (_ : Unit), (∃ x : Nat → AV, ss = ⟨mixL 0 (.k :: .k :: .k :: .k :: .s :: .v (i64 (k : Nat)) :: .s :: .s :: .s :: .s :: .s :: .s :: .s :: .s :: .s :: .s :: .s :: .s :: .s :: []) t0 x, L0⟩) ∧ (k ≤ l.length) ∧ (∀ i, i < k → (l.getD i 0 == n) = false) ∧ nn = l.length - k) ⟨l.length, ?_⟩ ?_
  · exact ⟨0, (), mixI rfl, Nat.zero_le _, fun i hi => absurd hi (Nat.not_lt_zero _), rfl⟩
  · rintro I0 hI0 m s ⟨k, _, ⟨x, rfl⟩, h1, h2, rfl⟩
    by_cases hlt : k < l.length
    · cases hb : l.getD k 0 == n with
      | true =>
        simp -implicitDefEqProofs only [go_sem, Nat.reduceAdd, Nat.reduceSub, reduceCtorEq, Nat.reduceLT, Nat.reduceLeDiff, Nat.reduceEqDiff, Nat.reduceMul, Int.reduceToNat, ↓reduceIte, Try.ntmps78, Try.results78, Int.ofNat_lt, hlt, getD_ints hlt, hb, plc_eq hlt hb h2]
      | false =>
        simp -implicitDefEqProofs only [go_sem, Nat.reduceAdd, Nat.reduceSub, reduceCtorEq, Nat.reduceLT, Nat.reduceLeDiff, Nat.reduceEqDiff, Nat.reduceMul, Int.reduceToNat, ↓reduceIte, Try.ntmps78, Try.results78, Int.ofNat_lt, hlt, getD_ints hlt, hb, wrap_succ (show k < 9223372036854775807 by omega)]
        exact ⟨l.length - (k + 1), by omega, hI0 _ _ ⟨k + 1, (), mixI rfl, hlt, fun i hi => if h : i = k then by rw [h]; exact hb else h2 i (by omega), rfl⟩⟩
    · obtain rfl : k = l.length := by omega
      simp -implicitDefEqProofs only [go_sem, Nat.reduceAdd, Nat.reduceSub, reduceCtorEq, Nat.reduceLT, Nat.reduceLeDiff, Nat.reduceEqDiff, Nat.reduceMul, Int.reduceToNat, ↓reduceIte, Try.ntmps78, Try.results78, Int.ofNat_lt, hlt, plc_none h2]

def gCount (l : List Int) : Option Int := gd (l.length < 4294967296) (prodW l)
theorem gCount_eq {l : List Int} (h : l.length < 4294967296) : gCount l = some (prodW l) := gd_eq h
set_option maxHeartbeats 2000000 in
set_option maxRecDepth 100000 in
theorem spec_count {Sg : FuncId → Option (List AV → Option AV)} (hS : Sound Try.prog Sg) : ∀ a r, F1 gCount a = some r → CSpec Try.prog 101 a r := by
  refine spec1 Try.func101 rfl Try.pf hS ?_
  intro l r hr
  obtain ⟨hl, rfl⟩ := gd_some hr
  simp -implicitDefEqProofs only [go_sem, Nat.reduceAdd, Nat.reduceSub, reduceCtorEq, Nat.reduceLT, Nat.reduceLeDiff, Nat.reduceEqDiff, Nat.reduceMul, Int.reduceToNat, ↓reduceIte, Try.ntmps101, Try.results101]
  refine LoopQ.mix (fun t0 L0 nn ss => ∃ (k : Nat) (_ : Unit), (∃ x : Nat → AV, ss = ⟨mixL 0 (.k :: .k :: .k :: .v (i64 (prodW (l.take k))) :: .v (i64 (k : Nat)) :: .s :: .s :: .s :: .s :: .s :: .s :: .s :: .s :: .s :: .s :: .s :: .s :: .k :: []) t0 x, L0⟩) ∧ (k ≤ l.length) ∧ nn = l.length - k) ⟨l.length, ?_⟩ ?_
  · exact ⟨0, (), mixI rfl, Nat.zero_le _, rfl⟩
  · rintro I0 hI0 n s ⟨k, _, ⟨x, rfl⟩, h1, rfl⟩
    by_cases hlt : k < l.length
    · simp -implicitDefEqProofs only [go_sem, Nat.reduceAdd, Nat.reduceSub, reduceCtorEq, Nat.reduceLT, Nat.reduceLeDiff, Nat.reduceEqDiff, Nat.reduceMul, Int.reduceToNat, ↓reduceIte, Try.ntmps101, Try.results101, Int.ofNat_lt, hlt, getD_ints hlt, wrap_succ (show k < 9223372036854775807 by omega), prodW_take hlt]
      exact ⟨l.length - (k + 1), by omega, hI0 _ _ ⟨k + 1, (), mixI rfl, hlt, rfl⟩⟩
    · obtain rfl : k = l.length := by omega
      simp -implicitDefEqProofs only [go_sem, Nat.reduceAdd, Nat.reduceSub, reduceCtorEq, Nat.reduceLT, Nat.reduceLeDiff, Nat.reduceEqDiff, Nat.reduceMul, Int.reduceToNat, ↓reduceIte, Try.ntmps101, Try.results101, Int.ofNat_lt, hlt]

/-- the rank of an index, as the code computes it -/
def rankW : List Int → List Int → Nat → Int
  | s, i, 0 => 0
  | s, i, k + 1 => IntKind.i64.wrap (IntKind.i64.wrap (rankW s i k * s.getD k 0) + i.getD k 0)
def gRank (s i : List Int) : Option Int := gd (s.length < 4294967296 ∧ s.length ≤ i.length) (rankW s i s.length)
theorem gRank_eq {s i : List Int} (h : s.length < 4294967296) (h' : s.length ≤ i.length) : gRank s i = some (rankW s i s.length) := gd_eq ⟨h, h'⟩
def rankOf (s i : List Int) : Int := if shapeOK s && idxOK s i then rankW s i s.length else -1
def gRankOf (s i : List Int) : Option Int := gd (s.length < 4294967296 ∧ i.length < 4294967296) (rankOf s i)
theorem gRankOf_eq {s i : List Int} (h : s.length < 4294967296) (h' : i.length < 4294967296) : gRankOf s i = some (rankOf s i) := gd_eq ⟨h, h'⟩
end Go.Proofs.Ytgepbcakcjdmoaa
