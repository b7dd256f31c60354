/- Contracts of functions that the laws of this seat call. -/
import Derived.Test.YtgepbcakcjdmoaaFb
set_option linter.all false
namespace Go.Proofs.Ytgepbcakcjdmoaa
open Go Go.Ev Go.RowKit Go.Ev.Enc

/-- the first place where a test holds -/
def plcF (l : List Int) (p : Int → Bool) : Int := if l.findIdx p < l.length then (l.findIdx p : Int) else -1
theorem plcF_eq {l : List Int} {p : Int → Bool} {k : Nat} (hk : k < l.length) (h : p (l.getD k 0) = true) (h' : ∀ i, i < k → p (l.getD i 0) = false) : plcF l p = k := by
  have : l.findIdx p = k := by
    rw [List.findIdx_eq hk]
    refine ⟨by simpa [hk] using h, fun j hj => ?_⟩
    have := h' j hj
    have hjl : j < l.length := Nat.lt_trans hj hk
    simpa [hjl] using this
  unfold plcF
  rw [this, if_pos hk]
theorem plcF_none {l : List Int} {p : Int → Bool} (h' : ∀ i, i < l.length → p (l.getD i 0) = false) : plcF l p = -1 := by
  have : ¬ l.findIdx p < l.length := by
    intro hk
    have h1 := List.findIdx_getElem (w := hk)
    have h2 := h' _ hk
    rw [List.getD_eq_getElem?_getD, List.getElem?_eq_getElem hk] at h2
    simp only [Option.getD_some] at h2
    rw [h2] at h1; simp at h1
  unfold plcF
  rw [if_neg this]
theorem plcF_nonneg {l : List Int} {p : Int → Bool} : (0 ≤ plcF l p) ↔ l.any p = true := by
  unfold plcF
  rw [List.any_eq_true, ← List.findIdx_lt_length]
  split
  · simp [*]
  · simp [*]
theorem plc_F (l : List Int) (n : Int) : plc l n = plcF l (· == n) := rfl
theorem plc_nonneg {l : List Int} {n : Int} : (0 ≤ plc l n) ↔ n ∈ l := by
  rw [plc_F, plcF_nonneg]; simp

set_option maxHeartbeats 2000000 in
set_option maxRecDepth 100000 in
theorem spec_Index {Sg : FuncId → Option (List AV → Option AV)} (hS : Sound Try.prog Sg) : ∀ a r, F2 gPlaceIn a = some r → CSpec Try.prog 85 a r := by
  refine spec2 Try.func85 rfl Try.pf hS ?_
  intro l n r hr
  obtain ⟨hl, rfl⟩ := gd_some hr
  simp -implicitDefEqProofs only [go_sem, Nat.reduceAdd, Nat.reduceSub, reduceCtorEq, Nat.reduceLT, Nat.reduceLeDiff, Nat.reduceEqDiff, Nat.reduceMul, Int.reduceToNat, ↓reduceIte, Try.ntmps85, Try.results85]
  refine LoopQ.mix (fun t0 L0 nn ss => ∃ (k : Nat) (_ : Unit), (∃ x : Nat → AV, ss = ⟨mixL 0 (.k :: .k :: .k :: .k :: .s :: .s :: .k :: .k :: .v (i64 (k : Nat)) :: .s :: .s :: .s :: .s :: .s :: .s :: .s :: .s :: .s :: .s :: []) t0 x, L0⟩) ∧ (k ≤ l.length) ∧ (∀ i, i < k → (l.getD i 0 == n) = false) ∧ nn = l.length - k) ⟨l.length, ?_⟩ ?_
  · exact ⟨0, (), mixI rfl, Nat.zero_le _, fun i hi => absurd hi (Nat.not_lt_zero _), rfl⟩
  · rintro I0 hI0 m s ⟨k, _, ⟨x, rfl⟩, h1, h2, rfl⟩
    by_cases hlt : k < l.length
    · cases hb : l.getD k 0 == n with
      | true =>
        have hb' : (n == l.getD k 0) = true := by rw [← hb]; exact BEq.comm
        simp -implicitDefEqProofs only [go_sem, Nat.reduceAdd, Nat.reduceSub, reduceCtorEq, Nat.reduceLT, Nat.reduceLeDiff, Nat.reduceEqDiff, Nat.reduceMul, Int.reduceToNat, ↓reduceIte, Try.ntmps85, Try.results85, Int.ofNat_lt, hlt, getD_ints hlt, hb', plc_eq hlt hb h2]
      | false =>
        have hb' : (n == l.getD k 0) = false := by rw [← hb]; exact BEq.comm
        simp -implicitDefEqProofs only [go_sem, Nat.reduceAdd, Nat.reduceSub, reduceCtorEq, Nat.reduceLT, Nat.reduceLeDiff, Nat.reduceEqDiff, Nat.reduceMul, Int.reduceToNat, ↓reduceIte, Try.ntmps85, Try.results85, Int.ofNat_lt, hlt, getD_ints hlt, hb', wrap_succ (show k < 9223372036854775807 by omega)]
        exact ⟨l.length - (k + 1), by omega, hI0 _ _ ⟨k + 1, (), mixI rfl, hlt, fun i hi => if h : i = k then by rw [h]; exact hb else h2 i (by omega), rfl⟩⟩
    · obtain rfl : k = l.length := by omega
      simp -implicitDefEqProofs only [go_sem, Nat.reduceAdd, Nat.reduceSub, reduceCtorEq, Nat.reduceLT, Nat.reduceLeDiff, Nat.reduceEqDiff, Nat.reduceMul, Int.reduceToNat, ↓reduceIte, Try.ntmps85, Try.results85, Int.ofNat_lt, hlt, plc_none h2]

def gContains (l : List Int) (n : Int) : Option Bool := gd (l.length < 4294967296) (l.contains n)
theorem gContains_eq {l : List Int} (h : l.length < 4294967296) (n : Int) : gContains l n = some (l.contains n) := gd_eq h
theorem plc_dec (l : List Int) (n : Int) : decide (0 ≤ plc l n) = l.contains n := by
  rw [Bool.eq_iff_iff, decide_eq_true_eq, plc_nonneg, List.contains_iff_mem]
set_option maxHeartbeats 2000000 in
set_option maxRecDepth 100000 in
theorem spec_Contains {Sg : FuncId → Option (List AV → Option AV)} (hS : Sound Try.prog Sg) (hc : Sg 85 = some (F2 gPlaceIn)) : ∀ a r, F2 gContains a = some r → CSpec Try.prog 69 a r := by
  refine spec2 Try.func69 rfl Try.pf hS ?_
  intro l n r hr
  obtain ⟨hl, rfl⟩ := gd_some hr
  simp -implicitDefEqProofs only [go_sem, Nat.reduceAdd, Nat.reduceSub, reduceCtorEq, Nat.reduceLT, Nat.reduceLeDiff, Nat.reduceEqDiff, Nat.reduceMul, Int.reduceToNat, ↓reduceIte, Try.ntmps69, Try.results69, hc, gPlaceIn_eq hl, plc_dec]

set_option maxHeartbeats 2000000 in
set_option maxRecDepth 100000 in
theorem ispec_IndexFunc {Sg : FuncId → Option (List AV → Option AV)} (hS : Sound Try.prog Sg) {g : FuncId} {p : Int → Bool} (hg : CanCall Try.prog g) (hp : ∀ x L, ISpec Try.prog g [i64 x] L fun r L' => r = .bool (p x) ∧ L' = L) (tag : Nat) (l : List Int) (hl : l.length < 4294967296) (L : List Blk) : ISpec Try.prog 123 [ints tag l, .fn g []] L (fun r L' => r = i64 (plcF l p) ∧ L' = L) := by
  refine ISpec.intro Try.func123 rfl (vc_sound Try.pf hS _ _ _ ?_)
  simp -implicitDefEqProofs only [go_sem, Nat.reduceAdd, Nat.reduceSub, reduceCtorEq, Nat.reduceLT, Nat.reduceLeDiff, Nat.reduceEqDiff, Nat.reduceMul, Int.reduceToNat, ↓reduceIte, Try.ntmps123, Try.results123]
  refine LoopQ.mix (fun t0 L0 nn ss => ∃ (k : Nat) (_ : Unit), (∃ x : Nat → AV, ss = ⟨mixL 0 (.k :: .k :: .k :: .k :: .s :: .s :: .k :: .k :: .v (i64 (k : Nat)) :: .s :: .s :: .s :: .s :: .s :: .s :: .s :: .s :: .s :: .s :: []) t0 x, L0⟩) ∧ (k ≤ l.length) ∧ (∀ i, i < k → p (l.getD i 0) = false) ∧ nn = l.length - k) ⟨l.length, ?_⟩ ?_
  · exact ⟨0, (), mixI rfl, Nat.zero_le _, fun i hi => absurd hi (Nat.not_lt_zero _), rfl⟩
  · rintro I0 hI0 m s ⟨k, _, ⟨x, rfl⟩, h1, h2, rfl⟩
    by_cases hlt : k < l.length
    · simp -implicitDefEqProofs only [go_sem, Nat.reduceAdd, Nat.reduceSub, reduceCtorEq, Nat.reduceLT, Nat.reduceLeDiff, Nat.reduceEqDiff, Nat.reduceMul, Int.reduceToNat, ↓reduceIte, Try.ntmps123, Try.results123, Int.ofNat_lt, hlt, getD_ints hlt, opQ_none]
      refine InlK_intro rfl rfl hg ((hp _ _).mono ?_)
      rintro r L' ⟨rfl, rfl⟩
      cases hb : p (l.getD k 0) with
      | true =>
        simp -implicitDefEqProofs only [go_sem, Nat.reduceAdd, Nat.reduceSub, reduceCtorEq, Nat.reduceLT, Nat.reduceLeDiff, Nat.reduceEqDiff, Nat.reduceMul, Int.reduceToNat, ↓reduceIte, Try.ntmps123, Try.results123, plcF_eq hlt hb h2]
      | false =>
        simp -implicitDefEqProofs only [go_sem, Nat.reduceAdd, Nat.reduceSub, reduceCtorEq, Nat.reduceLT, Nat.reduceLeDiff, Nat.reduceEqDiff, Nat.reduceMul, Int.reduceToNat, ↓reduceIte, Try.ntmps123, Try.results123, wrap_succ (show k < 9223372036854775807 by omega)]
        exact ⟨l.length - (k + 1), by omega, hI0 _ _ ⟨k + 1, (), mixI rfl, hlt, fun i hi => if h : i = k then by rw [h]; exact hb else h2 i (by omega), rfl⟩⟩
    · obtain rfl : k = l.length := by omega
      simp -implicitDefEqProofs only [go_sem, Nat.reduceAdd, Nat.reduceSub, reduceCtorEq, Nat.reduceLT, Nat.reduceLeDiff, Nat.reduceEqDiff, Nat.reduceMul, Int.reduceToNat, ↓reduceIte, Try.ntmps123, Try.results123, Int.ofNat_lt, hlt, plcF_none h2]

set_option maxHeartbeats 2000000 in
set_option maxRecDepth 100000 in
theorem ispec_ContainsFunc {Sg : FuncId → Option (List AV → Option AV)} (hS : Sound Try.prog Sg) (hc : Sg 123 = none) {g : FuncId} {p : Int → Bool} (hg : CanCall Try.prog g) (hp : ∀ x L, ISpec Try.prog g [i64 x] L fun r L' => r = .bool (p x) ∧ L' = L) (tag : Nat) (l : List Int) (hl : l.length < 4294967296) (L : List Blk) : ISpec Try.prog 96 [ints tag l, .fn g []] L (fun r L' => r = .bool (l.any p) ∧ L' = L) := by
  refine ISpec.intro Try.func96 rfl (vc_sound Try.pf hS _ _ _ ?_)
  simp -implicitDefEqProofs only [go_sem, Nat.reduceAdd, Nat.reduceSub, reduceCtorEq, Nat.reduceLT, Nat.reduceLeDiff, Nat.reduceEqDiff, Nat.reduceMul, Int.reduceToNat, ↓reduceIte, Try.ntmps96, Try.results96, hc, opQ_none]
  refine InlK_intro rfl rfl ⟨_, Try.func123, rfl, rfl⟩ ((ispec_IndexFunc hS hg hp tag l hl L).mono ?_)
  rintro r L' ⟨rfl, rfl⟩
  simp -implicitDefEqProofs only [go_sem, Nat.reduceAdd, Nat.reduceSub, reduceCtorEq, Nat.reduceLT, Nat.reduceLeDiff, Nat.reduceEqDiff, Nat.reduceMul, Int.reduceToNat, ↓reduceIte, Try.ntmps96, Try.results96]
  rw [show decide (0 ≤ plcF l p) = l.any p from by rw [Bool.eq_iff_iff, decide_eq_true_eq, plcF_nonneg]]

def notLab (x : Int) : Bool := decide (x < 0) || decide (4 < x)
def labOK (l : List Int) : Bool := !l.any notLab
def gAreLabels (l : List Int) : Option Bool := gd (l.length < 4294967296) (labOK l)
theorem gAreLabels_eq {l : List Int} (h : l.length < 4294967296) : gAreLabels l = some (labOK l) := gd_eq h
end Go.Proofs.Ytgepbcakcjdmoaa
