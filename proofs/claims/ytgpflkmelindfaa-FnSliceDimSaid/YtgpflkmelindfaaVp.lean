/- Contracts of functions that the laws of this seat call. -/
import Derived.Test.YtgpflkmelindfaaVo
set_option linter.all false
namespace Go.Proofs.Ytgpflkmelindfaa
open Go Go.Ev Go.RowKit Go.Ev.Enc Go.Pl

/-! ### the least and the greatest -/
def mnS (a b : Int) : Int := if b < a then b else a
def mxS (a b : Int) : Int := if a < b then b else a
def mnT (l : List Int) (k : Nat) : Int := (l.take k).foldl mnS (l.getD 0 0)
def mxT (l : List Int) (k : Nat) : Int := (l.take k).foldl mxS (l.getD 0 0)
theorem mxT_succ {l : List Int} {k : Nat} (h : k < l.length) : mxT l (k + 1) = mxS (mxT l k) (l.getD k 0) := by
  unfold mxT
  rw [take_snocI h, List.foldl_append]; rfl
theorem mxT_one {l : List Int} : mxT l 1 = l.getD 0 0 := by
  cases l with
  | nil => rfl
  | cons x l =>
    show mxS x x = x
    unfold mxS
    split <;> rfl
theorem mxT_b {l : List Int} : ∀ k, 0 < l.length → k ≤ l.length → (mxT l k ∈ l) ∧ ∀ i, i < k → l.getD i 0 ≤ mxT l k
  | 0, h0, _ => ⟨gmem h0, fun i hi => absurd hi (Nat.not_lt_zero _)⟩
  | k + 1, h0, hk => by
    obtain ⟨h1, h2⟩ := mxT_b k h0 (by omega)
    rw [mxT_succ (by omega)]
    unfold mxS
    split
    · refine ⟨gmem (by omega), fun i hi => ?_⟩
      by_cases hik : i = k
      · subst hik; omega
      · have := h2 i (by omega); omega
    · refine ⟨h1, fun i hi => ?_⟩
      by_cases hik : i = k
      · subst hik; omega
      · have := h2 i (by omega); omega
def gMx (l : List Int) : Option Int := gd (0 < l.length ∧ l.length < 4294967296) (mxT l l.length)
theorem gMx_eq {l : List Int} (h : 0 < l.length ∧ l.length < 4294967296) : gMx l = some (mxT l l.length) := gd_eq h
theorem mnT_succ {l : List Int} {k : Nat} (h : k < l.length) : mnT l (k + 1) = mnS (mnT l k) (l.getD k 0) := by
  unfold mnT
  rw [take_snocI h, List.foldl_append]; rfl
theorem mnT_one {l : List Int} : mnT l 1 = l.getD 0 0 := by
  cases l with
  | nil => rfl
  | cons x l =>
    show mnS x x = x
    unfold mnS
    split <;> rfl
theorem mnT_b {l : List Int} : ∀ k, 0 < l.length → k ≤ l.length → (mnT l k ∈ l) ∧ ∀ i, i < k → mnT l k ≤ l.getD i 0
  | 0, h0, _ => ⟨gmem h0, fun i hi => absurd hi (Nat.not_lt_zero _)⟩
  | k + 1, h0, hk => by
    obtain ⟨h1, h2⟩ := mnT_b k h0 (by omega)
    rw [mnT_succ (by omega)]
    unfold mnS
    split
    · refine ⟨gmem (by omega), fun i hi => ?_⟩
      by_cases hik : i = k
      · subst hik; omega
      · have := h2 i (by omega); omega
    · refine ⟨h1, fun i hi => ?_⟩
      by_cases hik : i = k
      · subst hik; omega
      · have := h2 i (by omega); omega
def gMn (l : List Int) : Option Int := gd (0 < l.length ∧ l.length < 4294967296) (mnT l l.length)
theorem gMn_eq {l : List Int} (h : 0 < l.length ∧ l.length < 4294967296) : gMn l = some (mnT l l.length) := gd_eq h
def bdF (v : Vi) : Int × Int := if viewOK v = true ∧ ¬ prodW v.sh = 0 then (mnT (offF v) (offF v).length, mxT (offF v) (offF v).length) else (-1, -1)
def gBounds (v : Vi) : Option (Int × Int) := gd (viB v) (bdF v)
theorem gBounds_eq {v : Vi} (h : viB v) : gBounds v = some (bdF v) := gd_eq h
theorem offF_pos {v : Vi} (h : viewOK v = true) (hz : ¬ prodW v.sh = 0) : 0 < (offF v).length := by
  obtain ⟨s1, s2, s3, s4, s5⟩ := shape_facts (viewOK_iff.1 h).1
  rw [offF_len]; omega
end Go.Proofs.Ytgpflkmelindfaa
