/- Contracts of functions that the laws of this seat call. -/
import Derived.Test.YtgepbcakcjdmoaaFj
set_option linter.all false
namespace Go.Proofs.Ytgepbcakcjdmoaa
open Go Go.Ev Go.RowKit Go.Ev.Enc

theorem extAll_len {p : Tsr → Bool} : ∀ (z : List (Tsr × List Int)) (out o : List Int), extAll p out z = some o → o.length = out.length
  | [], out, o, h => by simp [extAll] at h; rw [h]
  | x :: r, out, o, h => by
    unfold extAll at h
    split at h
    · simp only [Option.bind_eq_some_iff] at h
      obtain ⟨o1, h1, h2⟩ := h
      rw [extAll_len r _ _ h2, extIn_len _ _ _ h1]
    · simp at h
theorem extF_len {l : List Tsr} {b : List (List Int)} {e : List Int} (h : extF l b = some e) : e.length = 5 ∧ b.length = l.length ∧ tsrsOK l b = true ∧ 1 ≤ l.length ∧ l.length ≤ 3 := by
  have h0 := extF_eq l b
  unfold extF at h
  split at h
  · rename_i hl
    refine ⟨extAll_len _ _ _ h, hl.2.2, ?_, hl.1, hl.2.1⟩
    by_cases ht : tsrsOK l b = true
    · exact ht
    · rw [if_neg ht] at h0
      unfold extF at h0
      rw [if_pos hl, h] at h0
      simp at h0
  · simp at h
def pairOK (n : Nat) (i j : Int) : Prop := 0 ≤ i ∧ i < n ∧ 0 ≤ j ∧ j < n ∧ i ≠ j
instance (n : Nat) (i j : Int) : Decidable (pairOK n i j) := by unfold pairOK; infer_instance
def costF (l : List Tsr) (b : List (List Int)) (out : List Int) (i j : Int) : Int :=
  match extF l b with
  | none => -1
  | some e => if labOK out = true ∧ pairOK l.length i j then costS e b out i j else -1
def gCostByT (l : List Tsr) (b : List (List Int)) (out : List Int) (i j : Int) : Option Int := gd (szOK l b ∧ out.length ≤ 1048576) (costF l b out i j)
theorem gCostByT_eq {l : List Tsr} {b : List (List Int)} {out : List Int} {i j : Int} (h : szOK l b ∧ out.length ≤ 1048576) : gCostByT l b out i j = some (costF l b out i j) := gd_eq h
theorem inR_t {n lo hi : Int} (h : inR n lo hi = true) : lo ≤ n ∧ n ≤ hi := by
  unfold inR at h; simpa using h
theorem inR_f {n lo hi : Int} (h : inR n lo hi = false) : ¬ (lo ≤ n ∧ n ≤ hi) := by
  intro hh; unfold inR at h; rw [decide_eq_true hh.1, decide_eq_true hh.2] at h; simp at h
end Go.Proofs.Ytgepbcakcjdmoaa
