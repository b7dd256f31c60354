/- Contracts of functions that the laws of this seat call. -/
import Derived.Test.YtgepbcakcjdmoaaFf
set_option linter.all false
namespace Go.Proofs.Ytgepbcakcjdmoaa
open Go Go.Ev Go.RowKit Go.Ev.Enc

/-- the extents of the labels of one tensor, put into those that are known -/
def extIn : List Int → List (Int × Int) → Option (List Int)
  | out, [] => some out
  | out, x :: r => if 0 ≤ out.getD x.1.toNat 0 ∧ out.getD x.1.toNat 0 ≠ x.2 then none else extIn (out.set x.1.toNat x.2) r
def extAll (p : Tsr → Bool) : List Int → List (Tsr × List Int) → Option (List Int)
  | out, [] => some out
  | out, x :: r => if p x.1 = true ∧ x.2.length = x.1.sh.length ∧ labOK x.2 = true then (extIn out (x.2.zip x.1.sh)).bind fun o => extAll p o r else none
def extRes : Option (List Int) → List Int × Bool
  | some o => (o, true)
  | none => ([], false)
theorem extIn_len : ∀ (z : List (Int × Int)) (out o : List Int), extIn out z = some o → o.length = out.length
  | [], out, o, h => by simp [extIn] at h; rw [h]
  | x :: r, out, o, h => by
    unfold extIn at h
    split at h
    · simp at h
    · rw [extIn_len r _ _ h, List.length_set]
theorem zip_drop {α β : Type} {a : List α} {b : List β} {k : Nat} {x : α} {y : β} (ha : k < a.length) (hb : k < b.length) : (a.zip b).drop k = (a.getD k x, b.getD k y) :: (a.zip b).drop (k + 1) := by
  rw [List.drop_eq_getElem_cons (by rw [List.length_zip]; omega)]
  simp [ha, hb]
theorem labOK_at {l : List Int} (h : labOK l = true) {k : Nat} (hk : k < l.length) : 0 ≤ l.getD k 0 ∧ l.getD k 0 ≤ 4 := by
  unfold labOK at h
  rw [Bool.not_eq_true', List.any_eq_false] at h
  have := h (l.getD k 0) (by simp [hk])
  unfold notLab at this
  simp only [Bool.or_eq_true, decide_eq_true_eq, not_or] at this
  omega

def szOK (l : List Tsr) (b : List (List Int)) : Prop := l.length < 4294967296 ∧ b.length < 4294967296 ∧ (∀ k, k < l.length → (l.getD k ⟨[], []⟩).sh.length < 4294967296 ∧ (l.getD k ⟨[], []⟩).vl.length < 4294967296) ∧ (∀ k, k < b.length → (b.getD k []).length < 4294967296)
instance (l : List Tsr) (b : List (List Int)) : Decidable (szOK l b) := by unfold szOK; infer_instance
def extF (l : List Tsr) (b : List (List Int)) : Option (List Int) := if 1 ≤ l.length ∧ l.length ≤ 3 ∧ b.length = l.length then extAll tsrOK [-1, -1, -1, -1, -1] (l.zip b) else none
def gExtentsOf (l : List Tsr) (b : List (List Int)) : Option (List Int × Bool) := gd (szOK l b) (extRes (extF l b))
theorem gExtentsOf_eq {l : List Tsr} {b : List (List Int)} (h : szOK l b) : gExtentsOf l b = some (extRes (extF l b)) := gd_eq h
theorem fives {q : List Int} (h : q.length = 5) (h' : ∀ i, i < 5 → q.getD i 0 = -1) : q = [-1, -1, -1, -1, -1] := by
  match q, h with
  | [a, b, c, d, e], _ =>
    have h0 := h' 0 (by omega); have h1 := h' 1 (by omega); have h2 := h' 2 (by omega); have h3 := h' 3 (by omega); have h4 := h' 4 (by omega)
    simp at h0 h1 h2 h3 h4
    simp [h0, h1, h2, h3, h4]

end Go.Proofs.Ytgepbcakcjdmoaa
