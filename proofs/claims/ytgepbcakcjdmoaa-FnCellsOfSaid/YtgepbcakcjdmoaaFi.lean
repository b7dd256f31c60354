/- Contracts of functions that the laws of this seat call. -/
import Derived.Test.YtgepbcakcjdmoaaFh
set_option linter.all false
namespace Go.Proofs.Ytgepbcakcjdmoaa
open Go Go.Ev Go.RowKit Go.Ev.Enc

/-- tensors and labels that the program takes -/
def tsrsOK (l : List Tsr) (b : List (List Int)) : Bool := l.all tsrOK && decide (1 ≤ l.length ∧ l.length ≤ 3) && decide (b.length = l.length)
def gValidTensors (l : List Tsr) (b : List (List Int)) : Option Bool := gd ((l.length < 4294967296 ∧ b.length < 4294967296) ∧ tsrsB l) (tsrsOK l b)
theorem gValidTensors_eq {l : List Tsr} {b : List (List Int)} (h : (l.length < 4294967296 ∧ b.length < 4294967296) ∧ tsrsB l) : gValidTensors l b = some (tsrsOK l b) := gd_eq h
/-- the extents, without a look at the tensors -/
def extS (l : List Tsr) (b : List (List Int)) : Option (List Int) := extAll (fun _ => true) [-1, -1, -1, -1, -1] (l.zip b)
def gExtentsS (l : List Tsr) (b : List (List Int)) : Option (List Int × Bool) := gd (szOK l b ∧ b.length = l.length) (extRes (extS l b))
theorem gExtentsS_eq {l : List Tsr} {b : List (List Int)} (h : szOK l b ∧ b.length = l.length) : gExtentsS l b = some (extRes (extS l b)) := gd_eq h
theorem labOK_in (l : List Int) : (l.all fun n => inR n 0 4) = labOK l := by
  unfold labOK
  rw [List.not_any_eq_all_not]
  congr 1
  funext n
  unfold inR notLab
  rw [Bool.eq_iff_iff]
  simp only [Bool.and_eq_true, decide_eq_true_eq, Bool.not_eq_true', Bool.or_eq_false_iff, decide_eq_false_iff_not]
  omega
end Go.Proofs.Ytgepbcakcjdmoaa
