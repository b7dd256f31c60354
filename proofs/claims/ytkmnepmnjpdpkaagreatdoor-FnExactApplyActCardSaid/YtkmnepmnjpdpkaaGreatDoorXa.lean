/- Contracts of functions that the laws of this seat call. -/
import Derived.Test.YtkmnepmnjpdpkaaGreatDoorZC
import Derived.Test.YtkmnepmnjpdpkaaGreatDoorEvC
set_option linter.all false
namespace Go.Proofs.YtkmnepmnjpdpkaaGreatDoor
open Go Go.Ev Go.RowKit Go.Ev.Enc Go.Pl

def actB (a : Ac) : Bool := decide ((0 ≤ a.k ∧ a.k ≤ 7) ∧ a.n.length = nedF a.k) && a.n.all fun x => decide (-100 ≤ x ∧ x ≤ 100)
theorem actB_iff {a : Ac} : actB a = true ↔ actV a := by
  unfold actB actV actN
  simp only [Bool.and_eq_true, decide_eq_true_eq, List.all_eq_true]
end Go.Proofs.YtkmnepmnjpdpkaaGreatDoor
