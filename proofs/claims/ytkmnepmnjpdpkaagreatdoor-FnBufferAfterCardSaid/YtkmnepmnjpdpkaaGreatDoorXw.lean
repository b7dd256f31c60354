/- Contracts of functions that the laws of this seat call. -/
import Derived.Test.YtkmnepmnjpdpkaaGreatDoorXu
set_option linter.all false
namespace Go.Proofs.YtkmnepmnjpdpkaaGreatDoor
open Go Go.Ev Go.RowKit Go.Ev.Enc Go.Pl

theorem take_ac {l : List Ac} {i : Nat} (h : i < l.length) : l.take (i + 1) = l.take i ++ [l.getD i ac0] := by
  rw [List.take_succ_eq_append_getElem h]; simp [h]
theorem mem_ac {l : List Ac} {i : Nat} (h : i < l.length) : l.getD i ac0 ∈ l := by simp [h]
theorem ok_bf0 : bufOK bf0 = true := by decide
end Go.Proofs.YtkmnepmnjpdpkaaGreatDoor
