/- Contracts of functions on views and memories that the laws of this seat call. -/
import Derived.Test.YtkmnepmnjpdpkaaGreatDoorXr
import Derived.Test.YtkmnepmnjpdpkaaGreatDoorXxA
set_option linter.all false
namespace Go.Proofs.YtkmnepmnjpdpkaaGreatDoor
open Go Go.Ev Go.RowKit Go.Ev.Enc Go.Pl

end Go.Proofs.YtkmnepmnjpdpkaaGreatDoor
namespace Go.Proofs.YtkmnepmnjpdpkaaGreatDoor
open Go Go.Ev Go.RowKit Go.Ev.Enc Go.Pl

end Go.Proofs.YtkmnepmnjpdpkaaGreatDoor
namespace Go.Proofs.YtkmnepmnjpdpkaaGreatDoor
open Go Go.Ev Go.RowKit Go.Ev.Enc Go.Pl

end Go.Proofs.YtkmnepmnjpdpkaaGreatDoor
namespace Go.Proofs.YtkmnepmnjpdpkaaGreatDoor
open Go Go.Ev Go.RowKit Go.Ev.Enc Go.Pl

theorem dec_ac1 (k z : Int) : (dec (.agg [.int .i64 k, .ds 0 [.int .i64 z]]) : Option Ac) = some ⟨k, [z]⟩ := (ok _ _).2 rfl
attribute [go_sem] dec_ac1
end Go.Proofs.YtkmnepmnjpdpkaaGreatDoor
namespace Go.Proofs.YtkmnepmnjpdpkaaGreatDoor
open Go Go.Ev Go.RowKit Go.Ev.Enc Go.Pl

theorem take_ac {l : List Ac} {i : Nat} (h : i < l.length) : l.take (i + 1) = l.take i ++ [l.getD i ac0] := by
  rw [List.take_succ_eq_append_getElem h]; simp [h]
theorem mem_ac {l : List Ac} {i : Nat} (h : i < l.length) : l.getD i ac0 ∈ l := by simp [h]
theorem ok_bf0 : bufOK bf0 = true := by decide
def gTrueS (s : ByteArray) : Option Bool := gd (s.size ≤ 9223372036854775807) true
end Go.Proofs.YtkmnepmnjpdpkaaGreatDoor
namespace Go.Proofs.YtkmnepmnjpdpkaaGreatDoor
open Go Go.Ev Go.RowKit Go.Ev.Enc Go.Pl

end Go.Proofs.YtkmnepmnjpdpkaaGreatDoor
namespace Go.Proofs.YtkmnepmnjpdpkaaGreatDoor
open Go Go.Ev Go.RowKit Go.Ev.Enc Go.Pl

end Go.Proofs.YtkmnepmnjpdpkaaGreatDoor
