/- Contracts of functions that the laws of this seat call. -/
import Derived.Test.YtkmnepmnjpdpkaaGreatDoorXe
set_option linter.all false
namespace Go.Proofs.YtkmnepmnjpdpkaaGreatDoor
open Go Go.Ev Go.RowKit Go.Ev.Enc Go.Pl

theorem bf_call {L : List Blk} {v : AV} {B : Bf} (h : v = bfA 0 B ∨ BR 0 L v B) : [exp 0 L v] = [bfA 0 B] := by
  rcases h with rfl | ⟨i, be, rfl, h1, h2, -⟩
  · simp [exp, expE, expC, stepC, ints, Function.comp_def]
  · have e2 := exAt_exp h2 []
    rw [List.append_nil] at e2
    have e1 : expC 0 L (.sl i B.c.length 0 B.c.length B.c.length) = ints 0 B.c := by
      rw [ec_sl, ee_sl, h1]
      simp [expS, expE, stepC, Function.comp_def, List.take_of_length_le]
    show [AV.agg [expC 0 L _, expC 0 L be]] = _
    rw [e1, e2]
end Go.Proofs.YtkmnepmnjpdpkaaGreatDoor
