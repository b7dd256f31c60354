/- Contracts of functions that the laws of this seat call. -/
import Derived.Test.YtkmnepmnjpdpkaaGreatDoorXc
set_option linter.all false
namespace Go.Proofs.YtkmnepmnjpdpkaaGreatDoor
open Go Go.Ev Go.RowKit Go.Ev.Enc Go.Pl

theorem exp_bfR (B : Bf) : exp 1 (bfN B 0) (bfR B 0) = enc 1 B := by
  have := exp_bb (some B)
  simp only [bbN, bbR, bbP, exp, List.map_cons, enc_pairB, AV.tup.injEq, List.cons.injEq] at this
  exact this.1
theorem ov_rsz (c : List Int) (m : Nat) : overwrite ((List.replicate m (0 : Int)).map fun n => AV.int .i64 n) 0 ((c.take m).map fun n => .int .i64 n) = (rszC c m).map fun n => .int .i64 n := by
  unfold overwrite rszC rszK
  simp only [List.take_zero, List.nil_append, Nat.zero_add, List.length_map, List.length_take, ← List.map_drop, ← List.map_append, List.drop_replicate]
  congr 2
  rcases Nat.le_total m c.length with hm | hm
  · rw [Nat.min_eq_left hm]
  · rw [Nat.min_eq_right hm, List.take_of_length_le hm, List.take_of_length_le (Nat.le_refl _)]
end Go.Proofs.YtkmnepmnjpdpkaaGreatDoor
