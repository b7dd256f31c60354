/- Contracts of functions that the laws of this seat call. -/
import Derived.Test.YtkmnepmnjpdpkaaGreatDoorXd
set_option linter.all false
namespace Go.Proofs.YtkmnepmnjpdpkaaGreatDoor
open Go Go.Ev Go.RowKit Go.Ev.Enc Go.Pl

theorem appF_no {B : Bf} {a : Ac} (e : doneO B a = none) : appF B a = (B, cNo) := by unfold appF; rw [e]
theorem appF_at {B B' : Bf} {a : Ac} (e : doneO B a = some B') (h : a.k = 1 ∨ a.k = 2 ∨ a.k = 3) : appF B a = (B', cAt ++ numB ((B'.e.length : Int) - 1)) := by
  unfold appF; rw [e]; dsimp only; rw [if_neg (by omega), if_pos h]
theorem appF_do {B B' : Bf} {a : Ac} (e : doneO B a = some B') (h6 : a.k ≠ 6) (h : ¬ (a.k = 1 ∨ a.k = 2 ∨ a.k = 3)) : appF B a = (B', cOk) := by
  unfold appF; rw [e]; dsimp only; rw [if_neg h6, if_neg h]
theorem appF_has {B B' : Bf} {a : Ac} (e : doneO B a = some B') (h6 : a.k = 6) : appF B a = (B, cHas ++ numsB (tkn B.c (offF (vwB B (a.n.getD 0 0))))) := by
  unfold appF; rw [e]; dsimp only; rw [if_pos h6]
instance (a : Ac) : Decidable (actV a) := by unfold actV actN; infer_instance
theorem dec_vi1 (b x y : Int) : (dec (.agg [.int .i64 b, .ds 0 [.int .i64 x], .ds 0 [.int .i64 y]]) : Option Vi) = some ⟨b, [x], [y]⟩ := (ok _ _).2 rfl
attribute [go_sem] dec_vi1
end Go.Proofs.YtkmnepmnjpdpkaaGreatDoor
