/- Contracts of functions that the laws of this seat call. -/
import Derived.Test.YtkmnepmnjpdpkaaGreatDoorXa
import Derived.Test.YtkmnepmnjpdpkaaGreatDoorShelf
import Derived.Test.YtkmnepmnjpdpkaaGreatDoorEvC
import Derived.Lib.AppendIntMem
import Derived.Lib.SmallJoins
set_option linter.all false
namespace Go.Proofs.YtkmnepmnjpdpkaaGreatDoor
open Go Go.Ev Go.RowKit Go.Ev.Enc Go.Pl

theorem strEq (a b : ByteArray) : (a.toList == b.toList) = decide (a = b) := by
  rw [ByteArray.toList_eq, ByteArray.toList_eq]
  rw [Bool.eq_iff_iff, beq_iff_eq, decide_eq_true_eq]
  constructor
  · intro h
    apply ByteArray.ext
    exact Array.toList_inj.1 h
  · rintro rfl; rfl
theorem strEq_t (a : ByteArray) : (a.toList == a.toList) = true := by rw [strEq, decide_eq_true rfl]
set_option maxHeartbeats 4000000 in
set_option maxRecDepth 100000 in
theorem spec_Itoa {Sg : FuncId → Option (List AV → Option AV)} (hS : Sound Tryz.prog Sg) : ∀ a r, F1 gNum a = some r → CSpec Tryz.prog 63 a r := by
  refine F1_spec ?_
  intro n r hr
  obtain ⟨h, rfl⟩ := gd_some hr
  refine CSpec.plain (us := [.int .i64 n]) rfl ?_
  intro I w hI hG
  refine (Tryz.strconv_Itoa n h.1 h.2 w (okTab hG.ok)).mono ?_
  rintro e w' ⟨rfl, k, os, rfl⟩
  exact ⟨_, fun _ => False, rfl, Lib.below_grow _ _ (Nat.le_refl _) _ _, fun _ h => h.elim, .str _⟩
end Go.Proofs.YtkmnepmnjpdpkaaGreatDoor
