/- Contracts of functions that the laws of this seat call. -/
import Derived.Test.YtkmnepmnjpdpkaaGreatDoorXe
set_option linter.all false
namespace Go.Proofs.YtkmnepmnjpdpkaaGreatDoor
open Go Go.Ev Go.RowKit Go.Ev.Enc Go.Pl

def btP (o : Option (Bf × ByteArray)) : Bf × ByteArray := match o with
  | some p => p
  | none => (⟨[], []⟩, ⟨#[]⟩)
def appO (B : Bf) (a : Ac) : Option (Bf × ByteArray) := if bufOK B = true ∧ actB a = true then some (appF B a) else none
def gAppX (B : Bf) (a : Ac) : Option (Bf × ByteArray) := gd (bfB B ∧ a.n.length < 4294967296) (btP (appO B a))
theorem gAppX_eq {B : Bf} {a : Ac} (h : bfB B ∧ a.n.length < 4294967296) : gAppX B a = some (btP (appO B a)) := gd_eq h
set_option maxHeartbeats 4000000 in
set_option maxRecDepth 100000 in
theorem spec_ApplyActI {Sg : FuncId → Option (List AV → Option AV)} (hS : Sound Tryz.prog Sg) (hb : Sg 61 = some (F1 gBuf)) (ha : Sg 62 = some (F1 gActB)) (hd : Sg 53 = some (F2 gAppI)) : ∀ a r, F2 gAppX a = some r → CSpec Tryz.prog 20 a r := by
  refine F2_spec ?_
  intro B a r hr0
  obtain ⟨⟨h1, h2⟩, rfl⟩ := gd_some hr0
  refine CSpec.intro Tryz.func20 rfl (own _) (vc3_sound Tryz.pf hS hS _ _ _ ?_)
  have q1 := gBuf_eq h1
  have q2 := gActB_eq h2
  unfold appO
  obtain ⟨k, n⟩ := a
  cases e1 : bufOK B with
  | false =>
    rw [e1] at q1
    rw [if_neg (by simp)]
    repeat' (first | with_reducible first | refine kI (by kernel_rfl) ?_ | refine kN (by kernel_rfl) ?_ | simp -implicitDefEqProofs (disch := omega) only [go_sem, Nat.reduceAdd, Nat.reduceSub, reduceCtorEq, Nat.reduceLT, Nat.reduceLeDiff, Nat.reduceEqDiff, ↓reduceIte, List.take_of_length_le, if_pos, if_neg, getD_exs, cnE, cnV, Tryz.ntmps20, Tryz.results20,  hb, q1, btP])
    try rfl
  | true =>
    rw [e1] at q1
    cases e2 : actB ⟨k, n⟩ with
    | false =>
      rw [e2] at q2
      rw [if_neg (by simp)]
      repeat' (first | with_reducible first | refine kI (by kernel_rfl) ?_ | refine kN (by kernel_rfl) ?_ | simp -implicitDefEqProofs (disch := omega) only [go_sem, Nat.reduceAdd, Nat.reduceSub, reduceCtorEq, Nat.reduceLT, Nat.reduceLeDiff, Nat.reduceEqDiff, ↓reduceIte, List.take_of_length_le, if_pos, if_neg, getD_exs, cnE, cnV, Tryz.ntmps20, Tryz.results20,  hb, q1, ha, q2, btP])
      try rfl
    | true =>
      rw [e2] at q2
      rw [if_pos ⟨rfl, rfl⟩]
      have q3 := gAppI_eq e1 (actB_iff.1 e2)
      repeat' (first | with_reducible first | refine kI (by kernel_rfl) ?_ | refine kN (by kernel_rfl) ?_ | simp -implicitDefEqProofs (disch := omega) only [go_sem, Nat.reduceAdd, Nat.reduceSub, reduceCtorEq, Nat.reduceLT, Nat.reduceLeDiff, Nat.reduceEqDiff, ↓reduceIte, List.take_of_length_le, if_pos, if_neg, getD_exs, cnE, cnV, Tryz.ntmps20, Tryz.results20,  hb, q1, ha, q2, hd, q3, btP])
      try rfl
end Go.Proofs.YtkmnepmnjpdpkaaGreatDoor
