/- Contracts of functions that the laws of this seat call. -/
import Derived.Test.YtkmnepmnjpdpkaaGreatDoorXx
set_option linter.all false
namespace Go.Proofs.YtkmnepmnjpdpkaaGreatDoor
open Go Go.Ev Go.RowKit Go.Ev.Enc Go.Pl

theorem run_size : ∀ (l : List Ac) {B : Bf}, bufOK B = true → (ansB B l).length ≤ 1500 * l.length
  | [], B, _ => by simp [ansB]
  | a :: l, B, h => by
    have h1 := app_size (a := a) h
    have h2 := run_size l (app_ok (a := a) h)
    have h3 := sz_data (appF B a).2
    rw [ansB, List.length_append, List.length_cons, List.length_cons]
    omega
def gAft (s : ByteArray) : Option Bf := gd (s.size < 4294967281) (aftB bf0 (actsF 60 s.data.toList))
theorem gAft_eq {s : ByteArray} (h : s.size < 4294967281) : gAft s = some (aftB bf0 (actsF 60 s.data.toList)) := gd_eq h
set_option maxHeartbeats 4000000 in
set_option maxRecDepth 100000 in
theorem spec_BufferAfterI {Sg : FuncId → Option (List AV → Option AV)} (hS : Sound Tryz.prog Sg) (hn : Sg 18 = some (F1 gNewB)) (ha : Sg 52 = some (F1 gActs)) (hp : Sg 53 = some (F2 gAppI)) : ∀ a r, F1 gAft a = some r → CSpec Tryz.prog 15 a r := by
  refine F1_spec ?_
  intro s r hr
  obtain ⟨h, rfl⟩ := gd_some hr
  have q0 : gNewB 0 = some ⟨[], []⟩ := rfl
  have q1 := gActs_eq h
  have hlen := actsF_len 60 s.data.toList
  have hval := actsF_val 60 s.data.toList
  generalize actsF 60 s.data.toList = l at *
  refine CSpec.intro Tryz.func15 rfl (own _) (vc3_sound Tryz.pf hS hS _ _ _ ?_)
  repeat' (first | with_reducible first | refine kI (by kernel_rfl) ?_ | refine kN (by kernel_rfl) ?_ | simp -implicitDefEqProofs (disch := omega) only [go_sem, Nat.reduceAdd, Nat.reduceSub, reduceCtorEq, Nat.reduceLT, Nat.reduceLeDiff, Nat.reduceEqDiff, ↓reduceIte, List.take_of_length_le, if_pos, if_neg, getD_exs, evApp_st0, cnE, cnV, Tryz.ntmps15, Tryz.results15,  hn, q0, ha, q1])
  refine LoopQ.mixG 2 (fun t0 L0 nn ss => ∃ (i : Nat) (B : Bf) (_ : Unit), (∃ x : Nat → AV, ss = ⟨mixL 0 (.k :: .k :: .k :: .k :: .k :: .s :: .k :: .k :: .k :: .k :: .v (i64 (i : Nat)) :: .s :: .s :: .s :: .s :: .s :: .s :: .s :: .s :: .s :: .s :: .k :: []) t0 x, [⟨2, [.agg [.nilS, .nilS]]⟩, ⟨2, [bfA 1 B]⟩]⟩) ∧ (i ≤ l.length) ∧ (B = aftB bf0 (l.take i)) ∧ (bufOK B = true) ∧ nn = l.length - i) (by simp) ?_ ?_
  · exact ⟨_, ⟨0, bf0, (), mixI rfl, Nat.zero_le _, rfl, ok_bf0, rfl⟩⟩
  · rintro I0 hI0 nn ss ⟨i, B, _, ⟨y, rfl⟩, g1, g2, g3, rfl⟩
    by_cases hi : i < l.length
    · have hii : (i : Int) < (l.length : Int) := by omega
      have hga := getD_acs (t := 1) hi
      have hav := hval _ (mem_ac hi)
      have htk := take_ac hi
      have q2 := gAppI_eq g3 hav
      have hok := app_ok (a := l.getD i ac0) g3
      have e2 := aftB_snoc bf0 (l.take i) (l.getD i ac0)
      rw [← htk, ← g2] at e2
      generalize l.getD i ac0 = a at *
      obtain ⟨k, w⟩ := a
      generalize appF B ⟨k, w⟩ = p at *
      obtain ⟨B', t⟩ := p
      dsimp only at hok e2 hga
      repeat' (first | with_reducible first | refine kI (by kernel_rfl) ?_ | refine kN (by kernel_rfl) ?_ | simp -implicitDefEqProofs (disch := omega) only [go_sem, Nat.reduceAdd, Nat.reduceSub, reduceCtorEq, Nat.reduceLT, Nat.reduceLeDiff, Nat.reduceEqDiff, ↓reduceIte, List.take_of_length_le, if_pos, if_neg, getD_exs, evApp_st0, cnE, cnV, Tryz.ntmps15, Tryz.results15,  hii, hga, hp, q2])
      exact ⟨l.length - (i + 1), by omega, hI0 _ _ ⟨i + 1, B', (), mixI rfl, hi, e2.symm, hok, rfl⟩⟩
    · obtain rfl : i = l.length := by omega
      rw [List.take_length] at g2
      rw [← g2]
      repeat' (first | with_reducible first | refine kI (by kernel_rfl) ?_ | refine kN (by kernel_rfl) ?_ | simp -implicitDefEqProofs (disch := omega) only [go_sem, Nat.reduceAdd, Nat.reduceSub, reduceCtorEq, Nat.reduceLT, Nat.reduceLeDiff, Nat.reduceEqDiff, ↓reduceIte, List.take_of_length_le, if_pos, if_neg, getD_exs, evApp_st0, cnE, cnV, Tryz.ntmps15, Tryz.results15])
      try rfl
end Go.Proofs.YtkmnepmnjpdpkaaGreatDoor
