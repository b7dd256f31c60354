/- Contracts of functions that the laws of this seat call. -/
import Derived.Test.YtkmnepmnjpdpkaaGreatDoorXq
set_option linter.all false
namespace Go.Proofs.YtkmnepmnjpdpkaaGreatDoor
open Go Go.Ev Go.RowKit Go.Ev.Enc Go.Pl

theorem actsL_end {n : Nat} {l : List (List UInt8)} (h : l.length ≤ 1) : actsL n l = [] := by
  match n, l, h with
  | 0, l, _ => cases l <;> rfl
  | _ + 1, [], _ => rfl
  | _ + 1, [_], _ => rfl
  | _ + 1, _ :: _ :: _, h => simp at h
theorem actsL_z (l : List (List UInt8)) : actsL 0 l = [] := by cases l <;> rfl
theorem actsL_go {k n : Nat} {l : List (List UInt8)} (h : n + 1 < l.length) : actsL (k + 1) (l.drop n) = match parL (l.getD n []) with
    | some a => a :: actsL k (l.drop (n + 1))
    | none => [] := by
  have e1 : l.drop n = l.getD n [] :: l.drop (n + 1) := by
    rw [List.drop_eq_getElem_cons (by omega : n < l.length)]
    simp [show n < l.length by omega]
  have e2 : l.drop (n + 1) = l.getD (n + 1) [] :: l.drop (n + 1 + 1) := by
    rw [List.drop_eq_getElem_cons h]
    simp [h]
  rw [e1, e2]
  rfl
theorem spl_sz (c : UInt8) (S : List UInt8) : ∀ x ∈ spl c S, x.length ≤ S.length := by
  obtain ⟨w, r, h⟩ := List.exists_cons_of_ne_nil (spl_ne c S)
  have hj := spl_join c _ _ (Nat.le_refl _) _ _ h
  rw [h]
  intro x hx
  rw [hj]
  rcases List.mem_cons.1 hx with rfl | hx
  · simp
  · obtain ⟨a, b, rfl⟩ := List.append_of_mem hx
    simp
    omega
set_option maxHeartbeats 4000000 in
set_option maxRecDepth 100000 in
theorem spec_actsS {Sg : FuncId → Option (List AV → Option AV)} (hS : Sound Tryz.prog Sg) (hs : Sg 101 = some (F2 gSpl)) (hp : Sg 78 = some (F1 gPar)) : ∀ a r, F1 gActs a = some r → CSpec Tryz.prog 57 a r := by
  refine F1_spec ?_
  intro s r hr
  obtain ⟨h, rfl⟩ := gd_some hr
  have hz := sz_data s
  obtain ⟨R, hR⟩ : ∃ R, actsF 60 s.data.toList = R := ⟨_, rfl⟩
  rw [hR]
  have q1 := gSpl_eq 10 h
  have hsz := spl_sz 10 s.data.toList
  have hle := spl_len 10 _ s.data.toList (Nat.le_refl _)
  rw [← actsL_eq] at hR
  generalize spl 10 s.data.toList = l at *
  have hll : (l.map bs).length = l.length := List.length_map _
  have hget := fun i (hi : i < l.length) => getD_wds (l := l) (k := i) hi
  generalize l.map bs = Ls at *
  refine CSpec.intro Tryz.func57 rfl (own _) (vc3_sound Tryz.pf hS hS _ _ _ ?_)
  repeat' (first | with_reducible first | refine kI (by kernel_rfl) ?_ | refine kN (by kernel_rfl) ?_ | simp -implicitDefEqProofs (disch := omega) only [go_sem, Nat.reduceAdd, Nat.reduceSub, reduceCtorEq, Nat.reduceLT, Nat.reduceLeDiff, Nat.reduceEqDiff, ↓reduceIte, List.take_of_length_le, if_pos, if_neg, getD_exs, evApp_st0, cnE, cnV, Tryz.ntmps57, Tryz.results57,  hs, q1])
  refine LoopQ.mixG 1 (fun t0 L0 nn ss => ∃ (n : Nat) (W : List Ac) (_ : Unit), (∃ x : Nat → AV, ss = ⟨mixL 0 (.k :: .k :: .s :: .v (.sl 0 n 0 n n) :: .k :: .v (i64 (n : Nat)) :: .s :: .s :: .k :: .k :: .k :: .s :: .s :: .s :: .s :: .s :: .s :: .s :: .s :: .s :: .s :: .s :: .s :: .s :: .s :: .s :: .s :: .s :: .s :: .s :: .s :: .s :: .s :: .s :: .s :: .s :: .s :: .s :: .k :: []) t0 x, [⟨2, acL 1 W⟩]⟩) ∧ (n ≤ 60) ∧ (W.length = n) ∧ (R = W ++ actsL (60 - n) (l.drop n)) ∧ nn = 60 - n) (by simp) ?_ ?_
  · exact ⟨_, ⟨0, [], (), mixI rfl, Nat.zero_le _, rfl, hR.symm, rfl⟩⟩
  · rintro I0 hI0 nn ss ⟨n, W, _, ⟨y, rfl⟩, g1, g2, g4, rfl⟩
    have hwr : IntKind.i64.wrap ((n : Int) + 1) = (n : Int) + 1 := wrap_in (by omega)
    by_cases hn : n < 60
    · have hni : (n : Int) < 60 := by omega
      obtain ⟨m, hm⟩ : ∃ m, 60 - n = m + 1 := ⟨60 - n - 1, by omega⟩
      have hms : m = 60 - (n + 1) := by omega
      by_cases hlt : n + 1 < l.length
      · have hlti : (n : Int) + 1 < (l.length : Int) := by omega
        have hnl : n < Ls.length := by omega
        rw [hm, actsL_go hlt] at g4
        have hwd := hget n (by omega)
        have hx := hsz (l.getD n []) (by simp [show n < l.length by omega])
        have q2 := gPar_eq (s := bs (l.getD n [])) (by rw [bs_size]; omega)
        rw [data_bs] at q2
        generalize l.getD n [] = u at *
        rcases par_cases u with ⟨a, e1, e2⟩ | ⟨e1, e2⟩
        · rw [e1] at g4
          rw [e2] at q2
          have hpn := par_num e1
          obtain ⟨k, z⟩ := a
          dsimp only at g4 hpn
          have ea := fun (L : List Blk) => evApp_ac0 (L := L) (n := n) (by' := 32) (q := W) (x := ⟨k, z⟩) g2 (by omega) (by omega)
          have hW : (W ++ [(⟨k, z⟩ : Ac)]).length = n + 1 := by simp [g2]
          have g4' : R = (W ++ [(⟨k, z⟩ : Ac)]) ++ actsL (60 - (n + 1)) (l.drop (n + 1)) := by rw [g4, ← hms]; simp
          generalize bs u = Z at *
          dsimp only at ea
          repeat' (first | with_reducible first | refine kI (by kernel_rfl) ?_ | refine kN (by kernel_rfl) ?_ | simp -implicitDefEqProofs (disch := omega) only [go_sem, Nat.reduceAdd, Nat.reduceSub, reduceCtorEq, Nat.reduceLT, Nat.reduceLeDiff, Nat.reduceEqDiff, ↓reduceIte, List.take_of_length_le, if_pos, if_neg, getD_exs, evApp_st0, cnE, cnV, Tryz.ntmps57, Tryz.results57,  hwr, hll, hlti, hni, hnl, hwd, hp, q2, ea])
          exact ⟨60 - (n + 1), by omega, hI0 _ _ ⟨n + 1, W ++ [⟨k, z⟩], (), mixI rfl, (by omega), hW, g4', rfl⟩⟩
        · rw [e1] at g4
          rw [e2] at q2
          dsimp only at g4
          rw [List.append_nil] at g4
          rw [g4]
          have htk : W.take n = W := List.take_of_length_le (by omega)
          generalize bs u = Z at *
          repeat' (first | with_reducible first | refine kI (by kernel_rfl) ?_ | refine kN (by kernel_rfl) ?_ | simp -implicitDefEqProofs (disch := omega) only [go_sem, Nat.reduceAdd, Nat.reduceSub, reduceCtorEq, Nat.reduceLT, Nat.reduceLeDiff, Nat.reduceEqDiff, ↓reduceIte, List.take_of_length_le, if_pos, if_neg, getD_exs, evApp_st0, cnE, cnV, Tryz.ntmps57, Tryz.results57,  hwr, hll, hlti, hni, hnl, hwd, hp, q2, g2, htk])
          try rfl
      · have hlti : ¬ (n : Int) + 1 < (l.length : Int) := by omega
        rw [actsL_end (by rw [List.length_drop]; omega), List.append_nil] at g4
        rw [g4]
        have htk : W.take n = W := List.take_of_length_le (by omega)
        repeat' (first | with_reducible first | refine kI (by kernel_rfl) ?_ | refine kN (by kernel_rfl) ?_ | simp -implicitDefEqProofs (disch := omega) only [go_sem, Nat.reduceAdd, Nat.reduceSub, reduceCtorEq, Nat.reduceLT, Nat.reduceLeDiff, Nat.reduceEqDiff, ↓reduceIte, List.take_of_length_le, if_pos, if_neg, getD_exs, evApp_st0, cnE, cnV, Tryz.ntmps57, Tryz.results57,  hwr, hll, hlti, g2, htk])
        try rfl
    · obtain rfl : n = 60 := by omega
      rw [Nat.sub_self, actsL_z, List.append_nil] at g4
      rw [g4]
      have htk : W.take 60 = W := List.take_of_length_le (by omega)
      by_cases hlt : 60 + 1 < l.length
      · have hlti : (61 : Int) < (l.length : Int) := by omega
        repeat' (first | with_reducible first | refine kI (by kernel_rfl) ?_ | refine kN (by kernel_rfl) ?_ | simp -implicitDefEqProofs (disch := omega) only [go_sem, Nat.reduceAdd, Nat.reduceSub, reduceCtorEq, Nat.reduceLT, Nat.reduceLeDiff, Nat.reduceEqDiff, ↓reduceIte, List.take_of_length_le, if_pos, if_neg, getD_exs, evApp_st0, cnE, cnV, Tryz.ntmps57, Tryz.results57,  hwr, hll, hlti, g2, htk])
        try rfl
      · have hlti : ¬ (61 : Int) < (l.length : Int) := by omega
        repeat' (first | with_reducible first | refine kI (by kernel_rfl) ?_ | refine kN (by kernel_rfl) ?_ | simp -implicitDefEqProofs (disch := omega) only [go_sem, Nat.reduceAdd, Nat.reduceSub, reduceCtorEq, Nat.reduceLT, Nat.reduceLeDiff, Nat.reduceEqDiff, ↓reduceIte, List.take_of_length_le, if_pos, if_neg, getD_exs, evApp_st0, cnE, cnV, Tryz.ntmps57, Tryz.results57,  hwr, hll, hlti, g2, htk])
        try rfl
def acsB (l : List Ac) : Prop := l.length < 4294967296 ∧ ∀ i, i < l.length → (l.getD i ac0).n.length < 4294967296
instance (l : List Ac) : Decidable (acsB l) := by unfold acsB; infer_instance
end Go.Proofs.YtkmnepmnjpdpkaaGreatDoor
