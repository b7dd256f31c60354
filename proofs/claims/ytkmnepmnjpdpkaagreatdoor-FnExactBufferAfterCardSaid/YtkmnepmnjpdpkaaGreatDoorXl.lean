/- Contracts of functions that the laws of this seat call. -/
import Derived.Test.YtkmnepmnjpdpkaaGreatDoorXk
set_option linter.all false
namespace Go.Proofs.YtkmnepmnjpdpkaaGreatDoor
open Go Go.Ev Go.RowKit Go.Ev.Enc Go.Pl

abbrev stL (l : List ByteArray) : List AV := l.map fun s => AV.str s
theorem enc_strs (t : Nat) (l : List ByteArray) : (enc t l : AV) = .ds t (stL l) := rfl
theorem dec_strs (l : List ByteArray) : (dec (.ds 0 (stL l)) : Option (List ByteArray)) = some l := (ok _ _).2 rfl
theorem ee_strs (t t' : Nat) (L : List Blk) (l : List ByteArray) : expE (expC t L) (.ds t' (stL l)) = .ds (min t' t) (stL l) := by
  simp [expE, expC, stepC, Function.comp_def]
theorem gcV_strs (n : Nat) (L : List Blk) (t : Nat) (l : List ByteArray) : gcV n L (.ds t (stL l)) = .ds t (stL l) := by
  simp [gcV, expE, gcC, gcStep, Function.comp_def]
theorem gcC_strs (n : Nat) (L : List Blk) (t : Nat) (l : List ByteArray) : gcC n L (.ds t (stL l)) = .ds t (stL l) := gcV_strs n L t l
theorem expS_strs (t : Nat) (L : List Blk) (e ver off len : Nat) (q : List ByteArray) : expS t L ver off len (some ⟨e, stL q⟩) = if q.length = ver ∧ off + len ≤ ver then .ds t (stL ((q.drop off).take len)) else .any := by
  simp [expS, expE, stepC, Function.comp_def]
theorem len_strs (l : List ByteArray) : (stL l).length = l.length := List.length_map _
theorem all_strs_ok (l : List ByteArray) : ((stL l).all fun y => cellsOk y && decide (y.cells.length = 1)) = true := by
  rw [List.all_eq_true]
  intro x hx
  obtain ⟨n, -, rfl⟩ := List.mem_map.1 hx
  rfl
theorem all_strs_1 (l : List ByteArray) : ((stL l).all fun y => decide (1 = y.cells.length)) = true := by
  rw [List.all_eq_true]
  intro x hx
  obtain ⟨n, -, rfl⟩ := List.mem_map.1 hx
  rfl
theorem all_strs_s (l : List ByteArray) : ((stL l).all fun y => decide (some 1 = some y.cells.length)) = true := by
  rw [List.all_eq_true]
  intro x hx
  obtain ⟨n, -, rfl⟩ := List.mem_map.1 hx
  rfl
attribute [go_sem] enc_strs dec_strs ee_strs gcV_strs gcC_strs expS_strs len_strs all_strs_ok all_strs_1 all_strs_s
theorem app_strs (l : List ByteArray) (x : ByteArray) : stL l ++ [.str x] = stL (l ++ [x]) := by simp
theorem evApp_st0 {L : List Blk} {n by' : Nat} {q : List ByteArray} {x : ByteArray} (hn : q.length = n) (h1 : (n + 1) * by' ≤ 140737488355328) (h2 : n + 1 ≤ 9223372036854775807) :
    evApp (⟨1, stL q⟩ :: L) (.sl 0 n 0 n n) [.str x] 1 by' = some (.sl 0 (n + 1) 0 (n + 1) (n + 1), ⟨1, stL (q ++ [x])⟩ :: L) := by
  rw [evApp_gen (b := 0) (q := stL q) (new := [.str x]) rfl (by simpa using hn) h1 h2, app_strs]; rfl
theorem getD_strs {l : List ByteArray} {k : Nat} (h : k < l.length) : (stL l).getD k .any = .str (l.getD k ⟨#[]⟩) := by simp [h]
def nmB : List ByteArray := nmL.map bs
theorem nmB_len : nmB.length = 8 := rfl
theorem nmB_get {k : Nat} (h : k < 8) : nmB.getD k ⟨#[]⟩ = bs (nmL.getD k []) := by
  match k, h with
  | 0, _ => rfl
  | 1, _ => rfl
  | 2, _ => rfl
  | 3, _ => rfl
  | 4, _ => rfl
  | 5, _ => rfl
  | 6, _ => rfl
  | 7, _ => rfl
theorem nmA_len : nmA.length = 8 := rfl
theorem bs_inj {a b : List UInt8} (h : bs a = bs b) : a = b := by
  have := congrArg (fun s : ByteArray => s.data.toList) h
  simpa using this

def gWords : Option (List ByteArray) := some nmB
set_option maxHeartbeats 4000000 in
set_option maxRecDepth 100000 in
theorem spec_actWords {Sg : FuncId → Option (List AV → Option AV)} (hS : Sound Tryz.prog Sg) : ∀ a r, F0 gWords a = some r → CSpec Tryz.prog 71 a r := by
  intro args r hr
  match args, hr with
  | [], hr =>
    obtain rfl : enc 1 nmB = r := Option.some.inj hr
    refine CSpec.intro Tryz.func71 rfl (own _) (vc3_sound Tryz.pf hS hS _ _ _ ?_)
    repeat' (first | with_reducible first | refine kI (by kernel_rfl) ?_ | refine kN (by kernel_rfl) ?_ | simp -implicitDefEqProofs (disch := omega) only [go_sem, Nat.reduceAdd, Nat.reduceSub, reduceCtorEq, Nat.reduceLT, Nat.reduceLeDiff, Nat.reduceEqDiff, ↓reduceIte, List.take_of_length_le, if_pos, if_neg, getD_exs, cnE, cnV, Tryz.ntmps71, Tryz.results71])
    try rfl
  | _ :: _, hr => cases hr
theorem ned_4 (k : Int) : nedF k ≤ 4 := by
  unfold nedF
  repeat' split
  all_goals omega
def gIdx (l : List ByteArray) (w : ByteArray) : Option Int := gd (l = nmB) (nmI w.data.toList)
theorem gIdx_eq (w : ByteArray) : gIdx nmB w = some (nmI w.data.toList) := gd_eq rfl
set_option maxHeartbeats 4000000 in
set_option maxRecDepth 100000 in
theorem spec_Index {Sg : FuncId → Option (List AV → Option AV)} (hS : Sound Tryz.prog Sg) : ∀ a r, F2 gIdx a = some r → CSpec Tryz.prog 120 a r := by
  refine F2_spec ?_
  intro l w r hr
  obtain ⟨rfl, rfl⟩ := gd_some hr
  refine CSpec.intro Tryz.func120 rfl (own _) (vc3_sound Tryz.pf hS hS _ _ _ ?_)
  repeat' (first | with_reducible first | refine kI (by kernel_rfl) ?_ | refine kN (by kernel_rfl) ?_ | simp -implicitDefEqProofs (disch := omega) only [go_sem, Nat.reduceAdd, Nat.reduceSub, reduceCtorEq, Nat.reduceLT, Nat.reduceLeDiff, Nat.reduceEqDiff, ↓reduceIte, List.take_of_length_le, if_pos, if_neg, getD_exs, cnE, cnV, Tryz.ntmps120, Tryz.results120,  nmB_len])
  refine LoopQ.mix (fun t0 L0 nn ss => ∃ (j : Nat) (_ : Unit), (∃ x : Nat → AV, ss = ⟨mixL 0 (.k :: .k :: .k :: .k :: .s :: .s :: .k :: .k :: .v (i64 (j : Nat)) :: .s :: .s :: .s :: .s :: .s :: .s :: .s :: .s :: .s :: .s :: []) t0 x, L0⟩) ∧ (j ≤ 8) ∧ (∀ i, i < j → w ≠ bs (nmL.getD i [])) ∧ nn = 8 - j) ?_ ?_
  · exact ⟨_, ⟨0, (), mixI rfl, Nat.zero_le _, fun i hi => absurd hi (Nat.not_lt_zero _), rfl⟩⟩
  · rintro I0 hI0 nn ss ⟨j, _, ⟨y, rfl⟩, g1, g2, rfl⟩
    by_cases hj : j < 8
    · have hji : (j : Int) < 8 := by omega
      have hjl : j < nmB.length := hj
      have hnm := getD_strs hjl
      rw [nmB_get hj] at hnm
      by_cases hw : w = bs (nmL.getD j [])
      · have hc : (w.toList == (bs (nmL.getD j [])).toList) = true := by rw [strEq, decide_eq_true hw]
        have hI : nmI w.data.toList = j := by
          rw [hw, data_bs]
          have := nmI_nm (k := (j : Int)) (by omega)
          rwa [Int.toNat_natCast] at this
        rw [hI]
        generalize bs (nmL.getD j []) = M at *
        repeat' (first | with_reducible first | refine kI (by kernel_rfl) ?_ | refine kN (by kernel_rfl) ?_ | simp -implicitDefEqProofs (disch := omega) only [go_sem, Nat.reduceAdd, Nat.reduceSub, reduceCtorEq, Nat.reduceLT, Nat.reduceLeDiff, Nat.reduceEqDiff, ↓reduceIte, List.take_of_length_le, if_pos, if_neg, getD_exs, cnE, cnV, Tryz.ntmps120, Tryz.results120,  hji, nmB_len, hnm, hc])
        try rfl
      · have hc : (w.toList == (bs (nmL.getD j [])).toList) = false := by rw [strEq, decide_eq_false hw]
        have g3 : ∀ i, i < j + 1 → w ≠ bs (nmL.getD i []) := fun i hi => if h : i = j then by rw [h]; exact hw else g2 i (by omega)
        generalize bs (nmL.getD j []) = M at *
        repeat' (first | with_reducible first | refine kI (by kernel_rfl) ?_ | refine kN (by kernel_rfl) ?_ | simp -implicitDefEqProofs (disch := omega) only [go_sem, Nat.reduceAdd, Nat.reduceSub, reduceCtorEq, Nat.reduceLT, Nat.reduceLeDiff, Nat.reduceEqDiff, ↓reduceIte, List.take_of_length_le, if_pos, if_neg, getD_exs, cnE, cnV, Tryz.ntmps120, Tryz.results120,  hji, nmB_len, hnm, hc])
        exact ⟨8 - (j + 1), by omega, hI0 _ _ ⟨j + 1, (), mixI rfl, hj, g3, rfl⟩⟩
    · obtain rfl : j = 8 := by omega
      have hI : nmI w.data.toList = -1 := by
        by_cases h : 0 ≤ nmI w.data.toList
        · have h7 := nmI_lt w.data.toList
          have := nmI_get h
          exact absurd (by rw [← this, bs_data]) (g2 (nmI w.data.toList).toNat (by omega))
        · have h7 := nmI_lt w.data.toList
          omega
      rw [hI]
      repeat' (first | with_reducible first | refine kI (by kernel_rfl) ?_ | refine kN (by kernel_rfl) ?_ | simp -implicitDefEqProofs (disch := omega) only [go_sem, Nat.reduceAdd, Nat.reduceSub, reduceCtorEq, Nat.reduceLT, Nat.reduceLeDiff, Nat.reduceEqDiff, ↓reduceIte, List.take_of_length_le, if_pos, if_neg, getD_exs, cnE, cnV, Tryz.ntmps120, Tryz.results120,  nmB_len])
      try rfl
end Go.Proofs.YtkmnepmnjpdpkaaGreatDoor
