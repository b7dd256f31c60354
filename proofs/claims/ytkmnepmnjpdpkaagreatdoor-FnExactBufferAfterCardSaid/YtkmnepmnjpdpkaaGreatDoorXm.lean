/- Contracts of functions that the laws of this seat call. -/
import Derived.Test.YtkmnepmnjpdpkaaGreatDoorXl
set_option linter.all false
namespace Go.Proofs.YtkmnepmnjpdpkaaGreatDoor
open Go Go.Ev Go.RowKit Go.Ev.Enc Go.Pl

theorem spl_at {c : UInt8} {S : List UInt8} {a i : Nat} (h1 : a ≤ i) (h2 : i < S.length) (h3 : S.getD i 0 = c) (h4 : ∀ j, a ≤ j → j < i → S.getD j 0 ≠ c) : spl c (S.drop a) = (S.drop a).take (i - a) :: spl c (S.drop (i + 1)) := by
  have e : S.drop a = (S.drop a).take (i - a) ++ c :: S.drop (i + 1) := by
    conv => lhs; rw [← List.take_append_drop (i - a) (S.drop a), List.drop_drop]
    rw [show a + (i - a) = i by omega, List.drop_eq_getElem_cons h2]
    rw [← h3]; simp [h2]
  have hn : c ∉ (S.drop a).take (i - a) := by
    intro hm
    obtain ⟨k, hk, he⟩ := List.mem_iff_getElem.1 hm
    simp only [List.length_take, List.length_drop] at hk
    refine h4 (a + k) (by omega) (by omega) ?_
    rw [← he]
    have : a + k < S.length := by omega
    simp [this]
  conv => lhs; rw [e]
  exact spl_hit c _ _ hn
theorem spl_end {c : UInt8} {S : List UInt8} {a : Nat} (h4 : ∀ j, a ≤ j → j < S.length → S.getD j 0 ≠ c) : spl c (S.drop a) = [S.drop a] := by
  refine spl_miss c _ fun hm => ?_
  obtain ⟨k, hk, he⟩ := List.mem_iff_getElem.1 hm
  simp only [List.length_drop] at hk
  refine h4 (a + k) (by omega) (by omega) ?_
  rw [← he]
  have : a + k < S.length := by omega
  simp [this]
theorem ext_bs (s : ByteArray) (a i : Nat) (h : i ≤ s.size) : s.extract a i = bs ((s.data.toList.drop a).take (i - a)) := by
  apply ByteArray.ext
  rw [ByteArray.data_extract]
  apply Array.toList_inj.1
  rw [Array.toList_extract, List.extract_eq_drop_take]
theorem sz_data (s : ByteArray) : s.data.toList.length = s.size := Array.length_toList
def gSpl (s : ByteArray) (c : UInt8) : Option (List ByteArray) := gd (s.size < 4294967281) ((spl c s.data.toList).map bs)
theorem gSpl_eq {s : ByteArray} (c : UInt8) (h : s.size < 4294967281) : gSpl s c = some ((spl c s.data.toList).map bs) := gd_eq h
theorem dec_u32 : (dec (.int .u8 32) : Option UInt8) = some 32 := (ok _ _).2 rfl
theorem dec_u10 : (dec (.int .u8 10) : Option UInt8) = some 10 := (ok _ _).2 rfl
theorem enc_u8 (t : Nat) (c : UInt8) : (enc t c : AV) = .int .u8 c.toNat := rfl
attribute [go_sem] dec_u32 dec_u10 enc_u8
theorem u8_ne {a b : UInt8} (h : a ≠ b) : ((a.toNat : Int) == (b.toNat : Int)) = false := beq_f (fun e => h (UInt8.toNat_inj.1 (by omega)))
theorem u8_eq (a : UInt8) : ((a.toNat : Int) == (a.toNat : Int)) = true := beq_t rfl
set_option maxHeartbeats 4000000 in
set_option maxRecDepth 100000 in
theorem spec_splitAt {Sg : FuncId → Option (List AV → Option AV)} (hS : Sound Tryz.prog Sg) : ∀ a r, F2 gSpl a = some r → CSpec Tryz.prog 101 a r := by
  refine F2_spec ?_
  intro s c r hr
  obtain ⟨h, rfl⟩ := gd_some hr
  have hz := sz_data s
  refine CSpec.intro Tryz.func101 rfl (own _) (vc3_sound Tryz.pf hS hS _ _ _ ?_)
  repeat' (first | with_reducible first | refine kI (by kernel_rfl) ?_ | refine kN (by kernel_rfl) ?_ | simp -implicitDefEqProofs (disch := omega) only [go_sem, Nat.reduceAdd, Nat.reduceSub, reduceCtorEq, Nat.reduceLT, Nat.reduceLeDiff, Nat.reduceEqDiff, ↓reduceIte, List.take_of_length_le, if_pos, if_neg, getD_exs, evApp_st0, cnE, cnV, Tryz.ntmps101, Tryz.results101])
  refine LoopQ.mix (fun t0 L0 nn ss => ∃ (i a n : Nat) (W : List ByteArray) (_ : Unit), (∃ x : Nat → AV, ss = ⟨mixL 0 (.k :: .k :: .k :: .k :: .k :: .v (.sl 0 n 0 n n) :: .v (i64 (a : Nat)) :: .v (i64 (i : Nat)) :: .k :: .s :: .s :: .s :: .s :: .s :: .s :: .s :: .s :: .s :: .s :: .s :: .s :: .s :: .s :: .s :: .s :: .s :: .s :: .s :: .s :: .k :: .k :: .k :: .k :: .k :: .k :: []) t0 x, [⟨1, stL W⟩]⟩) ∧ (i ≤ s.size) ∧ (a ≤ i) ∧ (n ≤ i) ∧ (W.length = n) ∧ ((spl c s.data.toList).map bs = W ++ (spl c (s.data.toList.drop a)).map bs) ∧ (∀ j, a ≤ j → j < i → s.data.toList.getD j 0 ≠ c) ∧ nn = s.size - i) ?_ ?_
  · exact ⟨_, ⟨0, 0, 0, [], (), mixI rfl, Nat.zero_le _, Nat.le_refl _, Nat.le_refl _, rfl, rfl, fun j h1 h2 => absurd h2 (Nat.not_lt_zero _), rfl⟩⟩
  · rintro I0 hI0 nn ss ⟨i, a, n, W, _, ⟨y, rfl⟩, g1, g2, g3, gW, g4, g5, rfl⟩
    by_cases hi : i < s.size
    · have hii : (i : Int) < (s.size : Int) := by omega
      have haa : (a : Int) ≤ (i : Int) := by omega
      have his : (i : Int) ≤ (s.size : Int) := by omega
      by_cases hc : s.data.toList.getD i 0 = c
      · have hcc := u8_eq c
        rw [← hc] at hcc
        have hsp := spl_at (S := s.data.toList) g2 (by omega) hc g5
        have hex := ext_bs s a i (by omega)
        rw [hsp, List.map_cons] at g4
        rw [hc] at hcc
        have ea := fun (L : List Blk) (x : ByteArray) => evApp_st0 (L := L) (n := n) (by' := 16) (q := W) (x := x) gW (by omega) (by omega)
        repeat' (first | with_reducible first | refine kI (by kernel_rfl) ?_ | refine kN (by kernel_rfl) ?_ | simp -implicitDefEqProofs (disch := omega) only [go_sem, Nat.reduceAdd, Nat.reduceSub, reduceCtorEq, Nat.reduceLT, Nat.reduceLeDiff, Nat.reduceEqDiff, ↓reduceIte, List.take_of_length_le, if_pos, if_neg, getD_exs, evApp_st0, cnE, cnV, Tryz.ntmps101, Tryz.results101,  hii, haa, his, hc, hcc, hex, ea, g2, g1])
        exact ⟨s.size - (i + 1), by omega, hI0 _ _ ⟨i + 1, i + 1, n + 1, W ++ [bs ((s.data.toList.drop a).take (i - a))], (), mixI rfl, hi, Nat.le_refl _, (by omega), (by simp [gW]), (by rw [g4, List.append_assoc]; rfl), fun j h1 h2 => absurd h2 (by omega), rfl⟩⟩
      · have hcc := u8_ne hc
        repeat' (first | with_reducible first | refine kI (by kernel_rfl) ?_ | refine kN (by kernel_rfl) ?_ | simp -implicitDefEqProofs (disch := omega) only [go_sem, Nat.reduceAdd, Nat.reduceSub, reduceCtorEq, Nat.reduceLT, Nat.reduceLeDiff, Nat.reduceEqDiff, ↓reduceIte, List.take_of_length_le, if_pos, if_neg, getD_exs, evApp_st0, cnE, cnV, Tryz.ntmps101, Tryz.results101,  hii, hcc])
        exact ⟨s.size - (i + 1), by omega, hI0 _ _ ⟨i + 1, a, n, W, (), mixI rfl, hi, (by omega), (by omega), gW, g4, fun j h1 h2 => if e : j = i then by rw [e]; exact hc else g5 j h1 (by omega), rfl⟩⟩
    · obtain rfl : i = s.size := by omega
      have hsp := spl_end (S := s.data.toList) (c := c) (a := a) (fun j h1 h2 => g5 j h1 (by omega))
      have hex := ext_bs s a s.size (Nat.le_refl _)
      rw [List.take_of_length_le (by simp [hz])] at hex
      rw [hsp, List.map_cons, List.map_nil] at g4
      have haa : (a : Int) ≤ (s.size : Int) := by omega
      rw [g4]
      have hWl : (W ++ [bs (s.data.toList.drop a)]).length = n + 1 := by simp [gW]
      have htk : (W ++ [bs (s.data.toList.drop a)]).take (n + 1) = W ++ [bs (s.data.toList.drop a)] := List.take_of_length_le (by rw [hWl]; exact Nat.le_refl _)
      generalize bs (s.data.toList.drop a) = Z at *
      have ea := fun (L : List Blk) (x : ByteArray) => evApp_st0 (L := L) (n := n) (by' := 16) (q := W) (x := x) gW (by omega) (by omega)
      repeat' (first | with_reducible first | refine kI (by kernel_rfl) ?_ | refine kN (by kernel_rfl) ?_ | simp -implicitDefEqProofs (disch := omega) only [go_sem, Nat.reduceAdd, Nat.reduceSub, reduceCtorEq, Nat.reduceLT, Nat.reduceLeDiff, Nat.reduceEqDiff, ↓reduceIte, List.take_of_length_le, if_pos, if_neg, getD_exs, evApp_st0, cnE, cnV, Tryz.ntmps101, Tryz.results101,  haa, hex, ea, g2, hWl, htk])
      try rfl
instance : Enc (Int × Bool) := inferInstance
def gRd (s : ByteArray) : Option (Int × Bool) := gd (s.size < 4294967296) (rdF s.data.toList)
theorem gRd_eq {s : ByteArray} (h : s.size < 4294967296) : gRd s = some (rdF s.data.toList) := gd_eq h
theorem rd_step {S : List UInt8} {i n : Nat} {a : Nat} (ha : a ≤ i) (hi : i < S.length) (h : rdL ((S.drop a).take (i - a)) 0 = some n) : rdL ((S.drop a).take (i + 1 - a)) 0 = rdL [S.getD i 0] n := by
  have e : (S.drop a).take (i + 1 - a) = (S.drop a).take (i - a) ++ [S.getD i 0] := by
    rw [show i + 1 - a = (i - a) + 1 by omega, List.take_succ_eq_append_getElem (by simp; omega)]
    congr 2
    have : a + (i - a) = i := by omega
    simp [hi, this]
  rw [e, rdL_snoc, h, Option.bind_some]
theorem rd_more {l m : List UInt8} {n : Nat} (h : rdL l n = none) : rdL (l ++ m) n = none := by
  induction l generalizing n with
  | nil => simp [rdL] at h
  | cons c t ih =>
    simp only [List.cons_append, rdL] at h ⊢
    split at h
    · rename_i hc; rw [if_pos hc]
    · rename_i hc; rw [if_neg hc]; exact ih h
end Go.Proofs.YtkmnepmnjpdpkaaGreatDoor
