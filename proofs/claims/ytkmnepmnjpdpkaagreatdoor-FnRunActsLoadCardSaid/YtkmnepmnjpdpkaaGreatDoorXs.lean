/- Contracts of functions that the laws of this seat call. -/
import Derived.Test.YtkmnepmnjpdpkaaGreatDoorXr
import Derived.Test.YtkmnepmnjpdpkaaGreatDoorXj
set_option linter.all false
namespace Go.Proofs.YtkmnepmnjpdpkaaGreatDoor
open Go Go.Ev Go.RowKit Go.Ev.Enc Go.Pl

theorem can_of : CanCall Tryz.prog 123 := ⟨_, Tryz.func123, rfl, rfl⟩
set_option maxHeartbeats 4000000 in
set_option maxRecDepth 100000 in
theorem isp_of {Sg : FuncId → Option (List AV → Option AV)} (hS : Sound Tryz.prog Sg) (hn : Sg 76 = none) {bs : List UInt8} {b n : Nat} {rL : Int → List Blk} (hC : RC bs b n rL) (hb : bs.length ≤ 2000) (p : Int) (hp : 0 ≤ p ∧ p ≤ 900000000) (tag : Nat) (l : List ByteArray) (hl : 0 < l.length ∧ l.length ≤ 1000) : ISpec Tryz.prog 123 [.ptr b 1 0 0, .ds tag (stL l)] (rL p) (fun r L' => ∃ v, r = .str v ∧ v ∈ l ∧ L' = rL (p + 1)) := by
  refine ISpec.ret Tryz.func123 rfl (vc3_sound Tryz.pf hS hS _ _ _ ?_)
  repeat' (first | with_reducible first | refine kI (by kernel_rfl) ?_ | refine kN (by kernel_rfl) ?_ | simp -implicitDefEqProofs (disch := omega) only [go_sem, Nat.reduceAdd, Nat.reduceSub, reduceCtorEq, Nat.reduceLT, Nat.reduceLeDiff, Nat.reduceEqDiff, ↓reduceIte, List.take_of_length_le, if_pos, if_neg, getD_exs, evApp_st0, cnE, cnV, Tryz.ntmps123, Tryz.results123,  hC.cn, hn, opQ_none])
  refine InlK_intro rfl rfl can_pick ((isp_pick hS hC hb p (by omega) l.length (by omega)).mono ?_)
  rintro r L1 ⟨v, rfl, h1, h2, rfl⟩
  obtain ⟨k, rfl⟩ : ∃ k : Nat, v = k := ⟨v.toNat, by omega⟩
  have hk : k < l.length := by omega
  repeat' (first | with_reducible first | refine kI (by kernel_rfl) ?_ | refine kN (by kernel_rfl) ?_ | simp -implicitDefEqProofs (disch := omega) only [go_sem, Nat.reduceAdd, Nat.reduceSub, reduceCtorEq, Nat.reduceLT, Nat.reduceLeDiff, Nat.reduceEqDiff, ↓reduceIte, List.take_of_length_le, if_pos, if_neg, getD_exs, evApp_st0, cnE, cnV, Tryz.ntmps123, Tryz.results123,  hC.cn, getD_strs hk])
  exact hC.retN ⟨_, rfl, by simp [hk], rfl⟩
theorem can_mutate : CanCall Tryz.prog 77 := ⟨_, Tryz.func77, rfl, rfl⟩
theorem ext_size (s : ByteArray) (a i : Nat) : (s.extract a i).size = min i s.size - a := ByteArray.size_extract
def mutL : List ByteArray := [⟨#[48]⟩, ⟨#[49]⟩, cSp, ⟨#[45]⟩, ⟨#[112]⟩, cNl, ⟨#[57]⟩]
def mutM : List ByteArray := [⟨#[48]⟩, cSp, cNl, ⟨#[120]⟩]
theorem mut_1 {v : ByteArray} (h : v ∈ mutL ∨ v ∈ mutM) : v.size = 1 := by
  unfold mutL mutM at h
  simp only [List.mem_cons, List.not_mem_nil, or_false] at h
  rcases h with (h | h | h | h | h | h | h) | (h | h | h | h) <;> (subst h; rfl)
theorem mutL_eq : ([.str ⟨#[48]⟩, .str ⟨#[49]⟩, .str cSp, .str ⟨#[45]⟩, .str ⟨#[112]⟩, .str cNl, .str ⟨#[57]⟩] : List AV) = stL mutL := rfl
theorem mutM_eq : ([.str ⟨#[48]⟩, .str cSp, .str cNl, .str ⟨#[120]⟩] : List AV) = stL mutM := rfl
set_option maxHeartbeats 4000000 in
set_option maxRecDepth 100000 in
theorem isp_mutate {Sg : FuncId → Option (List AV → Option AV)} (hS : Sound Tryz.prog Sg) (h0 : Sg 76 = none) (h1 : Sg 123 = none) {bs : List UInt8} {b n : Nat} {rL : Int → List Blk} (hC : RC bs b n rL) (hb : bs.length ≤ 2000) (p : Int) (hp : 0 ≤ p ∧ p ≤ 800000000) (s : ByteArray) (hs : s.size ≤ 100000) : ISpec Tryz.prog 77 [.ptr b 1 0 0, .str s] (rL p) (fun r L' => ∃ (v : ByteArray) (p' : Int), r = .str v ∧ v.size ≤ s.size + 1 ∧ p ≤ p' ∧ p' ≤ p + 3 ∧ L' = rL p') := by
  refine ISpec.ret Tryz.func77 rfl (vc3_sound Tryz.pf hS hS _ _ _ ?_)
  repeat' (first | with_reducible first | refine kI (by kernel_rfl) ?_ | refine kN (by kernel_rfl) ?_ | simp -implicitDefEqProofs (disch := omega) only [go_sem, Nat.reduceAdd, Nat.reduceSub, reduceCtorEq, Nat.reduceLT, Nat.reduceLeDiff, Nat.reduceEqDiff, ↓reduceIte, List.take_of_length_le, if_pos, if_neg, getD_exs, evApp_st0, cnE, cnV, Tryz.ntmps77, Tryz.results77,  hC.cn, h0, opQ_none])
  refine InlK_intro rfl rfl can_pick ((isp_pick hS hC hb p (by omega) ((s.size : Int) + 1) (by omega)).mono ?_)
  rintro r L1 ⟨k, rfl, k0, k1, rfl⟩
  obtain ⟨k, rfl⟩ : ∃ m : Nat, k = m := ⟨k.toNat, by omega⟩
  have hks : k ≤ s.size := by omega
  have hki : (k : Int) ≤ (s.size : Int) := by omega
  repeat' (first | with_reducible first | refine kI (by kernel_rfl) ?_ | refine kN (by kernel_rfl) ?_ | simp -implicitDefEqProofs (disch := omega) only [go_sem, Nat.reduceAdd, Nat.reduceSub, reduceCtorEq, Nat.reduceLT, Nat.reduceLeDiff, Nat.reduceEqDiff, ↓reduceIte, List.take_of_length_le, if_pos, if_neg, getD_exs, evApp_st0, cnE, cnV, Tryz.ntmps77, Tryz.results77,  hC.cn, h0, opQ_none])
  refine InlK_intro rfl rfl can_pick ((isp_pick hS hC hb (p + 1) (by omega) 5 (by omega)).mono ?_)
  rintro r L1 ⟨ch, rfl, -, -, rfl⟩
  have hw : IntKind.i64.wrap ((k : Int) + 1) = (k : Int) + 1 := wrap_in (by omega)
  have hx1 := ext_size s 0 k
  have hkt : ((k : Int) + 1).toNat = k + 1 := by omega
  by_cases c01 : ch = 0 ∨ ch = 1
  · by_cases hlt : k < s.size
    · have hlti : (k : Int) < (s.size : Int) := by omega
      have hk1 : (k : Int) + 1 ≤ (s.size : Int) := by omega
      have hx2 := ext_size s (k + 1) s.size
      rcases c01 with c | c
      · have c' : (ch == 0) = true := beq_t c
        repeat' (first | with_reducible first | refine kI (by kernel_rfl) ?_ | simp -implicitDefEqProofs (disch := omega) only [go_sem, Nat.reduceAdd, Nat.reduceSub, reduceCtorEq, Nat.reduceLT, Nat.reduceLeDiff, Nat.reduceEqDiff, ↓reduceIte, List.take_of_length_le, if_pos, if_neg, getD_exs, evApp_st0, cnE, cnV, Tryz.ntmps77, Tryz.results77,  hC.cn, c', hlti])
        refine DrawQ.any [([0, 1, 2, 3, 4, 7, 8, 9, 10], 5)] [6, 11, 12] [0, 1, 2, 7, 8, 9, 10] (by kernel_rfl) ?_
        repeat' (first | with_reducible first | refine kI (by kernel_rfl) ?_ | simp -implicitDefEqProofs (disch := omega) only [go_sem, Nat.reduceAdd, Nat.reduceSub, reduceCtorEq, Nat.reduceLT, Nat.reduceLeDiff, Nat.reduceEqDiff, ↓reduceIte, List.take_of_length_le, if_pos, if_neg, getD_exs, evApp_st0, cnE, cnV, Tryz.ntmps77, Tryz.results77,  hC.cn, hki, hw, hk1, hkt, mutL_eq, h1, opQ_none])
        refine InlK_intro rfl rfl can_of ((isp_of hS h0 hC hb _ (by omega) 2 mutL (by decide)).mono ?_)
        rintro r L1 ⟨v, rfl, hv, rfl⟩
        have hv1 := mut_1 (.inl hv)
        have hvs : (s.extract 0 k).size + v.size ≤ 9223372036854775807 := by omega
        have hvt : (s.extract 0 k).size + v.size + (s.extract (k + 1) s.size).size ≤ 9223372036854775807 := by omega
        repeat' (first | with_reducible first | refine kI (by kernel_rfl) ?_ | simp -implicitDefEqProofs (disch := omega) only [go_sem, Nat.reduceAdd, Nat.reduceSub, reduceCtorEq, Nat.reduceLT, Nat.reduceLeDiff, Nat.reduceEqDiff, ↓reduceIte, List.take_of_length_le, if_pos, if_neg, getD_exs, evApp_st0, cnE, cnV, Tryz.ntmps77, Tryz.results77,  hC.cn, hvs, hvt, hkt])
        exact hC.retN ⟨_, _, rfl, by rw [ByteArray.size_append, ByteArray.size_append]; omega, by omega, by omega, rfl⟩
      · have c0 : (ch == 0) = false := beq_f (by omega)
        have c' : (ch == 1) = true := beq_t c
        repeat' (first | with_reducible first | refine kI (by kernel_rfl) ?_ | simp -implicitDefEqProofs (disch := omega) only [go_sem, Nat.reduceAdd, Nat.reduceSub, reduceCtorEq, Nat.reduceLT, Nat.reduceLeDiff, Nat.reduceEqDiff, ↓reduceIte, List.take_of_length_le, if_pos, if_neg, getD_exs, evApp_st0, cnE, cnV, Tryz.ntmps77, Tryz.results77,  hC.cn, c0, c', hlti])
        refine DrawQ.any [([0, 1, 2, 3, 4, 7, 8, 9, 10], 5)] [6, 11, 12] [0, 1, 2, 7, 8, 9, 10] (by kernel_rfl) ?_
        repeat' (first | with_reducible first | refine kI (by kernel_rfl) ?_ | simp -implicitDefEqProofs (disch := omega) only [go_sem, Nat.reduceAdd, Nat.reduceSub, reduceCtorEq, Nat.reduceLT, Nat.reduceLeDiff, Nat.reduceEqDiff, ↓reduceIte, List.take_of_length_le, if_pos, if_neg, getD_exs, evApp_st0, cnE, cnV, Tryz.ntmps77, Tryz.results77,  hC.cn, hki, hw, hk1, hkt, mutL_eq, h1, opQ_none])
        refine InlK_intro rfl rfl can_of ((isp_of hS h0 hC hb _ (by omega) 2 mutL (by decide)).mono ?_)
        rintro r L1 ⟨v, rfl, hv, rfl⟩
        have hv1 := mut_1 (.inl hv)
        have hvs : (s.extract 0 k).size + v.size ≤ 9223372036854775807 := by omega
        have hvt : (s.extract 0 k).size + v.size + (s.extract (k + 1) s.size).size ≤ 9223372036854775807 := by omega
        repeat' (first | with_reducible first | refine kI (by kernel_rfl) ?_ | simp -implicitDefEqProofs (disch := omega) only [go_sem, Nat.reduceAdd, Nat.reduceSub, reduceCtorEq, Nat.reduceLT, Nat.reduceLeDiff, Nat.reduceEqDiff, ↓reduceIte, List.take_of_length_le, if_pos, if_neg, getD_exs, evApp_st0, cnE, cnV, Tryz.ntmps77, Tryz.results77,  hC.cn, hvs, hvt, hkt])
        exact hC.retN ⟨_, _, rfl, by rw [ByteArray.size_append, ByteArray.size_append]; omega, by omega, by omega, rfl⟩
    · have hlti : ¬ (k : Int) < (s.size : Int) := by omega
      rcases c01 with c | c
      · have c' : (ch == 0) = true := beq_t c
        repeat' (first | with_reducible first | refine kI (by kernel_rfl) ?_ | refine kN (by kernel_rfl) ?_ | simp -implicitDefEqProofs (disch := omega) only [go_sem, Nat.reduceAdd, Nat.reduceSub, reduceCtorEq, Nat.reduceLT, Nat.reduceLeDiff, Nat.reduceEqDiff, ↓reduceIte, List.take_of_length_le, if_pos, if_neg, getD_exs, evApp_st0, cnE, cnV, Tryz.ntmps77, Tryz.results77,  hC.cn, c', hlti])
        exact hC.retN ⟨s, _, rfl, by omega, by omega, by omega, rfl⟩
      · have c0 : (ch == 0) = false := beq_f (by omega)
        have c' : (ch == 1) = true := beq_t c
        repeat' (first | with_reducible first | refine kI (by kernel_rfl) ?_ | refine kN (by kernel_rfl) ?_ | simp -implicitDefEqProofs (disch := omega) only [go_sem, Nat.reduceAdd, Nat.reduceSub, reduceCtorEq, Nat.reduceLT, Nat.reduceLeDiff, Nat.reduceEqDiff, ↓reduceIte, List.take_of_length_le, if_pos, if_neg, getD_exs, evApp_st0, cnE, cnV, Tryz.ntmps77, Tryz.results77,  hC.cn, c0, c', hlti])
        exact hC.retN ⟨s, _, rfl, by omega, by omega, by omega, rfl⟩
  · have c0 : (ch == 0) = false := beq_f (by omega)
    have c1 : (ch == 1) = false := beq_f (by omega)
    by_cases c2 : ch = 2
    · have c2' : (ch == 2) = true := beq_t c2
      repeat' (first | with_reducible first | refine kI (by kernel_rfl) ?_ | refine kN (by kernel_rfl) ?_ | simp -implicitDefEqProofs (disch := omega) only [go_sem, Nat.reduceAdd, Nat.reduceSub, reduceCtorEq, Nat.reduceLT, Nat.reduceLeDiff, Nat.reduceEqDiff, ↓reduceIte, List.take_of_length_le, if_pos, if_neg, getD_exs, evApp_st0, cnE, cnV, Tryz.ntmps77, Tryz.results77,  hC.cn, c0, c1, c2', hki])
      exact hC.retN ⟨_, _, rfl, by rw [hx1]; omega, by omega, by omega, rfl⟩
    · have c2' : (ch == 2) = false := beq_f c2
      by_cases c3 : ch = 3
      · have c3' : (ch == 3) = true := beq_t c3
        repeat' (first | with_reducible first | refine kI (by kernel_rfl) ?_ | refine kN (by kernel_rfl) ?_ | simp -implicitDefEqProofs (disch := omega) only [go_sem, Nat.reduceAdd, Nat.reduceSub, reduceCtorEq, Nat.reduceLT, Nat.reduceLeDiff, Nat.reduceEqDiff, ↓reduceIte, List.take_of_length_le, if_pos, if_neg, getD_exs, evApp_st0, cnE, cnV, Tryz.ntmps77, Tryz.results77,  hC.cn, c0, c1, c2', c3', mutM_eq, h1, opQ_none])
        refine InlK_intro rfl rfl can_of ((isp_of hS h0 hC hb _ (by omega) 2 mutM (by decide)).mono ?_)
        rintro r L1 ⟨v, rfl, hv, rfl⟩
        have hv1 := mut_1 (.inr hv)
        have hvs : s.size + v.size ≤ 9223372036854775807 := by omega
        repeat' (first | with_reducible first | refine kI (by kernel_rfl) ?_ | refine kN (by kernel_rfl) ?_ | simp -implicitDefEqProofs (disch := omega) only [go_sem, Nat.reduceAdd, Nat.reduceSub, reduceCtorEq, Nat.reduceLT, Nat.reduceLeDiff, Nat.reduceEqDiff, ↓reduceIte, List.take_of_length_le, if_pos, if_neg, getD_exs, evApp_st0, cnE, cnV, Tryz.ntmps77, Tryz.results77,  hC.cn, hvs])
        exact hC.retN ⟨_, _, rfl, by rw [ByteArray.size_append]; omega, by omega, by omega, rfl⟩
      · have c3' : (ch == 3) = false := beq_f c3
        repeat' (first | with_reducible first | refine kI (by kernel_rfl) ?_ | refine kN (by kernel_rfl) ?_ | simp -implicitDefEqProofs (disch := omega) only [go_sem, Nat.reduceAdd, Nat.reduceSub, reduceCtorEq, Nat.reduceLT, Nat.reduceLeDiff, Nat.reduceEqDiff, ↓reduceIte, List.take_of_length_le, if_pos, if_neg, getD_exs, evApp_st0, cnE, cnV, Tryz.ntmps77, Tryz.results77,  hC.cn, c0, c1, c2', c3'])
        exact hC.retN ⟨s, _, rfl, by omega, by omega, by omega, rfl⟩
end Go.Proofs.YtkmnepmnjpdpkaaGreatDoor
