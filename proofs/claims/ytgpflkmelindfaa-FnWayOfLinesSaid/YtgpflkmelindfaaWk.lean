/- Contracts of functions that the laws of this seat call. -/
import Derived.Test.YtgpflkmelindfaaWj
set_option linter.all false
namespace Go.Proofs.Ytgpflkmelindfaa
open Go Go.Ev Go.RowKit Go.Ev.Enc Go.Pl

theorem can_copyViewI : CanCall Try.prog 101 := ⟨_, Try.func101, rfl, rfl⟩
theorem can_cleared : CanCall Try.prog 102 := ⟨_, Try.func102, rfl, rfl⟩
theorem exp_viA {L : List Blk} {b c : Nat} {v : Vi} (hb : L[b]? = some (stB v.sh)) (hc : L[c]? = some (stB v.st)) : exp 1 L (viA b c v) = .agg [i64 v.b, ints 1 v.sh, ints 1 v.st] := by
  simp [exp, expE, expC, stepC, hb, hc, ints, Function.comp_def, List.take_of_length_le]
def gSliI (v : Vi) (d : Int) (s : Sl) : Option Vi := gd ((viewOK v = true ∧ slOK s = true) ∧ 0 ≤ d ∧ d < v.sh.length) (slcF v d.toNat (indF (v.sh.getD d.toNat 0) s))
theorem gSliI_eq {v : Vi} {d : Nat} {s : Sl} (h : viewOK v = true ∧ slOK s = true) (hd : d < v.sh.length) : gSliI v (d : Int) s = some (slcF v d (indF (v.sh.getD d 0) s)) := gd_eq ⟨h, by omega, by omega⟩
set_option maxHeartbeats 4000000 in
set_option maxRecDepth 100000 in
theorem spec_sliceDim {Sg : FuncId → Option (List AV → Option AV)} (hS : Sound Try.prog Sg) (hi : Sg 95 = some (F2 gIndices)) (hct : Sg 97 = some (F1 gCountOf)) (n1 : Sg 101 = none) (n2 : Sg 102 = none) : ∀ a r, F3 gSliI a = some r → CSpec Try.prog 50 a r := by
  refine F3_spec ?_
  intro v d s r hr0
  obtain ⟨⟨⟨h1, h2⟩, h3, h4⟩, rfl⟩ := gd_some hr0
  obtain ⟨d, rfl⟩ : ∃ m : Nat, d = m := ⟨d.toNat, by omega⟩
  rw [Int.toNat_natCast]
  refine CSpec.intro Try.func50 rfl (own _) (vc3_sound Try.pf hS hS _ _ _ ?_)
  have hd : d < v.sh.length := by omega
  obtain ⟨k1, k2, k3, k4, k5⟩ := viewOK_iff.1 h1
  have s4 := (shape_facts k1).1
  have hn := dim_at h1 hd
  have hds : d < v.st.length := by omega
  have q1 := gIndices_eq (n := v.sh.getD d 0) (s := s) ⟨hn, slOK_b h2⟩
  have hin := ind_rng (n := v.sh.getD d 0) (s := s) hn.1
  have hst := st_bd h1 d
  have hlen := ind_len (n := v.sh.getD d 0) hn.1 (slOK_s h2)
  generalize indF (v.sh.getD d 0) s = I at *
  have hcl : (slcG v d I).sh.length = v.sh.length := List.length_set
  have hcs : (slcG v d I).st.length = v.st.length := List.length_set
  have hg := fun x => getD_setI (l := v.st) (d := d) (x := x) hds
  have hI : ∀ k, k < I.length → 0 ≤ I.getD k 0 ∧ I.getD k 0 ≤ 100 := fun k hk => by have := hin _ (gmem hk); omega
  have hmul : ∀ x : Int, 0 ≤ x → x ≤ 100 → IntKind.i64.wrap (v.st.getD d 0 * x) = v.st.getD d 0 * x ∧ -6000 ≤ v.st.getD d 0 * x ∧ v.st.getD d 0 * x ≤ 6000 := fun x h1 h2 => by
    have b1 : x * v.st.getD d 0 ≤ x * 60 := Int.mul_le_mul_of_nonneg_left hst.2 h1
    have b2 : x * (-60) ≤ x * v.st.getD d 0 := Int.mul_le_mul_of_nonneg_left hst.1 h1
    rw [Int.mul_comm x (v.st.getD d 0)] at b1 b2
    exact ⟨wrap_in (by omega), by omega, by omega⟩
  repeat' (first | with_reducible first | refine kI (by kernel_rfl) ?_ | refine kN (by kernel_rfl) ?_ | (first | refine kB1 ?_ ?_ | refine kB2 ?_ ?_) <;> intro hp | (first | refine kD1 ?_ ?_ | refine kD2 ?_ ?_ | refine kS1 ?_ ?_ | refine kS2 ?_ ?_) <;> intro hp <;> try simp only [hp] | simp -implicitDefEqProofs (disch := omega) only [go_sem, Nat.reduceAdd, Nat.reduceSub, reduceCtorEq, Nat.reduceLT, Nat.reduceLeDiff, Nat.reduceEqDiff, Nat.reduceMul, Int.reduceToNat, ↓reduceIte, List.take_of_length_le, if_pos, if_neg, List.getElem?_set_self, List.set_set, cnE, cnV, Try.ntmps50, Try.results50,  hi, q1, n1, opQ_none])
  refine InlK_intro rfl rfl can_copyViewI ((o_copyViewI hS v ⟨by omega, by omega⟩).call (by simp only [go_sem, ints]) ?_)
  by_cases c0 : 0 < I.length
  · have c0' : (0 : Int) < (I.length : Int) := by omega
    have hI0 := hI 0 c0
    obtain ⟨w1, w2, w3⟩ := hmul _ hI0.1 hI0.2
    have w4 : IntKind.i64.wrap (v.b + v.st.getD d 0 * I.getD 0 0) = v.b + v.st.getD d 0 * I.getD 0 0 := wrap_in (by omega)
    by_cases c1 : 1 < I.length
    · have c1' : (1 : Int) < (I.length : Int) := by omega
      have hI1 := hI 1 c1
      obtain ⟨x1, x2, x3⟩ := hmul _ hI1.1 hI1.2
      have w5 : IntKind.i64.wrap (I.getD 1 0 - I.getD 0 0) = I.getD 1 0 - I.getD 0 0 := wrap_in (by omega)
      have w6 : IntKind.i64.wrap (v.st.getD d 0 * (I.getD 1 0 - I.getD 0 0)) = v.st.getD d 0 * (I.getD 1 0 - I.getD 0 0) := wrap_in (by rw [Int.mul_sub]; omega)
      have eg : slcG v d I = ⟨v.b + v.st.getD d 0 * I.getD 0 0, v.sh.set d I.length, v.st.set d (v.st.getD d 0 * (I.getD 1 0 - I.getD 0 0))⟩ := by unfold slcG; rw [if_pos c0, if_pos c1]
      have eF : slcF v d I = tidyF ⟨v.b + v.st.getD d 0 * I.getD 0 0, v.sh.set d I.length, v.st.set d (v.st.getD d 0 * (I.getD 1 0 - I.getD 0 0))⟩ := by unfold slcF; rw [eg]
      rw [eF]
      repeat' (first | with_reducible first | refine kI (by kernel_rfl) ?_ | (first | refine kB1 ?_ ?_ | refine kB2 ?_ ?_) <;> intro hp | (first | refine kD1 ?_ ?_ | refine kD2 ?_ ?_ | refine kS1 ?_ ?_ | refine kS2 ?_ ?_) <;> intro hp <;> try simp only [hp] | simp -implicitDefEqProofs (disch := omega) only [go_sem, Nat.reduceAdd, Nat.reduceSub, reduceCtorEq, Nat.reduceLT, Nat.reduceLeDiff, Nat.reduceEqDiff, Nat.reduceMul, Int.reduceToNat, ↓reduceIte, List.take_of_length_le, if_pos, if_neg, List.getElem?_set_self, List.set_set, cnE, cnV, Try.ntmps50, Try.results50,  map_setI, hg, c0'])
      refine DrawQ.any [([0, 1, 2, 3, 4, 5, 6, 7, 8, 9, 10, 11, 12], 13)] [] [] (by kernel_rfl) ?_
      repeat' (first | with_reducible first | refine kI (by kernel_rfl) ?_ | (first | refine kB1 ?_ ?_ | refine kB2 ?_ ?_) <;> intro hp | (first | refine kD1 ?_ ?_ | refine kD2 ?_ ?_ | refine kS1 ?_ ?_ | refine kS2 ?_ ?_) <;> intro hp <;> try simp only [hp] | simp -implicitDefEqProofs (disch := omega) only [go_sem, Nat.reduceAdd, Nat.reduceSub, reduceCtorEq, Nat.reduceLT, Nat.reduceLeDiff, Nat.reduceEqDiff, Nat.reduceMul, Int.reduceToNat, ↓reduceIte, List.take_of_length_le, if_pos, if_neg, List.getElem?_set_self, List.set_set, cnE, cnV, Try.ntmps50, Try.results50,  getD_ints c0, w1, w4, c1', getD_ints c1])
      refine DrawQ.any [([0, 1, 2, 3, 4, 5, 6, 7, 8, 9, 10, 11, 12, 13, 14, 15, 16], 17)] [] [] (by kernel_rfl) ?_
      repeat' (first | with_reducible first | refine kI (by kernel_rfl) ?_ | (first | refine kB1 ?_ ?_ | refine kB2 ?_ ?_) <;> intro hp | (first | refine kD1 ?_ ?_ | refine kD2 ?_ ?_ | refine kS1 ?_ ?_ | refine kS2 ?_ ?_) <;> intro hp <;> try simp only [hp] | simp -implicitDefEqProofs (disch := omega) only [go_sem, Nat.reduceAdd, Nat.reduceSub, reduceCtorEq, Nat.reduceLT, Nat.reduceLeDiff, Nat.reduceEqDiff, Nat.reduceMul, Int.reduceToNat, ↓reduceIte, List.take_of_length_le, if_pos, if_neg, List.getElem?_set_self, List.set_set, cnE, cnV, Try.ntmps50, Try.results50,  getD_ints c0, getD_ints c1, w5, w6, map_setI, hg, List.set_set, n2, opQ_none])
      refine InlK_intro rfl rfl can_cleared ((isp_cleared hS hct ⟨v.b + v.st.getD d 0 * I.getD 0 0, v.sh.set d I.length, v.st.set d (v.st.getD d 0 * (I.getD 1 0 - I.getD 0 0))⟩ 3 4 _ rfl rfl (by dsimp only; rw [List.length_set]; omega) List.length_set List.length_set).mono ?_)
      rintro r L1 ⟨X, c, m1, rfl, hL1, m2, m3⟩
      rw [← hL1] at m2 m3
      have h2' : L1[2]? = some ⟨3, [.agg [.int .i64 0, .nilS, .nilS]]⟩ := by rw [hL1]; rfl
      have hlt := (List.getElem?_eq_some_iff.1 h2').1
      clear hL1
      generalize tidyF _ = T at *
      have e2 : ∀ k, (L1.set 2 k)[2]? = some k := fun k => by rw [List.getElem?_set_self hlt]
      have e3 : ∀ k, (L1.set 2 k)[3]? = some (stB T.sh) := fun k => by rw [List.getElem?_set_ne (by omega), m2]
      have ec : ∀ k, (L1.set 2 k)[c]? = some (stB T.st) := fun k => by rw [List.getElem?_set_ne (by omega), m3]
      repeat' (first | with_reducible first | refine kI (by kernel_rfl) ?_ | (first | refine kB1 ?_ ?_ | refine kB2 ?_ ?_) <;> intro hp | (first | refine kD1 ?_ ?_ | refine kD2 ?_ ?_ | refine kS1 ?_ ?_ | refine kS2 ?_ ?_) <;> intro hp <;> try simp only [hp] | simp -implicitDefEqProofs (disch := omega) only [go_sem, Nat.reduceAdd, Nat.reduceSub, reduceCtorEq, Nat.reduceLT, Nat.reduceLeDiff, Nat.reduceEqDiff, Nat.reduceMul, Int.reduceToNat, ↓reduceIte, List.take_of_length_le, if_pos, if_neg, List.getElem?_set_self, List.set_set, cnE, cnV, Try.ntmps50, Try.results50,  h2', e2, e3, ec])
    · have c1' : ¬ (1 : Int) < (I.length : Int) := by omega
      have eg : slcG v d I = ⟨v.b + v.st.getD d 0 * I.getD 0 0, v.sh.set d I.length, v.st.set d 0⟩ := by unfold slcG; rw [if_pos c0, if_neg c1]
      have eF : slcF v d I = tidyF ⟨v.b + v.st.getD d 0 * I.getD 0 0, v.sh.set d I.length, v.st.set d 0⟩ := by unfold slcF; rw [eg]
      rw [eF]
      repeat' (first | with_reducible first | refine kI (by kernel_rfl) ?_ | (first | refine kB1 ?_ ?_ | refine kB2 ?_ ?_) <;> intro hp | (first | refine kD1 ?_ ?_ | refine kD2 ?_ ?_ | refine kS1 ?_ ?_ | refine kS2 ?_ ?_) <;> intro hp <;> try simp only [hp] | simp -implicitDefEqProofs (disch := omega) only [go_sem, Nat.reduceAdd, Nat.reduceSub, reduceCtorEq, Nat.reduceLT, Nat.reduceLeDiff, Nat.reduceEqDiff, Nat.reduceMul, Int.reduceToNat, ↓reduceIte, List.take_of_length_le, if_pos, if_neg, List.getElem?_set_self, List.set_set, cnE, cnV, Try.ntmps50, Try.results50,  map_setI, hg, c0'])
      refine DrawQ.any [([0, 1, 2, 3, 4, 5, 6, 7, 8, 9, 10, 11, 12], 13)] [] [] (by kernel_rfl) ?_
      repeat' (first | with_reducible first | refine kI (by kernel_rfl) ?_ | (first | refine kB1 ?_ ?_ | refine kB2 ?_ ?_) <;> intro hp | (first | refine kD1 ?_ ?_ | refine kD2 ?_ ?_ | refine kS1 ?_ ?_ | refine kS2 ?_ ?_) <;> intro hp <;> try simp only [hp] | simp -implicitDefEqProofs (disch := omega) only [go_sem, Nat.reduceAdd, Nat.reduceSub, reduceCtorEq, Nat.reduceLT, Nat.reduceLeDiff, Nat.reduceEqDiff, Nat.reduceMul, Int.reduceToNat, ↓reduceIte, List.take_of_length_le, if_pos, if_neg, List.getElem?_set_self, List.set_set, cnE, cnV, Try.ntmps50, Try.results50,  getD_ints c0, w1, w4, c1', map_setI, n2, opQ_none])
      refine InlK_intro rfl rfl can_cleared ((isp_cleared hS hct ⟨v.b + v.st.getD d 0 * I.getD 0 0, v.sh.set d I.length, v.st.set d (0)⟩ 3 4 _ rfl rfl (by dsimp only; rw [List.length_set]; omega) List.length_set List.length_set).mono ?_)
      rintro r L1 ⟨X, c, m1, rfl, hL1, m2, m3⟩
      rw [← hL1] at m2 m3
      have h2' : L1[2]? = some ⟨3, [.agg [.int .i64 0, .nilS, .nilS]]⟩ := by rw [hL1]; rfl
      have hlt := (List.getElem?_eq_some_iff.1 h2').1
      clear hL1
      generalize tidyF _ = T at *
      have e2 : ∀ k, (L1.set 2 k)[2]? = some k := fun k => by rw [List.getElem?_set_self hlt]
      have e3 : ∀ k, (L1.set 2 k)[3]? = some (stB T.sh) := fun k => by rw [List.getElem?_set_ne (by omega), m2]
      have ec : ∀ k, (L1.set 2 k)[c]? = some (stB T.st) := fun k => by rw [List.getElem?_set_ne (by omega), m3]
      repeat' (first | with_reducible first | refine kI (by kernel_rfl) ?_ | (first | refine kB1 ?_ ?_ | refine kB2 ?_ ?_) <;> intro hp | (first | refine kD1 ?_ ?_ | refine kD2 ?_ ?_ | refine kS1 ?_ ?_ | refine kS2 ?_ ?_) <;> intro hp <;> try simp only [hp] | simp -implicitDefEqProofs (disch := omega) only [go_sem, Nat.reduceAdd, Nat.reduceSub, reduceCtorEq, Nat.reduceLT, Nat.reduceLeDiff, Nat.reduceEqDiff, Nat.reduceMul, Int.reduceToNat, ↓reduceIte, List.take_of_length_le, if_pos, if_neg, List.getElem?_set_self, List.set_set, cnE, cnV, Try.ntmps50, Try.results50,  h2', e2, e3, ec])
  · have c0' : ¬ (0 : Int) < (I.length : Int) := by omega
    have c1' : ¬ (1 : Int) < (I.length : Int) := by omega
    have eg : slcG v d I = ⟨v.b, v.sh.set d I.length, v.st.set d 0⟩ := by unfold slcG; rw [if_neg c0, if_neg (by omega)]
    have eF : slcF v d I = tidyF ⟨v.b, v.sh.set d I.length, v.st.set d 0⟩ := by unfold slcF; rw [eg]
    rw [eF]
    repeat' (first | with_reducible first | refine kI (by kernel_rfl) ?_ | (first | refine kB1 ?_ ?_ | refine kB2 ?_ ?_) <;> intro hp | (first | refine kD1 ?_ ?_ | refine kD2 ?_ ?_ | refine kS1 ?_ ?_ | refine kS2 ?_ ?_) <;> intro hp <;> try simp only [hp] | simp -implicitDefEqProofs (disch := omega) only [go_sem, Nat.reduceAdd, Nat.reduceSub, reduceCtorEq, Nat.reduceLT, Nat.reduceLeDiff, Nat.reduceEqDiff, Nat.reduceMul, Int.reduceToNat, ↓reduceIte, List.take_of_length_le, if_pos, if_neg, List.getElem?_set_self, List.set_set, cnE, cnV, Try.ntmps50, Try.results50,  map_setI, hg, c0', c1', n2, opQ_none])
    refine InlK_intro rfl rfl can_cleared ((isp_cleared hS hct ⟨v.b, v.sh.set d I.length, v.st.set d (0)⟩ 3 4 _ rfl rfl (by dsimp only; rw [List.length_set]; omega) List.length_set List.length_set).mono ?_)
    rintro r L1 ⟨X, c, m1, rfl, hL1, m2, m3⟩
    rw [← hL1] at m2 m3
    have h2' : L1[2]? = some ⟨3, [.agg [.int .i64 0, .nilS, .nilS]]⟩ := by rw [hL1]; rfl
    have hlt := (List.getElem?_eq_some_iff.1 h2').1
    clear hL1
    generalize tidyF _ = T at *
    have e2 : ∀ k, (L1.set 2 k)[2]? = some k := fun k => by rw [List.getElem?_set_self hlt]
    have e3 : ∀ k, (L1.set 2 k)[3]? = some (stB T.sh) := fun k => by rw [List.getElem?_set_ne (by omega), m2]
    have ec : ∀ k, (L1.set 2 k)[c]? = some (stB T.st) := fun k => by rw [List.getElem?_set_ne (by omega), m3]
    repeat' (first | with_reducible first | refine kI (by kernel_rfl) ?_ | (first | refine kB1 ?_ ?_ | refine kB2 ?_ ?_) <;> intro hp | (first | refine kD1 ?_ ?_ | refine kD2 ?_ ?_ | refine kS1 ?_ ?_ | refine kS2 ?_ ?_) <;> intro hp <;> try simp only [hp] | simp -implicitDefEqProofs (disch := omega) only [go_sem, Nat.reduceAdd, Nat.reduceSub, reduceCtorEq, Nat.reduceLT, Nat.reduceLeDiff, Nat.reduceEqDiff, Nat.reduceMul, Int.reduceToNat, ↓reduceIte, List.take_of_length_le, if_pos, if_neg, List.getElem?_set_self, List.set_set, cnE, cnV, Try.ntmps50, Try.results50,  h2', e2, e3, ec])
end Go.Proofs.Ytgpflkmelindfaa
