/- Contracts of functions that the laws of this seat call. -/
import Derived.Test.YtkmnepmnjpdpkaaGreatDoorX8
set_option linter.all false
namespace Go.Proofs.YtkmnepmnjpdpkaaGreatDoor
open Go Go.Ev Go.RowKit Go.Ev.Enc Go.Pl

theorem get_pre {P P' Y : List Blk} {b : Nat} {k : Blk} (h : (P ++ Y)[b]? = some k) (hb : P.length ≤ b) (hl : P.length = P'.length) : (P' ++ Y)[b]? = some k := by
  rw [List.getElem?_append_right hb] at h
  rw [List.getElem?_append_right (by omega), ← hl]
  exact h
def VK (lo : Nat) (M : List Blk) (r : AV) (v : Vi) : Prop := ∃ b c, r = viA b c v ∧ M[b]? = some (stB v.sh) ∧ M[c]? = some (stB v.st) ∧ b ≠ c ∧ lo ≤ b ∧ lo ≤ c
theorem VK.frame {N L : List Blk} {r : AV} {v : Vi} (h : VK 0 N r v) : VK L.length (L ++ N.map (ownB L.length)) (ownV L.length r) v := by
  obtain ⟨b, c, rfl, h1, h2, h3, -, -⟩ := h
  exact ⟨L.length + b, L.length + c, rfl, get_frs h1, get_frs h2, by omega, by omega, by omega⟩
def SlK (lo : Nat) (M : List Blk) (r : AV) (p : Vi × Bool) : Prop := match p.2 with
  | true => ∃ x, r = .tup [x, .bool true] ∧ VK lo M x p.1
  | false => r = .tup [.agg [i64 0, .nilS, .nilS], .bool false] ∧ p.1 = ⟨0, [], []⟩
theorem SlK.frame {N L : List Blk} {r : AV} {p : Vi × Bool} (h : SlK 0 N r p) : SlK L.length (L ++ N.map (ownB L.length)) (ownV L.length r) p := by
  obtain ⟨v, o⟩ := p
  cases o with
  | false => obtain ⟨rfl, h⟩ := h; exact ⟨rfl, h⟩
  | true =>
    obtain ⟨x, rfl, hx⟩ := h
    have := VK.frame (L := L) hx
    obtain ⟨b, c, rfl, -⟩ := hx
    exact ⟨_, rfl, this⟩
set_option maxHeartbeats 4000000 in
set_option maxRecDepth 100000 in
theorem isp_sliceDimX {Sg : FuncId → Option (List AV → Option AV)} (hS : Sound Tryz.prog Sg) (hi : Sg 192 = some (F2 gIndices)) (hct : Sg 150 = some (F1 gCountOf)) (n1 : Sg 130 = none) (n2 : Sg 193 = none) (v : Vi) (d : Nat) (s : Sl) (h1 : viewOK v = true) (h2 : slOK s = true) (hd : d < v.sh.length) : ISpec Tryz.prog 162 [.agg [i64 v.b, ints 0 v.sh, ints 0 v.st], i64 (d : Nat), slA s] [] (fun r L' => VK 0 L' r (slcF v d (indF (v.sh.getD d 0) s))) := by
  refine ISpec.intro Tryz.func162 rfl (vc3_sound Tryz.pf hS hS _ _ _ ?_)
  obtain ⟨k1, k2, k3, k4, k5⟩ := viewOK_iff.1 h1
  have s4 := (shape_facts k1).1
  have hn := dim_at h1 hd
  have hds : d < v.st.length := by omega
  have q1 := gIndices_eq (n := v.sh.getD d 0) (s := s) ⟨hn, slOK_b h2⟩
  have hin := ind_rng (n := v.sh.getD d 0) (s := s) hn.1
  have hst := st_bd h1 d
  have hlen := ind_len (n := v.sh.getD d 0) hn.1 (slOK_s h2)
  generalize indF (v.sh.getD d 0) s = I at *
  have hcl : (slcG v d I).sh.length = v.sh.length := List.length_set
  have hcs : (slcG v d I).st.length = v.st.length := List.length_set
  have hg := fun x => getD_setI (l := v.st) (d := d) (x := x) hds
  have hI : ∀ k, k < I.length → 0 ≤ I.getD k 0 ∧ I.getD k 0 ≤ 100 := fun k hk => by have := hin _ (gmem hk); omega
  have hmul : ∀ x : Int, 0 ≤ x → x ≤ 100 → IntKind.i64.wrap (v.st.getD d 0 * x) = v.st.getD d 0 * x ∧ -6000 ≤ v.st.getD d 0 * x ∧ v.st.getD d 0 * x ≤ 6000 := fun x h1 h2 => by
    have b1 : x * v.st.getD d 0 ≤ x * 60 := Int.mul_le_mul_of_nonneg_left hst.2 h1
    have b2 : x * (-60) ≤ x * v.st.getD d 0 := Int.mul_le_mul_of_nonneg_left hst.1 h1
    rw [Int.mul_comm x (v.st.getD d 0)] at b1 b2
    exact ⟨wrap_in (by omega), by omega, by omega⟩
  repeat' (first | with_reducible first | refine kI (by kernel_rfl) ?_ | refine kN (by kernel_rfl) ?_ | simp -implicitDefEqProofs (disch := omega) only [go_sem, Nat.reduceAdd, Nat.reduceSub, reduceCtorEq, Nat.reduceLT, Nat.reduceLeDiff, Nat.reduceEqDiff, Nat.reduceMul, Int.reduceToNat, ↓reduceIte, List.take_of_length_le, if_pos, if_neg, List.getElem?_set_self, List.set_set, getD_exs, cnE, cnV, Tryz.ntmps162, Tryz.results162,  hi, q1, n1, opQ_none])
  refine InlK_intro rfl rfl can_copyViewI ((o_copyViewI hS v ⟨by omega, by omega⟩).call (by simp only [go_sem, ints]) ?_)
  by_cases c0 : 0 < I.length
  · have c0' : (0 : Int) < (I.length : Int) := by omega
    have hI0 := hI 0 c0
    obtain ⟨w1, w2, w3⟩ := hmul _ hI0.1 hI0.2
    have w4 : IntKind.i64.wrap (v.b + v.st.getD d 0 * I.getD 0 0) = v.b + v.st.getD d 0 * I.getD 0 0 := wrap_in (by omega)
    by_cases c1 : 1 < I.length
    · have c1' : (1 : Int) < (I.length : Int) := by omega
      have hI1 := hI 1 c1
      obtain ⟨x1, x2, x3⟩ := hmul _ hI1.1 hI1.2
      have w5 : IntKind.i64.wrap (I.getD 1 0 - I.getD 0 0) = I.getD 1 0 - I.getD 0 0 := wrap_in (by omega)
      have w6 : IntKind.i64.wrap (v.st.getD d 0 * (I.getD 1 0 - I.getD 0 0)) = v.st.getD d 0 * (I.getD 1 0 - I.getD 0 0) := wrap_in (by rw [Int.mul_sub]; omega)
      have eg : slcG v d I = ⟨v.b + v.st.getD d 0 * I.getD 0 0, v.sh.set d I.length, v.st.set d (v.st.getD d 0 * (I.getD 1 0 - I.getD 0 0))⟩ := by unfold slcG; rw [if_pos c0, if_pos c1]
      have eF : slcF v d I = tidyF ⟨v.b + v.st.getD d 0 * I.getD 0 0, v.sh.set d I.length, v.st.set d (v.st.getD d 0 * (I.getD 1 0 - I.getD 0 0))⟩ := by unfold slcF; rw [eg]
      rw [eF]
      repeat' (first | with_reducible first | refine kI (by kernel_rfl) ?_ | simp -implicitDefEqProofs (disch := omega) only [go_sem, Nat.reduceAdd, Nat.reduceSub, reduceCtorEq, Nat.reduceLT, Nat.reduceLeDiff, Nat.reduceEqDiff, ↓reduceIte, List.take_of_length_le, if_pos, if_neg, getD_exs, cnE, cnV, Tryz.ntmps162, Tryz.results162,  map_setI, hg, c0'])
      refine DrawQ.any [([0, 1, 2, 3, 4, 5, 6, 7, 8, 9, 10, 11, 12], 13)] [] [] (by kernel_rfl) ?_
      repeat' (first | with_reducible first | refine kI (by kernel_rfl) ?_ | (first | refine kB1 ?_ ?_ | refine kB2 ?_ ?_) <;> intro hp | (first | refine kD1 ?_ ?_ | refine kD2 ?_ ?_ | refine kS1 ?_ ?_ | refine kS2 ?_ ?_) <;> intro hp <;> try simp only [hp] | simp -implicitDefEqProofs (disch := omega) only [go_sem, Nat.reduceAdd, Nat.reduceSub, reduceCtorEq, Nat.reduceLT, Nat.reduceLeDiff, Nat.reduceEqDiff, Nat.reduceMul, Int.reduceToNat, ↓reduceIte, List.take_of_length_le, if_pos, if_neg, List.getElem?_set_self, List.set_set, getD_exs, cnE, cnV, Tryz.ntmps162, Tryz.results162,  getD_ints c0, w1, w4, c1', getD_ints c1])
      refine DrawQ.any [([0, 1, 2, 3, 4, 5, 6, 7, 8, 9, 10, 11, 12, 13, 14, 15, 16], 17)] [] [] (by kernel_rfl) ?_
      repeat' (first | with_reducible first | refine kI (by kernel_rfl) ?_ | simp -implicitDefEqProofs (disch := omega) only [go_sem, Nat.reduceAdd, Nat.reduceSub, reduceCtorEq, Nat.reduceLT, Nat.reduceLeDiff, Nat.reduceEqDiff, Nat.reduceMul, Int.reduceToNat, ↓reduceIte, List.take_of_length_le, if_pos, if_neg, List.getElem?_set_self, List.set_set, getD_exs, cnE, cnV, Tryz.ntmps162, Tryz.results162,  getD_ints c0, getD_ints c1, w5, w6, map_setI, hg, List.set_set, n2, opQ_none])
      refine InlK_intro rfl rfl can_cleared ((isp_cleared hS hct ⟨v.b + v.st.getD d 0 * I.getD 0 0, v.sh.set d I.length, v.st.set d (v.st.getD d 0 * (I.getD 1 0 - I.getD 0 0))⟩ 3 4 _ rfl rfl (by dsimp only; rw [List.length_set]; omega) List.length_set List.length_set).mono ?_)
      rintro r L1 ⟨X, c, m1, rfl, hL1, m2, m3⟩
      rw [← hL1] at m2 m3
      have h2' : L1[2]? = some ⟨3, [.agg [.int .i64 0, .nilS, .nilS]]⟩ := by rw [hL1]; rfl
      have hlt := (List.getElem?_eq_some_iff.1 h2').1
      clear hL1
      generalize tidyF _ = T at *
      have e2 : ∀ k, (L1.set 2 k)[2]? = some k := fun k => by rw [List.getElem?_set_self hlt]
      have e3 : ∀ k, (L1.set 2 k)[3]? = some (stB T.sh) := fun k => by rw [List.getElem?_set_ne (by omega), m2]
      have ec : ∀ k, (L1.set 2 k)[c]? = some (stB T.st) := fun k => by rw [List.getElem?_set_ne (by omega), m3]
      repeat' (first | with_reducible first | refine kI (by kernel_rfl) ?_ | simp -implicitDefEqProofs (disch := omega) only [go_sem, Nat.reduceAdd, Nat.reduceSub, reduceCtorEq, Nat.reduceLT, Nat.reduceLeDiff, Nat.reduceEqDiff, ↓reduceIte, List.take_of_length_le, if_pos, if_neg, getD_exs, cnE, cnV, Tryz.ntmps162, Tryz.results162,  h2', e2, e3, ec])
      exact ⟨3, c, rfl, e3 _, ec _, by omega, Nat.zero_le _, Nat.zero_le _⟩
    · have c1' : ¬ (1 : Int) < (I.length : Int) := by omega
      have eg : slcG v d I = ⟨v.b + v.st.getD d 0 * I.getD 0 0, v.sh.set d I.length, v.st.set d 0⟩ := by unfold slcG; rw [if_pos c0, if_neg c1]
      have eF : slcF v d I = tidyF ⟨v.b + v.st.getD d 0 * I.getD 0 0, v.sh.set d I.length, v.st.set d 0⟩ := by unfold slcF; rw [eg]
      rw [eF]
      repeat' (first | with_reducible first | refine kI (by kernel_rfl) ?_ | simp -implicitDefEqProofs (disch := omega) only [go_sem, Nat.reduceAdd, Nat.reduceSub, reduceCtorEq, Nat.reduceLT, Nat.reduceLeDiff, Nat.reduceEqDiff, Nat.reduceMul, Int.reduceToNat, ↓reduceIte, List.take_of_length_le, if_pos, if_neg, List.getElem?_set_self, List.set_set, getD_exs, cnE, cnV, Tryz.ntmps162, Tryz.results162,  map_setI, hg, c0'])
      refine DrawQ.any [([0, 1, 2, 3, 4, 5, 6, 7, 8, 9, 10, 11, 12], 13)] [] [] (by kernel_rfl) ?_
      repeat' (first | with_reducible first | refine kI (by kernel_rfl) ?_ | simp -implicitDefEqProofs (disch := omega) only [go_sem, Nat.reduceAdd, Nat.reduceSub, reduceCtorEq, Nat.reduceLT, Nat.reduceLeDiff, Nat.reduceEqDiff, Nat.reduceMul, Int.reduceToNat, ↓reduceIte, List.take_of_length_le, if_pos, if_neg, List.getElem?_set_self, List.set_set, getD_exs, cnE, cnV, Tryz.ntmps162, Tryz.results162,  getD_ints c0, w1, w4, c1', map_setI, n2, opQ_none])
      refine InlK_intro rfl rfl can_cleared ((isp_cleared hS hct ⟨v.b + v.st.getD d 0 * I.getD 0 0, v.sh.set d I.length, v.st.set d (0)⟩ 3 4 _ rfl rfl (by dsimp only; rw [List.length_set]; omega) List.length_set List.length_set).mono ?_)
      rintro r L1 ⟨X, c, m1, rfl, hL1, m2, m3⟩
      rw [← hL1] at m2 m3
      have h2' : L1[2]? = some ⟨3, [.agg [.int .i64 0, .nilS, .nilS]]⟩ := by rw [hL1]; rfl
      have hlt := (List.getElem?_eq_some_iff.1 h2').1
      clear hL1
      generalize tidyF _ = T at *
      have e2 : ∀ k, (L1.set 2 k)[2]? = some k := fun k => by rw [List.getElem?_set_self hlt]
      have e3 : ∀ k, (L1.set 2 k)[3]? = some (stB T.sh) := fun k => by rw [List.getElem?_set_ne (by omega), m2]
      have ec : ∀ k, (L1.set 2 k)[c]? = some (stB T.st) := fun k => by rw [List.getElem?_set_ne (by omega), m3]
      repeat' (first | with_reducible first | refine kI (by kernel_rfl) ?_ | simp -implicitDefEqProofs (disch := omega) only [go_sem, Nat.reduceAdd, Nat.reduceSub, reduceCtorEq, Nat.reduceLT, Nat.reduceLeDiff, Nat.reduceEqDiff, ↓reduceIte, List.take_of_length_le, if_pos, if_neg, getD_exs, cnE, cnV, Tryz.ntmps162, Tryz.results162,  h2', e2, e3, ec])
      exact ⟨3, c, rfl, e3 _, ec _, by omega, Nat.zero_le _, Nat.zero_le _⟩
  · have c0' : ¬ (0 : Int) < (I.length : Int) := by omega
    have c1' : ¬ (1 : Int) < (I.length : Int) := by omega
    have eg : slcG v d I = ⟨v.b, v.sh.set d I.length, v.st.set d 0⟩ := by unfold slcG; rw [if_neg c0, if_neg (by omega)]
    have eF : slcF v d I = tidyF ⟨v.b, v.sh.set d I.length, v.st.set d 0⟩ := by unfold slcF; rw [eg]
    rw [eF]
    repeat' (first | with_reducible first | refine kI (by kernel_rfl) ?_ | simp -implicitDefEqProofs (disch := omega) only [go_sem, Nat.reduceAdd, Nat.reduceSub, reduceCtorEq, Nat.reduceLT, Nat.reduceLeDiff, Nat.reduceEqDiff, ↓reduceIte, List.take_of_length_le, if_pos, if_neg, getD_exs, cnE, cnV, Tryz.ntmps162, Tryz.results162,  map_setI, hg, c0', c1', n2, opQ_none])
    refine InlK_intro rfl rfl can_cleared ((isp_cleared hS hct ⟨v.b, v.sh.set d I.length, v.st.set d (0)⟩ 3 4 _ rfl rfl (by dsimp only; rw [List.length_set]; omega) List.length_set List.length_set).mono ?_)
    rintro r L1 ⟨X, c, m1, rfl, hL1, m2, m3⟩
    rw [← hL1] at m2 m3
    have h2' : L1[2]? = some ⟨3, [.agg [.int .i64 0, .nilS, .nilS]]⟩ := by rw [hL1]; rfl
    have hlt := (List.getElem?_eq_some_iff.1 h2').1
    clear hL1
    generalize tidyF _ = T at *
    have e2 : ∀ k, (L1.set 2 k)[2]? = some k := fun k => by rw [List.getElem?_set_self hlt]
    have e3 : ∀ k, (L1.set 2 k)[3]? = some (stB T.sh) := fun k => by rw [List.getElem?_set_ne (by omega), m2]
    have ec : ∀ k, (L1.set 2 k)[c]? = some (stB T.st) := fun k => by rw [List.getElem?_set_ne (by omega), m3]
    repeat' (first | with_reducible first | refine kI (by kernel_rfl) ?_ | simp -implicitDefEqProofs (disch := omega) only [go_sem, Nat.reduceAdd, Nat.reduceSub, reduceCtorEq, Nat.reduceLT, Nat.reduceLeDiff, Nat.reduceEqDiff, ↓reduceIte, if_pos, if_neg, Tryz.ntmps162, Tryz.results162,  h2', e2, e3, ec])
    exact ⟨3, c, rfl, e3 _, ec _, by omega, Nat.zero_le _, Nat.zero_le _⟩
theorem can_sliceDim : CanCall Tryz.prog 162 := ⟨_, Tryz.func162, rfl, rfl⟩
theorem can_SliceDimI : CanCall Tryz.prog 131 := ⟨_, Tryz.func131, rfl, rfl⟩
def SliX : Prop := ∀ (v : Vi) (d : Nat) (s : Sl), viewOK v = true → slOK s = true → d < v.sh.length → ISpec Tryz.prog 162 [.agg [i64 v.b, ints 0 v.sh, ints 0 v.st], i64 (d : Nat), slA s] [] fun r L' => VK 0 L' r (slcF v d (indF (v.sh.getD d 0) s))
set_option maxHeartbeats 4000000 in
set_option maxRecDepth 100000 in
theorem isp_SliceDimX {Sg : FuncId → Option (List AV → Option AV)} (hS : Sound Tryz.prog Sg) (hd : Sg 160 = some (F2 gHasDim)) (hs : Sg 161 = some (F1 gValidSl)) (n1 : Sg 162 = none) (v : Vi) (d : Int) (s : Sl) (h : viB v) (hl : SliX) : ISpec Tryz.prog 131 [.agg [i64 v.b, ints 0 v.sh, ints 0 v.st], i64 d, slA s] [] (fun r L' => SlK 0 L' r (sliR v d s)) := by
  refine ISpec.intro Tryz.func131 rfl (vc3_sound Tryz.pf hS hS _ _ _ ?_)
  have q1 := gHasDim_eq h d
  have q2 := gValidSl_eq s
  unfold sliR
  cases e1 : viewOK v with
  | false =>
    rw [e1, Bool.false_and] at q1
    rw [if_neg (by simp)]
    repeat' (first | with_reducible first | refine kI (by kernel_rfl) ?_ | refine kN (by kernel_rfl) ?_ | simp -implicitDefEqProofs (disch := omega) only [go_sem, Nat.reduceAdd, Nat.reduceSub, reduceCtorEq, Nat.reduceLT, Nat.reduceLeDiff, Nat.reduceEqDiff, ↓reduceIte, if_pos, if_neg, Tryz.ntmps131, Tryz.results131,  hd, q1])
    exact ⟨rfl, rfl⟩
  | true =>
    rw [e1, Bool.true_and] at q1
    cases e2 : inR d 0 (v.sh.length - 1) with
    | false =>
      rw [e2] at q1
      rw [if_neg (by simp)]
      repeat' (first | with_reducible first | refine kI (by kernel_rfl) ?_ | refine kN (by kernel_rfl) ?_ | simp -implicitDefEqProofs (disch := omega) only [go_sem, Nat.reduceAdd, Nat.reduceSub, reduceCtorEq, Nat.reduceLT, Nat.reduceLeDiff, Nat.reduceEqDiff, ↓reduceIte, if_pos, if_neg, Tryz.ntmps131, Tryz.results131,  hd, q1])
      exact ⟨rfl, rfl⟩
    | true =>
      rw [e2] at q1
      cases e3 : slOK s with
      | false =>
        rw [e3] at q2
        rw [if_neg (by simp)]
        repeat' (first | with_reducible first | refine kI (by kernel_rfl) ?_ | refine kN (by kernel_rfl) ?_ | simp -implicitDefEqProofs (disch := omega) only [go_sem, Nat.reduceAdd, Nat.reduceSub, reduceCtorEq, Nat.reduceLT, Nat.reduceLeDiff, Nat.reduceEqDiff, ↓reduceIte, if_pos, if_neg, Tryz.ntmps131, Tryz.results131,  hd, q1, hs, q2])
        exact ⟨rfl, rfl⟩
      | true =>
        rw [e3] at q2
        rw [if_pos ⟨rfl, rfl, rfl⟩]
        obtain ⟨m, rfl, hm⟩ := dim_nat e2
        rw [Int.toNat_natCast]
        repeat' (first | with_reducible first | refine kI (by kernel_rfl) ?_ | refine kN (by kernel_rfl) ?_ | simp -implicitDefEqProofs (disch := omega) only [go_sem, Nat.reduceAdd, Nat.reduceSub, reduceCtorEq, Nat.reduceLT, Nat.reduceLeDiff, Nat.reduceEqDiff, ↓reduceIte, if_pos, if_neg, Tryz.ntmps131, Tryz.results131,  hd, q1, hs, q2, n1, opQ_none])
        refine InlK_intro rfl rfl can_sliceDim (callF (hl v m s e1 e3 hm) (by simp only [go_sem, ints]) ?_)
        intro r N hr
        obtain ⟨b, c, e, h1, h2, h3, h4, h5⟩ := VK.frame (L := [⟨3, [.agg [i64 v.b, ints 0 v.sh, ints 0 v.st]]⟩, ⟨5, [slA s]⟩, ⟨3, [.agg [i64 0, .nilS, .nilS]]⟩]) hr
        rw [e]
        generalize N.map (ownB ([⟨3, [.agg [i64 v.b, ints 0 v.sh, ints 0 v.st]]⟩, ⟨5, [slA s]⟩, ⟨3, [.agg [i64 0, .nilS, .nilS]]⟩] : List Blk).length) = Y at *
        repeat' (first | with_reducible first | refine kI (by kernel_rfl) ?_ | refine kN (by kernel_rfl) ?_ | simp -implicitDefEqProofs (disch := omega) only [go_sem, Nat.reduceAdd, Nat.reduceSub, reduceCtorEq, Nat.reduceLT, Nat.reduceLeDiff, Nat.reduceEqDiff, ↓reduceIte, if_pos, if_neg, Tryz.ntmps131, Tryz.results131])
        exact ⟨_, rfl, b, c, rfl, get_pre (P' := [_, _, _]) h1 h4 rfl, get_pre (P' := [_, _, _]) h2 h5 rfl, h3, Nat.zero_le _, Nat.zero_le _⟩
end Go.Proofs.YtkmnepmnjpdpkaaGreatDoor
