/- Contracts of functions that the laws of this seat call. -/
import Derived.Test.YtgpflkmelindfaaVz
set_option linter.all false
namespace Go.Proofs.Ytgpflkmelindfaa
open Go Go.Ev Go.RowKit Go.Ev.Enc Go.Pl

/-! ### lines -/
def lineF (b s : Int) (N : Nat) : List Int := (List.range N).map fun k : Nat => b + (k : Int) * s
theorem lineF_len (b s : Int) (N : Nat) : (lineF b s N).length = N := by simp [lineF]
theorem lineF_at {b s : Int} {N k : Nat} (h : k < N) : (lineF b s N).getD k 0 = b + (k : Int) * s := by simp [lineF, h]
theorem len_one {l : List Int} (h : l.length = 1) : l = [l.getD 0 0] := by
  match l, h with
  | [x], _ => rfl
theorem offF_line {v : Vi} (h : viewOK v = true) (h1 : v.sh.length = 1) : offF v = lineF v.b (v.st.getD 0 0) (v.sh.getD 0 0).toNat := by
  obtain ⟨k1, k2, k3, k4, k5⟩ := viewOK_iff.1 h
  obtain ⟨s1, s2, s3, s4, s5⟩ := shape_facts k1
  have hs := k3 _ (gmem (show 0 < v.st.length by omega))
  have hN := s2 _ (gmem (show 0 < v.sh.length by omega))
  have e1 := len_one h1
  generalize hn : v.sh.getD 0 0 = n at *
  generalize hst : v.st.getD 0 0 = s at *
  have hp : prodW v.sh = n := by
    rw [e1]
    show IntKind.i64.wrap (1 * n) = n
    rw [wrap_in (by omega)]; omega
  have hn60 : n ≤ 60 := by omega
  unfold offF lineF
  rw [hp]
  refine List.map_congr_left fun k hk => ?_
  have hk := List.mem_range.1 hk
  have hkn : (k : Int) < n := by omega
  rw [h1]
  have hu : (unrF v.sh (k : Int)).getD 0 0 = (k : Int) := by
    rw [e1, show ([n] : List Int) = [] ++ [n] from rfl, unrF_snoc]
    show ((k : Int).tmod n) = k
    exact Int.tmod_eq_of_lt (by omega) hkn
  have hk0 : 0 ≤ (k : Int) := by omega
  have b1 : (k : Int) * s ≤ (k : Int) * 60 := Int.mul_le_mul_of_nonneg_left hs.2 hk0
  have b2 : (k : Int) * (-60) ≤ (k : Int) * s := Int.mul_le_mul_of_nonneg_left hs.1 hk0
  show IntKind.i64.wrap (v.b + IntKind.i64.wrap ((unrF v.sh (k : Int)).getD 0 0 * v.st.getD 0 0)) = _
  rw [hu, hst, wrap_in (show -9223372036854775808 ≤ (k : Int) * s ∧ (k : Int) * s ≤ 9223372036854775807 by omega), wrap_in (by omega)]
theorem mul_stepI {i k : Nat} {s : Int} (hs : 1 ≤ s) (h : i < k) : (i : Int) * s + s ≤ (k : Int) * s := by
  have : ((i : Int) + 1) * s ≤ (k : Int) * s := Int.mul_le_mul_of_nonneg_right (by omega) (by omega)
  rw [Int.add_mul] at this
  omega
theorem line_fwd {a b s : Int} {N : Nat} (hs : 1 ≤ s) (h : a ≤ b) : latB (lineF a s N) (lineF b s N) (lineF a s N).length = false := by
  rw [← Bool.not_eq_true, latB_iff]
  rintro ⟨i, hi, k, h1, h2, h3⟩
  rw [lineF_len] at hi h2
  rw [lineF_at h2, lineF_at hi] at h3
  have := mul_stepI hs h1
  omega
theorem line_diff {a s : Int} {N : Nat} (hs : 1 ≤ s) : diffF (lineF a s N) = true := by
  rw [diffF_nodup, List.nodup_iff_pairwise_ne, List.pairwise_iff_getElem]
  intro i j hi hj hij
  rw [lineF_len] at hi hj
  have e1 := lineF_at (b := a) (s := s) hi
  have e2 := lineF_at (b := a) (s := s) hj
  rw [List.getD_eq_getElem?_getD, List.getElem?_eq_getElem (by rw [lineF_len]; exact hi), Option.getD_some] at e1
  rw [List.getD_eq_getElem?_getD, List.getElem?_eq_getElem (by rw [lineF_len]; exact hj), Option.getD_some] at e2
  rw [e1, e2]
  have := mul_stepI hs hij
  omega
theorem mem_line {x a s : Int} {N : Nat} : x ∈ lineF a s N ↔ ∃ k : Nat, k < N ∧ x = a + (k : Int) * s := by
  unfold lineF
  rw [List.mem_map]
  constructor
  · rintro ⟨k, hk, rfl⟩; exact ⟨k, List.mem_range.1 hk, rfl⟩
  · rintro ⟨k, hk, rfl⟩; exact ⟨k, List.mem_range.2 hk, rfl⟩
theorem line_bwd {a b s : Int} {N : Nat} (hs : 1 ≤ s) (h : b < a) (h0 : 0 < (bothF (lineF a s N) (lineF b s N)).length) : wayL (lineF a s N) (lineF b s N) = 1 := by
  refine wayL_1 ?_ ?_ (line_diff hs)
  · rw [latB_iff]
    obtain ⟨x, hx⟩ := List.exists_mem_of_length_pos h0
    obtain ⟨-, hA, hB⟩ := mem_both.1 hx
    obtain ⟨i, hi, rfl⟩ := mem_line.1 hA
    obtain ⟨k, hk, he⟩ := mem_line.1 hB
    refine ⟨i, by rw [lineF_len]; exact hi, k, ?_, by rw [lineF_len]; exact hk, by rw [lineF_at hk, lineF_at hi]; exact he.symm⟩
    rcases Nat.lt_trichotomy i k with hik | hik | hik
    · exact hik
    · subst hik; omega
    · have := mul_stepI hs hik
      omega
  · rw [← Bool.not_eq_true, earB_iff]
    rintro ⟨i, hi, k, h1, h2, h3⟩
    rw [lineF_len] at hi h2
    rw [lineF_at h2, lineF_at hi] at h3
    have := mul_stepI hs h1
    omega
set_option maxHeartbeats 8000000 in
set_option maxRecDepth 100000 in
theorem law_WayOfLines {Sg Sd : FuncId → Option (List AV → Option AV)} (hS : Sound Try.prog Sg) (hD : Sound Try.prog Sd) (n1 : Sg 22 = none) (h1 : Sg 23 = some (F2 gWay)) (h2 : Sg 24 = some (F2 gWay)) (h3 : Sg 25 = some (F2 gDoOv)) (hDr : DrTwo 22) : ∀ a r, F1 gTrueW a = some r → CSpec Try.prog 5 a r := by
  refine F1_spec ?_
  intro bs r hr
  obtain ⟨g1, rfl⟩ := gd_some hr
  refine law3 Try.func5 rfl Try.pf hS hD ?_
  by_cases hb : 1048576 < bs.length
  · repeat' (first | with_reducible first | refine kI (by kernel_rfl) ?_ | refine kN (by kernel_rfl) ?_ | (first | refine kB1 ?_ ?_ | refine kB2 ?_ ?_) <;> intro hp | (first | refine kD1 ?_ ?_ | refine kD2 ?_ ?_ | refine kS1 ?_ ?_ | refine kS2 ?_ ?_) <;> intro hp <;> try simp only [hp] | simp -implicitDefEqProofs (disch := omega) only [go_sem, Nat.reduceAdd, Nat.reduceSub, reduceCtorEq, Nat.reduceLT, Nat.reduceLeDiff, Nat.reduceEqDiff, Nat.reduceMul, Int.reduceToNat, ↓reduceIte, List.take_of_length_le, if_pos, if_neg, List.getElem?_set_self, List.set_set, cnE, cnV, Try.ntmps5, Try.results5])
  · repeat' (first | with_reducible first | refine kI (by kernel_rfl) ?_ | refine kN (by kernel_rfl) ?_ | (first | refine kB1 ?_ ?_ | refine kB2 ?_ ?_) <;> intro hp | (first | refine kD1 ?_ ?_ | refine kD2 ?_ ?_ | refine kS1 ?_ ?_ | refine kS2 ?_ ?_) <;> intro hp <;> try simp only [hp] | simp -implicitDefEqProofs (disch := omega) only [go_sem, Nat.reduceAdd, Nat.reduceSub, reduceCtorEq, Nat.reduceLT, Nat.reduceLeDiff, Nat.reduceEqDiff, Nat.reduceMul, Int.reduceToNat, ↓reduceIte, List.take_of_length_le, if_pos, if_neg, List.getElem?_set_self, List.set_set, cnE, cnV, Try.ntmps5, Try.results5,  n1, opQ_none])
    refine InlK_intro rfl rfl can_DrawWayOf ((hDr bs (by omega) _).mono ?_)
    rintro r L1 ⟨a, b, ⟨⟨k1, k2⟩, ⟨k3, k4⟩⟩, rfl, rfl⟩
    have hab : viB2 a b := ⟨⟨by omega, by omega⟩, ⟨by omega, by omega⟩⟩
    have q1 := gWay_eq hab
    have q3 := gDoOv_eq hab
    by_cases hc : okk a b = true ∧ a.sh = b.sh
    · obtain ⟨eo, e3⟩ := hc
      obtain ⟨e1, e2⟩ := okk_iff.1 eo
      rw [way_yes e1 e2 e3] at q1
      rw [eo, Bool.true_and] at q3
      have hw : 0 ≤ wayL (offF a) (offF b) := by rcases wayL_cases (offF a) (offF b) with h | h | h <;> omega
      have hw' : ¬ wayL (offF a) (offF b) < 0 := by omega
      have ha2 := (vOK e1).2
      have hb2 := (vOK e2).2
      by_cases l1 : a.sh.length = 1
      · have l1' : ((a.sh.length : Int) == 1) = true := beq_t (by omega)
        have l2 : a.st.length = 1 := by omega
        have l3 : b.sh.length = 1 := by rw [← e3]; exact l1
        have l4 : b.st.length = 1 := by omega
        have ea := offF_line e1 l1
        have eb := offF_line e2 l3
        rw [← e3] at eb
        by_cases c1 : a.sh.getD 0 0 < 1
        · generalize wayL (offF a) (offF b) = w at *
          repeat' (first | with_reducible first | refine kI (by kernel_rfl) ?_ | refine kN (by kernel_rfl) ?_ | (first | refine kB1 ?_ ?_ | refine kB2 ?_ ?_) <;> intro hp | (first | refine kD1 ?_ ?_ | refine kD2 ?_ ?_ | refine kS1 ?_ ?_ | refine kS2 ?_ ?_) <;> intro hp <;> try simp only [hp] | simp -implicitDefEqProofs (disch := omega) only [go_sem, Nat.reduceAdd, Nat.reduceSub, reduceCtorEq, Nat.reduceLT, Nat.reduceLeDiff, Nat.reduceEqDiff, Nat.reduceMul, Int.reduceToNat, ↓reduceIte, List.take_of_length_le, if_pos, if_neg, List.getElem?_set_self, List.set_set, cnE, cnV, Try.ntmps5, Try.results5,  h1, q1, h2, hw', l1', l1, l2, c1])
        · by_cases c2 : a.st.getD 0 0 = b.st.getD 0 0
          · by_cases c3 : b.st.getD 0 0 < 1
            · generalize wayL (offF a) (offF b) = w at *
              repeat' (first | with_reducible first | refine kI (by kernel_rfl) ?_ | refine kN (by kernel_rfl) ?_ | (first | refine kB1 ?_ ?_ | refine kB2 ?_ ?_) <;> intro hp | (first | refine kD1 ?_ ?_ | refine kD2 ?_ ?_ | refine kS1 ?_ ?_ | refine kS2 ?_ ?_) <;> intro hp <;> try simp only [hp] | simp -implicitDefEqProofs (disch := omega) only [go_sem, Nat.reduceAdd, Nat.reduceSub, reduceCtorEq, Nat.reduceLT, Nat.reduceLeDiff, Nat.reduceEqDiff, Nat.reduceMul, Int.reduceToNat, ↓reduceIte, List.take_of_length_le, if_pos, if_neg, List.getElem?_set_self, List.set_set, cnE, cnV, Try.ntmps5, Try.results5,  h1, q1, h2, hw', l1', l1, l2, l4, c1, c2, c3])
            · have hs : 1 ≤ a.st.getD 0 0 := by omega
              rw [← c2] at eb
              rw [ea, eb] at q1 q3
              by_cases c4 : a.b ≤ b.b
              · have c4' : ¬ b.b < a.b := by omega
                rw [wayL_0 (line_fwd (N := (a.sh.getD 0 0).toNat) hs c4)] at q1
                repeat' (first | with_reducible first | refine kI (by kernel_rfl) ?_ | refine kN (by kernel_rfl) ?_ | (first | refine kB1 ?_ ?_ | refine kB2 ?_ ?_) <;> intro hp | (first | refine kD1 ?_ ?_ | refine kD2 ?_ ?_ | refine kS1 ?_ ?_ | refine kS2 ?_ ?_) <;> intro hp <;> try simp only [hp] | simp -implicitDefEqProofs (disch := omega) only [go_sem, Nat.reduceAdd, Nat.reduceSub, reduceCtorEq, Nat.reduceLT, Nat.reduceLeDiff, Nat.reduceEqDiff, Nat.reduceMul, Int.reduceToNat, ↓reduceIte, List.take_of_length_le, if_pos, if_neg, List.getElem?_set_self, List.set_set, cnE, cnV, Try.ntmps5, Try.results5,  h1, q1, h2, l1', l1, l2, l4, c1, c2, c3, c4, c4'])
              · have c4' : b.b < a.b := by omega
                by_cases c5 : 0 < (bothF (lineF a.b (a.st.getD 0 0) (a.sh.getD 0 0).toNat) (lineF b.b (a.st.getD 0 0) (a.sh.getD 0 0).toNat)).length
                · rw [decide_eq_true c5] at q3
                  rw [line_bwd hs c4' c5] at q1
                  repeat' (first | with_reducible first | refine kI (by kernel_rfl) ?_ | refine kN (by kernel_rfl) ?_ | (first | refine kB1 ?_ ?_ | refine kB2 ?_ ?_) <;> intro hp | (first | refine kD1 ?_ ?_ | refine kD2 ?_ ?_ | refine kS1 ?_ ?_ | refine kS2 ?_ ?_) <;> intro hp <;> try simp only [hp] | simp -implicitDefEqProofs (disch := omega) only [go_sem, Nat.reduceAdd, Nat.reduceSub, reduceCtorEq, Nat.reduceLT, Nat.reduceLeDiff, Nat.reduceEqDiff, Nat.reduceMul, Int.reduceToNat, ↓reduceIte, List.take_of_length_le, if_pos, if_neg, List.getElem?_set_self, List.set_set, cnE, cnV, Try.ntmps5, Try.results5,  h1, q1, h2, l1', l1, l2, l4, c1, c2, c3, c4, c4', h3, q3])
                · rw [decide_eq_false c5] at q3
                  rw [ea, eb] at hw'
                  generalize wayL (lineF a.b (a.st.getD 0 0) (a.sh.getD 0 0).toNat) (lineF b.b (a.st.getD 0 0) (a.sh.getD 0 0).toNat) = w at *
                  repeat' (first | with_reducible first | refine kI (by kernel_rfl) ?_ | refine kN (by kernel_rfl) ?_ | (first | refine kB1 ?_ ?_ | refine kB2 ?_ ?_) <;> intro hp | (first | refine kD1 ?_ ?_ | refine kD2 ?_ ?_ | refine kS1 ?_ ?_ | refine kS2 ?_ ?_) <;> intro hp <;> try simp only [hp] | simp -implicitDefEqProofs (disch := omega) only [go_sem, Nat.reduceAdd, Nat.reduceSub, reduceCtorEq, Nat.reduceLT, Nat.reduceLeDiff, Nat.reduceEqDiff, Nat.reduceMul, Int.reduceToNat, ↓reduceIte, List.take_of_length_le, if_pos, if_neg, List.getElem?_set_self, List.set_set, cnE, cnV, Try.ntmps5, Try.results5,  h1, q1, h2, hw', l1', l1, l2, l4, c1, c2, c3, c4, c4', h3, q3])
          · generalize wayL (offF a) (offF b) = w at *
            repeat' (first | with_reducible first | refine kI (by kernel_rfl) ?_ | refine kN (by kernel_rfl) ?_ | (first | refine kB1 ?_ ?_ | refine kB2 ?_ ?_) <;> intro hp | (first | refine kD1 ?_ ?_ | refine kD2 ?_ ?_ | refine kS1 ?_ ?_ | refine kS2 ?_ ?_) <;> intro hp <;> try simp only [hp] | simp -implicitDefEqProofs (disch := omega) only [go_sem, Nat.reduceAdd, Nat.reduceSub, reduceCtorEq, Nat.reduceLT, Nat.reduceLeDiff, Nat.reduceEqDiff, Nat.reduceMul, Int.reduceToNat, ↓reduceIte, List.take_of_length_le, if_pos, if_neg, List.getElem?_set_self, List.set_set, cnE, cnV, Try.ntmps5, Try.results5,  h1, q1, h2, hw', l1', l1, l2, l4, c1, c2])
      · have l1' : ((a.sh.length : Int) == 1) = false := beq_f (by omega)
        generalize wayL (offF a) (offF b) = w at *
        repeat' (first | with_reducible first | refine kI (by kernel_rfl) ?_ | refine kN (by kernel_rfl) ?_ | (first | refine kB1 ?_ ?_ | refine kB2 ?_ ?_) <;> intro hp | (first | refine kD1 ?_ ?_ | refine kD2 ?_ ?_ | refine kS1 ?_ ?_ | refine kS2 ?_ ?_) <;> intro hp <;> try simp only [hp] | simp -implicitDefEqProofs (disch := omega) only [go_sem, Nat.reduceAdd, Nat.reduceSub, reduceCtorEq, Nat.reduceLT, Nat.reduceLeDiff, Nat.reduceEqDiff, Nat.reduceMul, Int.reduceToNat, ↓reduceIte, List.take_of_length_le, if_pos, if_neg, List.getElem?_set_self, List.set_set, cnE, cnV, Try.ntmps5, Try.results5,  h1, q1, h2, hw', l1'])
    · rw [way_no hc] at q1
      repeat' (first | with_reducible first | refine kI (by kernel_rfl) ?_ | refine kN (by kernel_rfl) ?_ | (first | refine kB1 ?_ ?_ | refine kB2 ?_ ?_) <;> intro hp | (first | refine kD1 ?_ ?_ | refine kD2 ?_ ?_ | refine kS1 ?_ ?_ | refine kS2 ?_ ?_) <;> intro hp <;> try simp only [hp] | simp -implicitDefEqProofs (disch := omega) only [go_sem, Nat.reduceAdd, Nat.reduceSub, reduceCtorEq, Nat.reduceLT, Nat.reduceLeDiff, Nat.reduceEqDiff, Nat.reduceMul, Int.reduceToNat, ↓reduceIte, List.take_of_length_le, if_pos, if_neg, List.getElem?_set_self, List.set_set, cnE, cnV, Try.ntmps5, Try.results5,  h1, q1, h2])
end Go.Proofs.Ytgpflkmelindfaa
