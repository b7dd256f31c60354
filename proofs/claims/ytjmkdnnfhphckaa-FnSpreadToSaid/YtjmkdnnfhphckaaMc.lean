/- Contracts of functions that the laws of this seat call. -/
import Derived.Test.YtjmkdnnfhphckaaMb
set_option linter.all false
namespace Go.Proofs.Ytjmkdnnfhphckaa
open Go Go.Ev Go.RowKit Go.Ev.Enc Go.Pl

def sprD (v : Vi) (S : List Int) : Vi × Bool :=
  if v.sh.length ≤ S.length then (if sprC v S (S.length - v.sh.length) v.sh.length = true then (sprF v S, true) else (⟨0, [], []⟩, false))
  else (tidyF ⟨v.b, S, List.replicate S.length 0⟩, false)
def gSprd (v : Vi) (S : List Int) : Option (Vi × Bool) := gd (viewOK v = true ∧ shapeOK S = true) (sprD v S)
theorem gSprd_eq {v : Vi} {S : List Int} (h : viewOK v = true ∧ shapeOK S = true) : gSprd v S = some (sprD v S) := gd_eq h
set_option maxHeartbeats 4000000 in
set_option maxRecDepth 100000 in
theorem spec_spread {Sg : FuncId → Option (List AV → Option AV)} (hS : Sound Try.prog Sg) (hct : Sg 40 = some (F1 gCount)) (hcp : Sg 15 = some (F1 gCopyInts)) : ∀ a r, F2 gSprd a = some r → CSpec Try.prog 25 a r := by
  refine F2_spec ?_
  intro v S r hr0
  obtain ⟨⟨e1, e2⟩, rfl⟩ := gd_some hr0
  refine CSpec.intro Try.func25 rfl (own _) (vc3_sound Try.pf hS hS _ _ _ ?_)
  have hvb := ok_viB e1
  have hst := (vOK e1).2
  have s4 := (shape_facts e2).1
  have v4 := (shape_facts (vOK e1).1).1
  have q3 := gCount_eq (l := S) (by omega)
  have hw : IntKind.i64.wrap ((S.length : Int) - (v.sh.length : Int)) = (S.length : Int) - (v.sh.length : Int) := wrap_in (by omega)
  have htr : List.take S.length (List.replicate S.length (0 : Int)) = List.replicate S.length 0 := List.take_of_length_le (by simp)
  unfold sprD
  have q4 := gCopyInts_eq (l := S) (by omega)
  repeat' (first | with_reducible first | refine kI (by kernel_rfl) ?_ | (first | refine kB1 ?_ ?_ | refine kB2 ?_ ?_) <;> intro hp | (first | refine kD1 ?_ ?_ | refine kD2 ?_ ?_ | refine kS1 ?_ ?_ | refine kS2 ?_ ?_) <;> intro hp <;> try simp only [hp] | simp -implicitDefEqProofs (disch := omega) only [go_sem, Nat.reduceAdd, Nat.reduceSub, reduceCtorEq, Nat.reduceLT, Nat.reduceLeDiff, Nat.reduceEqDiff, Nat.reduceMul, Int.reduceToNat, ↓reduceIte, List.take_of_length_le, if_pos, if_neg, getD_tsrs, fillA_len, fillA_at, fillA_full, evApp_z0, evApp_z1, evApp_z2, evApp_z3, evApp_i6, List.getElem?_set_self, List.set_set, getD_vis, cnE, Try.ntmps25, Try.results25])
  refine DrawQ.pend 8 25 [([0, 1, 2, 3, 4, 5], 6, [0, 1, 2, 3]), ([7, 8], 9, [0, 1, 2, 3])] [] [0, 1, 2, 3] rfl (by kernel_rfl) ?_
  repeat' (first | with_reducible first | refine kI (by kernel_rfl) ?_ | (first | refine kB1 ?_ ?_ | refine kB2 ?_ ?_) <;> intro hp | (first | refine kD1 ?_ ?_ | refine kD2 ?_ ?_ | refine kS1 ?_ ?_ | refine kS2 ?_ ?_) <;> intro hp <;> try simp only [hp] | simp -implicitDefEqProofs (disch := omega) only [go_sem, Nat.reduceAdd, Nat.reduceSub, reduceCtorEq, Nat.reduceLT, Nat.reduceLeDiff, Nat.reduceEqDiff, Nat.reduceMul, Int.reduceToNat, ↓reduceIte, List.take_of_length_le, if_pos, if_neg, getD_tsrs, fillA_len, fillA_at, fillA_full, evApp_z0, evApp_z1, evApp_z2, evApp_z3, evApp_i6, List.getElem?_set_self, List.set_set, getD_vis, cnE, Try.ntmps25, Try.results25,  hcp, q4])
  by_cases e3 : v.sh.length ≤ S.length
  · rw [if_pos e3]
    obtain ⟨m, hm⟩ : ∃ m, S.length - v.sh.length = m := ⟨_, rfl⟩
    have hmS : m + v.sh.length = S.length := by omega
    have hw2 : (S.length : Int) - (v.sh.length : Int) = (m : Int) := by omega
    have hn : 0 ≤ (m : Int) := by omega
    unfold sprF
    rw [hm]
    rw [hw2] at hw
    repeat' (first | with_reducible first | refine kI (by kernel_rfl) ?_ | (first | refine kB1 ?_ ?_ | refine kB2 ?_ ?_) <;> intro hp | (first | refine kD1 ?_ ?_ | refine kD2 ?_ ?_ | refine kS1 ?_ ?_ | refine kS2 ?_ ?_) <;> intro hp <;> try simp only [hp] | simp -implicitDefEqProofs (disch := omega) only [go_sem, Nat.reduceAdd, Nat.reduceSub, reduceCtorEq, Nat.reduceLT, Nat.reduceLeDiff, Nat.reduceEqDiff, Nat.reduceMul, Int.reduceToNat, ↓reduceIte, List.take_of_length_le, if_pos, if_neg, getD_tsrs, fillA_len, fillA_at, fillA_full, evApp_z0, evApp_z1, evApp_z2, evApp_z3, evApp_i6, List.getElem?_set_self, List.set_set, getD_vis, cnE, Try.ntmps25, Try.results25,  hw2, hw])
    refine LoopQ.mix (fun t0 L0 nn ss => ∃ (i : Nat) (_ : Unit), (∃ x : Nat → AV, ss = ⟨mixL 0 (.k :: .k :: .k :: .k :: .k :: .s :: .k :: .k :: .v (i64 (i : Nat)) :: .k :: .k :: .k :: .k :: .k :: .k :: .k :: .k :: .k :: .k :: .k :: .k :: .k :: .k :: .s :: .s :: .s :: .s :: .s :: .s :: .s :: .s :: .s :: .s :: .s :: .s :: .s :: .s :: .s :: .s :: .s :: .s :: .s :: .s :: .s :: .s :: .s :: .s :: .s :: .s :: .s :: .s :: .s :: .s :: .s :: .s :: .s :: .s :: .s :: .s :: .s :: .s :: .s :: .s :: .s :: .s :: .s :: .k :: .k :: .k :: .k :: .k :: .k :: .k :: .k :: .k :: .k :: .k :: []) t0 x, [⟨3, [.agg [i64 v.b, ints 0 v.sh, ints 0 v.st]]⟩, ⟨3, [.agg [i64 0, .nilS, .nilS]]⟩, stB (sprK v S m i), ⟨3, [.agg [i64 v.b, ints 1 S, .sl 2 S.length 0 S.length S.length]]⟩]⟩) ∧ (i ≤ v.sh.length) ∧ (sprC v S m i = true) ∧ nn = v.sh.length - i) ?_ ?_
    · exact ⟨_, ⟨0, (), mixJ rfl (by rw [sprK_0]), Nat.zero_le _, rfl, rfl⟩⟩
    · rintro I0 hI0 nn ss ⟨i, _, ⟨y, rfl⟩, g1, g2, rfl⟩
      by_cases hi : i < v.sh.length
      · have hii : (i : Int) < (v.sh.length : Int) := by omega
        have hmi : IntKind.i64.wrap ((m : Int) + (i : Int)) = ((m + i : Nat) : Int) := by rw [wrap_in (by omega)]; omega
        have hSi : m + i < S.length := by omega
        have hil : i < v.st.length := by omega
        have hkl := sprK_len v S m i
        by_cases c1 : v.sh.getD i 0 = S.getD (m + i) 0
        · have c1' : (v.sh.getD i 0 == S.getD (m + i) 0) = true := beq_t c1
          have hse := sprK_eq hSi c1
          have hkk : m + i < (sprK v S m i).length := by omega
          repeat' (first | with_reducible first | refine kI (by kernel_rfl) ?_ | (first | refine kB1 ?_ ?_ | refine kB2 ?_ ?_) <;> intro hp | (first | refine kD1 ?_ ?_ | refine kD2 ?_ ?_ | refine kS1 ?_ ?_ | refine kS2 ?_ ?_) <;> intro hp <;> try simp only [hp] | simp -implicitDefEqProofs (disch := omega) only [go_sem, Nat.reduceAdd, Nat.reduceSub, reduceCtorEq, Nat.reduceLT, Nat.reduceLeDiff, Nat.reduceEqDiff, Nat.reduceMul, Int.reduceToNat, ↓reduceIte, List.take_of_length_le, if_pos, if_neg, getD_tsrs, fillA_len, fillA_at, fillA_full, evApp_z0, evApp_z1, evApp_z2, evApp_z3, evApp_i6, List.getElem?_set_self, List.set_set, getD_vis, cnE, Try.ntmps25, Try.results25,  hw2, hii, hn])
          refine DrawQ.nat (by kernel_rfl) ?_
          repeat' (first | with_reducible first | refine kI (by kernel_rfl) ?_ | (first | refine kB1 ?_ ?_ | refine kB2 ?_ ?_) <;> intro hp | (first | refine kD1 ?_ ?_ | refine kD2 ?_ ?_ | refine kS1 ?_ ?_ | refine kS2 ?_ ?_) <;> intro hp <;> try simp only [hp] | simp -implicitDefEqProofs (disch := omega) only [go_sem, Nat.reduceAdd, Nat.reduceSub, reduceCtorEq, Nat.reduceLT, Nat.reduceLeDiff, Nat.reduceEqDiff, Nat.reduceMul, Int.reduceToNat, ↓reduceIte, List.take_of_length_le, if_pos, if_neg, getD_tsrs, fillA_len, fillA_at, fillA_full, evApp_z0, evApp_z1, evApp_z2, evApp_z3, evApp_i6, List.getElem?_set_self, List.set_set, getD_vis, cnE, Try.ntmps25, Try.results25,  hw2, getD_ints hi, hmi, getD_ints hSi, c1'])
          refine DrawQ.any [([0, 1, 2, 3, 4, 5, 6, 7, 8, 9, 10], 11)] [] [] (by kernel_rfl) ?_
          repeat' (first | with_reducible first | refine kI (by kernel_rfl) ?_ | (first | refine kB1 ?_ ?_ | refine kB2 ?_ ?_) <;> intro hp | (first | refine kD1 ?_ ?_ | refine kD2 ?_ ?_ | refine kS1 ?_ ?_ | refine kS2 ?_ ?_) <;> intro hp <;> try simp only [hp] | simp -implicitDefEqProofs (disch := omega) only [go_sem, Nat.reduceAdd, Nat.reduceSub, reduceCtorEq, Nat.reduceLT, Nat.reduceLeDiff, Nat.reduceEqDiff, Nat.reduceMul, Int.reduceToNat, ↓reduceIte, List.take_of_length_le, if_pos, if_neg, getD_tsrs, fillA_len, fillA_at, fillA_full, evApp_z0, evApp_z1, evApp_z2, evApp_z3, evApp_i6, List.getElem?_set_self, List.set_set, getD_vis, cnE, Try.ntmps25, Try.results25,  hw2, hmi, getD_ints hil, map_setI, hkl, ← hse])
          exact ⟨v.sh.length - (i + 1), by omega, hI0 _ _ ⟨i + 1, (), mixI rfl, hi, (by rw [sprC_s, g2, decide_eq_true c1]; rfl), rfl⟩⟩
        · have c1' : (v.sh.getD i 0 == S.getD (m + i) 0) = false := beq_f c1
          have hse := sprK_ne (m := m) c1
          by_cases c2 : v.sh.getD i 0 = 1
          · have c2' : (v.sh.getD i 0 != 1) = false := bne_f c2
            rw [← hse]
            repeat' (first | with_reducible first | refine kI (by kernel_rfl) ?_ | (first | refine kB1 ?_ ?_ | refine kB2 ?_ ?_) <;> intro hp | (first | refine kD1 ?_ ?_ | refine kD2 ?_ ?_ | refine kS1 ?_ ?_ | refine kS2 ?_ ?_) <;> intro hp <;> try simp only [hp] | simp -implicitDefEqProofs (disch := omega) only [go_sem, Nat.reduceAdd, Nat.reduceSub, reduceCtorEq, Nat.reduceLT, Nat.reduceLeDiff, Nat.reduceEqDiff, Nat.reduceMul, Int.reduceToNat, ↓reduceIte, List.take_of_length_le, if_pos, if_neg, getD_tsrs, fillA_len, fillA_at, fillA_full, evApp_z0, evApp_z1, evApp_z2, evApp_z3, evApp_i6, List.getElem?_set_self, List.set_set, getD_vis, cnE, Try.ntmps25, Try.results25,  hw2, hii, hn])
            refine DrawQ.nat (by kernel_rfl) ?_
            repeat' (first | with_reducible first | refine kI (by kernel_rfl) ?_ | (first | refine kB1 ?_ ?_ | refine kB2 ?_ ?_) <;> intro hp | (first | refine kD1 ?_ ?_ | refine kD2 ?_ ?_ | refine kS1 ?_ ?_ | refine kS2 ?_ ?_) <;> intro hp <;> try simp only [hp] | simp -implicitDefEqProofs (disch := omega) only [go_sem, Nat.reduceAdd, Nat.reduceSub, reduceCtorEq, Nat.reduceLT, Nat.reduceLeDiff, Nat.reduceEqDiff, Nat.reduceMul, Int.reduceToNat, ↓reduceIte, List.take_of_length_le, if_pos, if_neg, getD_tsrs, fillA_len, fillA_at, fillA_full, evApp_z0, evApp_z1, evApp_z2, evApp_z3, evApp_i6, List.getElem?_set_self, List.set_set, getD_vis, cnE, Try.ntmps25, Try.results25,  hw2, getD_ints hi, hmi, getD_ints hSi, c1', c2'])
            exact ⟨v.sh.length - (i + 1), by omega, hI0 _ _ ⟨i + 1, (), mixI rfl, hi, (by rw [sprC_s, g2, decide_eq_true c2, Bool.or_true]; rfl), rfl⟩⟩
          · have c2' : (v.sh.getD i 0 != 1) = true := bne_t c2
            rw [if_neg (by rw [sprC_no hi c1 c2]; simp)]
            repeat' (first | with_reducible first | refine kI (by kernel_rfl) ?_ | (first | refine kB1 ?_ ?_ | refine kB2 ?_ ?_) <;> intro hp | (first | refine kD1 ?_ ?_ | refine kD2 ?_ ?_ | refine kS1 ?_ ?_ | refine kS2 ?_ ?_) <;> intro hp <;> try simp only [hp] | simp -implicitDefEqProofs (disch := omega) only [go_sem, Nat.reduceAdd, Nat.reduceSub, reduceCtorEq, Nat.reduceLT, Nat.reduceLeDiff, Nat.reduceEqDiff, Nat.reduceMul, Int.reduceToNat, ↓reduceIte, List.take_of_length_le, if_pos, if_neg, getD_tsrs, fillA_len, fillA_at, fillA_full, evApp_z0, evApp_z1, evApp_z2, evApp_z3, evApp_i6, List.getElem?_set_self, List.set_set, getD_vis, cnE, Try.ntmps25, Try.results25,  hw2, hii, hn])
            refine DrawQ.nat (by kernel_rfl) ?_
            repeat' (first | with_reducible first | refine kI (by kernel_rfl) ?_ | (first | refine kB1 ?_ ?_ | refine kB2 ?_ ?_) <;> intro hp | (first | refine kD1 ?_ ?_ | refine kD2 ?_ ?_ | refine kS1 ?_ ?_ | refine kS2 ?_ ?_) <;> intro hp <;> try simp only [hp] | simp -implicitDefEqProofs (disch := omega) only [go_sem, Nat.reduceAdd, Nat.reduceSub, reduceCtorEq, Nat.reduceLT, Nat.reduceLeDiff, Nat.reduceEqDiff, Nat.reduceMul, Int.reduceToNat, ↓reduceIte, List.take_of_length_le, if_pos, if_neg, getD_tsrs, fillA_len, fillA_at, fillA_full, evApp_z0, evApp_z1, evApp_z2, evApp_z3, evApp_i6, List.getElem?_set_self, List.set_set, getD_vis, cnE, Try.ntmps25, Try.results25,  hw2, getD_ints hi, hmi, getD_ints hSi, c1', c2'])
            try rfl
      · obtain rfl : i = v.sh.length := by omega
        rw [if_pos g2]
        have hkl := sprK_len v S m v.sh.length
        unfold tidyF
        by_cases z : prodW S = 0
        · have z' : (prodW S == 0) = true := beq_t z
          rw [if_pos z]
          repeat' (first | with_reducible first | refine kI (by kernel_rfl) ?_ | (first | refine kB1 ?_ ?_ | refine kB2 ?_ ?_) <;> intro hp | (first | refine kD1 ?_ ?_ | refine kD2 ?_ ?_ | refine kS1 ?_ ?_ | refine kS2 ?_ ?_) <;> intro hp <;> try simp only [hp] | simp -implicitDefEqProofs (disch := omega) only [go_sem, Nat.reduceAdd, Nat.reduceSub, reduceCtorEq, Nat.reduceLT, Nat.reduceLeDiff, Nat.reduceEqDiff, Nat.reduceMul, Int.reduceToNat, ↓reduceIte, List.take_of_length_le, if_pos, if_neg, getD_tsrs, fillA_len, fillA_at, fillA_full, evApp_z0, evApp_z1, evApp_z2, evApp_z3, evApp_i6, List.getElem?_set_self, List.set_set, getD_vis, cnE, Try.ntmps25, Try.results25,  hn, hct, q3, z', hkl, htr])
          try rfl
        · have z' : (prodW S == 0) = false := beq_f z
          rw [if_neg z]
          repeat' (first | with_reducible first | refine kI (by kernel_rfl) ?_ | (first | refine kB1 ?_ ?_ | refine kB2 ?_ ?_) <;> intro hp | (first | refine kD1 ?_ ?_ | refine kD2 ?_ ?_ | refine kS1 ?_ ?_ | refine kS2 ?_ ?_) <;> intro hp <;> try simp only [hp] | simp -implicitDefEqProofs (disch := omega) only [go_sem, Nat.reduceAdd, Nat.reduceSub, reduceCtorEq, Nat.reduceLT, Nat.reduceLeDiff, Nat.reduceEqDiff, Nat.reduceMul, Int.reduceToNat, ↓reduceIte, List.take_of_length_le, if_pos, if_neg, getD_tsrs, fillA_len, fillA_at, fillA_full, evApp_z0, evApp_z1, evApp_z2, evApp_z3, evApp_i6, List.getElem?_set_self, List.set_set, getD_vis, cnE, Try.ntmps25, Try.results25,  hn, hct, q3, z', hkl, htr])
          try rfl
  · rw [if_neg e3]
    have hn : ¬ 0 ≤ (S.length : Int) - (v.sh.length : Int) := by omega
    have h0 : (0 : Int) < (v.sh.length : Int) := by omega
    refine LoopQ.mix (fun t0 L0 nn ss => ∃ (i : Nat) (_ : Unit), (∃ x : Nat → AV, ss = ⟨mixL 0 (.k :: .k :: .k :: .k :: .k :: .s :: .k :: .k :: .v (i64 0) :: .k :: .k :: .k :: .k :: .k :: .k :: .k :: .k :: .k :: .k :: .k :: .k :: .k :: .k :: .s :: .s :: .s :: .s :: .s :: .s :: .s :: .s :: .s :: .s :: .s :: .s :: .s :: .s :: .s :: .s :: .s :: .s :: .s :: .s :: .s :: .s :: .s :: .s :: .s :: .s :: .s :: .s :: .s :: .s :: .s :: .s :: .s :: .s :: .s :: .s :: .s :: .s :: .s :: .s :: .s :: .s :: .s :: .k :: .k :: .k :: .k :: .k :: .k :: .k :: .k :: .k :: .k :: .k :: []) t0 x, [⟨3, [.agg [i64 v.b, ints 0 v.sh, ints 0 v.st]]⟩, ⟨3, [.agg [i64 0, .nilS, .nilS]]⟩, stB (List.replicate S.length 0), ⟨3, [.agg [i64 v.b, ints 1 S, .sl 2 S.length 0 S.length S.length]]⟩]⟩) ∧ (i ≤ 0) ∧ nn = 0 - i) ?_ ?_
    · exact ⟨_, ⟨0, (), mixJ rfl (by simp [stB]), Nat.le_refl _, rfl⟩⟩
    · rintro I0 hI0 nn ss ⟨i, _, ⟨y, rfl⟩, g1, rfl⟩
      unfold tidyF
      by_cases z : prodW S = 0
      · have z' : (prodW S == 0) = true := beq_t z
        rw [if_pos z]
        repeat' (first | with_reducible first | refine kI (by kernel_rfl) ?_ | (first | refine kB1 ?_ ?_ | refine kB2 ?_ ?_) <;> intro hp | (first | refine kD1 ?_ ?_ | refine kD2 ?_ ?_ | refine kS1 ?_ ?_ | refine kS2 ?_ ?_) <;> intro hp <;> try simp only [hp] | simp -implicitDefEqProofs (disch := omega) only [go_sem, Nat.reduceAdd, Nat.reduceSub, reduceCtorEq, Nat.reduceLT, Nat.reduceLeDiff, Nat.reduceEqDiff, Nat.reduceMul, Int.reduceToNat, ↓reduceIte, List.take_of_length_le, if_pos, if_neg, getD_tsrs, fillA_len, fillA_at, fillA_full, evApp_z0, evApp_z1, evApp_z2, evApp_z3, evApp_i6, List.getElem?_set_self, List.set_set, getD_vis, cnE, Try.ntmps25, Try.results25,  hn, h0, hct, q3, z', htr])
        try rfl
      · have z' : (prodW S == 0) = false := beq_f z
        rw [if_neg z]
        repeat' (first | with_reducible first | refine kI (by kernel_rfl) ?_ | (first | refine kB1 ?_ ?_ | refine kB2 ?_ ?_) <;> intro hp | (first | refine kD1 ?_ ?_ | refine kD2 ?_ ?_ | refine kS1 ?_ ?_ | refine kS2 ?_ ?_) <;> intro hp <;> try simp only [hp] | simp -implicitDefEqProofs (disch := omega) only [go_sem, Nat.reduceAdd, Nat.reduceSub, reduceCtorEq, Nat.reduceLT, Nat.reduceLeDiff, Nat.reduceEqDiff, Nat.reduceMul, Int.reduceToNat, ↓reduceIte, List.take_of_length_le, if_pos, if_neg, getD_tsrs, fillA_len, fillA_at, fillA_full, evApp_z0, evApp_z1, evApp_z2, evApp_z3, evApp_i6, List.getElem?_set_self, List.set_set, getD_vis, cnE, Try.ntmps25, Try.results25,  hn, h0, hct, q3, z', htr])
        try rfl
def sprO (v : Vi) (S : List Int) : Option Vi := if viewOK v = true ∧ shapeOK S = true ∧ v.sh.length ≤ S.length ∧ sprC v S (S.length - v.sh.length) v.sh.length = true then some (sprF v S) else none
theorem spr_some {v : Vi} {S : List Int} : sprO v S = if (sprR v S).2 = true then some (sprR v S).1 else none := by
  unfold sprO sprR
  by_cases h : viewOK v = true ∧ shapeOK S = true ∧ v.sh.length ≤ S.length ∧ sprC v S (S.length - v.sh.length) v.sh.length = true
  · rw [if_pos h, if_pos h]; rfl
  · rw [if_neg h, if_neg h]; rfl
theorem can_SpreadTo : CanCall Try.prog 6 := ⟨_, Try.func6, rfl, rfl⟩
set_option maxHeartbeats 4000000 in
set_option maxRecDepth 100000 in
theorem o_SpreadTo {Sg : FuncId → Option (List AV → Option AV)} (hS : Sound Try.prog Sg) (hv : Sg 23 = some (F1 gValidV)) (hs : Sg 24 = some (F1 gIsShape)) (hsp : Sg 25 = some (F2 gSprd)) (n2 : Sg 26 = none) (v : Vi) (S : List Int) (h : viB v ∧ S.length < 4294967296) (hmade : MadeV) : OSpec Try.prog 6 [.agg [i64 v.b, ints 0 v.sh, ints 0 v.st], ints 0 S] (mdR (sprO v S)) (mdN (sprO v S)) := by
  refine OSpec.intro Try.func6 rfl (vc3_sound Try.pf hS hS _ _ _ ?_)
  have q1 := gValidV_eq h.1
  have q2 := gIsShape_eq h.2
  unfold sprO
  cases e1 : viewOK v with
  | false =>
    rw [e1] at q1
    rw [if_neg (by simp)]
    repeat' (first | with_reducible first | refine kI (by kernel_rfl) ?_ | (first | refine kB1 ?_ ?_ | refine kB2 ?_ ?_) <;> intro hp | (first | refine kD1 ?_ ?_ | refine kD2 ?_ ?_ | refine kS1 ?_ ?_ | refine kS2 ?_ ?_) <;> intro hp <;> try simp only [hp] | simp -implicitDefEqProofs (disch := omega) only [go_sem, Nat.reduceAdd, Nat.reduceSub, reduceCtorEq, Nat.reduceLT, Nat.reduceLeDiff, Nat.reduceEqDiff, Nat.reduceMul, Int.reduceToNat, ↓reduceIte, List.take_of_length_le, if_pos, if_neg, getD_tsrs, fillA_len, fillA_at, fillA_full, evApp_z0, evApp_z1, evApp_z2, evApp_z3, evApp_i6, List.getElem?_set_self, List.set_set, getD_vis, cnE, Try.ntmps6, Try.results6,  hv, q1])
    exact own_md0
  | true =>
    rw [e1] at q1
    cases e2 : shapeOK S with
    | false =>
      rw [e2] at q2
      rw [if_neg (by simp)]
      repeat' (first | with_reducible first | refine kI (by kernel_rfl) ?_ | (first | refine kB1 ?_ ?_ | refine kB2 ?_ ?_) <;> intro hp | (first | refine kD1 ?_ ?_ | refine kD2 ?_ ?_ | refine kS1 ?_ ?_ | refine kS2 ?_ ?_) <;> intro hp <;> try simp only [hp] | simp -implicitDefEqProofs (disch := omega) only [go_sem, Nat.reduceAdd, Nat.reduceSub, reduceCtorEq, Nat.reduceLT, Nat.reduceLeDiff, Nat.reduceEqDiff, Nat.reduceMul, Int.reduceToNat, ↓reduceIte, List.take_of_length_le, if_pos, if_neg, getD_tsrs, fillA_len, fillA_at, fillA_full, evApp_z0, evApp_z1, evApp_z2, evApp_z3, evApp_i6, List.getElem?_set_self, List.set_set, getD_vis, cnE, Try.ntmps6, Try.results6,  hv, q1, hs, q2])
      exact own_md0
    | true =>
      rw [e2] at q2
      have q3 := gSprd_eq ⟨e1, e2⟩
      unfold sprD at q3
      by_cases e3 : v.sh.length ≤ S.length
      · rw [if_pos e3] at q3
        cases e4 : sprC v S (S.length - v.sh.length) v.sh.length with
        | true =>
          rw [e4, if_pos rfl] at q3
          rw [if_pos ⟨rfl, rfl, e3, rfl⟩]
          have hok := spr_ok e1 e2 e3 e4
          obtain ⟨w, hw⟩ : ∃ w, sprF v S = w := ⟨_, rfl⟩
          rw [hw] at q3 hok ⊢
          have hwb := ok_viB hok
          have w4 := (shape_facts (vOK hok).1).1
          have w5 := (vOK hok).2
          repeat' (first | with_reducible first | refine kI (by kernel_rfl) ?_ | (first | refine kB1 ?_ ?_ | refine kB2 ?_ ?_) <;> intro hp | (first | refine kD1 ?_ ?_ | refine kD2 ?_ ?_ | refine kS1 ?_ ?_ | refine kS2 ?_ ?_) <;> intro hp <;> try simp only [hp] | simp -implicitDefEqProofs (disch := omega) only [go_sem, Nat.reduceAdd, Nat.reduceSub, reduceCtorEq, Nat.reduceLT, Nat.reduceLeDiff, Nat.reduceEqDiff, Nat.reduceMul, Int.reduceToNat, ↓reduceIte, List.take_of_length_le, if_pos, if_neg, getD_tsrs, fillA_len, fillA_at, fillA_full, evApp_z0, evApp_z1, evApp_z2, evApp_z3, evApp_i6, List.getElem?_set_self, List.set_set, getD_vis, cnE, Try.ntmps6, Try.results6,  hv, q1, hs, q2, hsp, q3, n2, opQ_none])
          refine InlK_intro rfl rfl can_made ((hmade w ⟨by omega, by omega⟩).call (by simp only [go_sem, ints]) ?_)
          have hm : madeF w = some w := by unfold madeF; rw [if_pos hok]
          rw [hm]
          repeat' (first | with_reducible first | refine kI (by kernel_rfl) ?_ | (first | refine kB1 ?_ ?_ | refine kB2 ?_ ?_) <;> intro hp | (first | refine kD1 ?_ ?_ | refine kD2 ?_ ?_ | refine kS1 ?_ ?_ | refine kS2 ?_ ?_) <;> intro hp <;> try simp only [hp] | simp -implicitDefEqProofs (disch := omega) only [go_sem, Nat.reduceAdd, Nat.reduceSub, reduceCtorEq, Nat.reduceLT, Nat.reduceLeDiff, Nat.reduceEqDiff, Nat.reduceMul, Int.reduceToNat, ↓reduceIte, List.take_of_length_le, if_pos, if_neg, getD_tsrs, fillA_len, fillA_at, fillA_full, evApp_z0, evApp_z1, evApp_z2, evApp_z3, evApp_i6, List.getElem?_set_self, List.set_set, getD_vis, cnE, Try.ntmps6, Try.results6,  mdR, mdN])
          exact own_md (b := 3) (c := 4) rfl rfl (by decide)
        | false =>
          rw [e4, if_neg (by simp)] at q3
          rw [if_neg (by simp)]
          repeat' (first | with_reducible first | refine kI (by kernel_rfl) ?_ | (first | refine kB1 ?_ ?_ | refine kB2 ?_ ?_) <;> intro hp | (first | refine kD1 ?_ ?_ | refine kD2 ?_ ?_ | refine kS1 ?_ ?_ | refine kS2 ?_ ?_) <;> intro hp <;> try simp only [hp] | simp -implicitDefEqProofs (disch := omega) only [go_sem, Nat.reduceAdd, Nat.reduceSub, reduceCtorEq, Nat.reduceLT, Nat.reduceLeDiff, Nat.reduceEqDiff, Nat.reduceMul, Int.reduceToNat, ↓reduceIte, List.take_of_length_le, if_pos, if_neg, getD_tsrs, fillA_len, fillA_at, fillA_full, evApp_z0, evApp_z1, evApp_z2, evApp_z3, evApp_i6, List.getElem?_set_self, List.set_set, getD_vis, cnE, Try.ntmps6, Try.results6,  hv, q1, hs, q2, hsp, q3])
          exact own_md0
      · rw [if_neg e3] at q3
        rw [if_neg (fun h => e3 h.2.2.1)]
        generalize tidyF _ = T at q3
        repeat' (first | with_reducible first | refine kI (by kernel_rfl) ?_ | (first | refine kB1 ?_ ?_ | refine kB2 ?_ ?_) <;> intro hp | (first | refine kD1 ?_ ?_ | refine kD2 ?_ ?_ | refine kS1 ?_ ?_ | refine kS2 ?_ ?_) <;> intro hp <;> try simp only [hp] | simp -implicitDefEqProofs (disch := omega) only [go_sem, Nat.reduceAdd, Nat.reduceSub, reduceCtorEq, Nat.reduceLT, Nat.reduceLeDiff, Nat.reduceEqDiff, Nat.reduceMul, Int.reduceToNat, ↓reduceIte, List.take_of_length_le, if_pos, if_neg, getD_tsrs, fillA_len, fillA_at, fillA_full, evApp_z0, evApp_z1, evApp_z2, evApp_z3, evApp_i6, List.getElem?_set_self, List.set_set, getD_vis, cnE, Try.ntmps6, Try.results6,  hv, q1, hs, q2, hsp, q3])
        exact own_md0
end Go.Proofs.Ytjmkdnnfhphckaa
