/- Contracts of functions that the laws of this seat call. -/
import Derived.Test.YtjmkdnnfhphckaaMa
set_option linter.all false
namespace Go.Proofs.Ytjmkdnnfhphckaa
open Go Go.Ev Go.RowKit Go.Ev.Enc Go.Pl

def sprR (v : Vi) (S : List Int) : Vi × Bool := if viewOK v = true ∧ shapeOK S = true ∧ v.sh.length ≤ S.length ∧ sprC v S (S.length - v.sh.length) v.sh.length = true then (sprF v S, true) else (⟨0, [], []⟩, false)
def gSprT (v : Vi) (S : List Int) : Option (Vi × Bool) := gd (viB v ∧ S.length < 4294967296) (sprR v S)
theorem gSprT_eq {v : Vi} {S : List Int} (h : viB v ∧ S.length < 4294967296) : gSprT v S = some (sprR v S) := gd_eq h
theorem evApp_z4 {A B C D : Blk} {L : List Blk} {by' : Nat} {r : List Int} (h1 : r.length * by' ≤ 140737488355328) (h2 : r.length ≤ 9223372036854775807) :
    evApp (A :: B :: C :: D :: ⟨1, []⟩ :: L) (.sl 4 0 0 0 0) (r.map fun n => .int .i64 n) 1 by' = some (.sl 4 r.length 0 r.length r.length, A :: B :: C :: D :: ⟨1, r.map fun n => .int .i64 n⟩ :: L) := by
  rw [evApp_gen (b := 4) (n := 0) (q := []) rfl rfl (by simpa using h1) (by simpa using h2), List.length_map, Nat.zero_add]
  rfl
theorem bne_f {a b : Int} (h : a = b) : (a != b) = false := by subst h; simp
theorem bne_t {a b : Int} (h : ¬ a = b) : (a != b) = true := by simp [h]
set_option maxHeartbeats 4000000 in
set_option maxRecDepth 100000 in
theorem spec_SpreadToI {Sg : FuncId → Option (List AV → Option AV)} (hS : Sound Try.prog Sg) (hv : Sg 20 = some (F1 gValidV)) (hs : Sg 21 = some (F1 gIsShape)) (hct : Sg 27 = some (F1 gCountOf)) (n2 : Sg 22 = none) : ∀ a r, F2 gSprT a = some r → CSpec Try.prog 5 a r := by
  refine F2_spec ?_
  intro v S r hr0
  obtain ⟨⟨h1, h2⟩, rfl⟩ := gd_some hr0
  have hb1 := h1.1
  refine CSpec.intro Try.func5 rfl (own _) (vc3_sound Try.pf hS hS _ _ _ ?_)
  have q1 := gValidV_eq h1
  have q2 := gIsShape_eq h2
  have hw : IntKind.i64.wrap ((S.length : Int) - (v.sh.length : Int)) = (S.length : Int) - (v.sh.length : Int) := wrap_in (by omega)
  unfold sprR
  cases e1 : viewOK v with
  | false =>
    rw [e1] at q1
    rw [if_neg (by simp)]
    repeat' (first | with_reducible first | refine kI (by kernel_rfl) ?_ | refine kN (by kernel_rfl) ?_ | (first | refine kB1 ?_ ?_ | refine kB2 ?_ ?_) <;> intro hp | (first | refine kD1 ?_ ?_ | refine kD2 ?_ ?_ | refine kS1 ?_ ?_ | refine kS2 ?_ ?_) <;> intro hp <;> try simp only [hp] | simp -implicitDefEqProofs (disch := omega) only [go_sem, Nat.reduceAdd, Nat.reduceSub, reduceCtorEq, Nat.reduceLT, Nat.reduceLeDiff, Nat.reduceEqDiff, Nat.reduceMul, Int.reduceToNat, ↓reduceIte, List.take_of_length_le, if_pos, if_neg, getD_tsrs, fillA_len, fillA_at, fillA_full, evApp_z0, evApp_z1, evApp_z2, evApp_z3, evApp_i6, List.getElem?_set_self, List.set_set, getD_vis, cnE, Try.ntmps5, Try.results5,  hw, hv, q1])
    try rfl
  | true =>
    rw [e1] at q1
    cases e2 : shapeOK S with
    | false =>
      rw [e2] at q2
      rw [if_neg (by simp)]
      repeat' (first | with_reducible first | refine kI (by kernel_rfl) ?_ | refine kN (by kernel_rfl) ?_ | (first | refine kB1 ?_ ?_ | refine kB2 ?_ ?_) <;> intro hp | (first | refine kD1 ?_ ?_ | refine kD2 ?_ ?_ | refine kS1 ?_ ?_ | refine kS2 ?_ ?_) <;> intro hp <;> try simp only [hp] | simp -implicitDefEqProofs (disch := omega) only [go_sem, Nat.reduceAdd, Nat.reduceSub, reduceCtorEq, Nat.reduceLT, Nat.reduceLeDiff, Nat.reduceEqDiff, Nat.reduceMul, Int.reduceToNat, ↓reduceIte, List.take_of_length_le, if_pos, if_neg, getD_tsrs, fillA_len, fillA_at, fillA_full, evApp_z0, evApp_z1, evApp_z2, evApp_z3, evApp_i6, List.getElem?_set_self, List.set_set, getD_vis, cnE, Try.ntmps5, Try.results5,  hw, hv, q1, hs, q2])
      try rfl
    | true =>
      rw [e2] at q2
      by_cases e3 : v.sh.length ≤ S.length
      · obtain ⟨m, hm⟩ : ∃ m, S.length - v.sh.length = m := ⟨_, rfl⟩
        have hmS : m + v.sh.length = S.length := by omega
        have hw2 : (S.length : Int) - (v.sh.length : Int) = (m : Int) := by omega
        have hn : ¬ (m : Int) < 0 := by omega
        have hst := (vOK e1).2
        have s4 := (shape_facts e2).1
        unfold sprF
        rw [hm]
        rw [hw2] at hw
        repeat' (first | with_reducible first | refine kI (by kernel_rfl) ?_ | (first | refine kB1 ?_ ?_ | refine kB2 ?_ ?_) <;> intro hp | (first | refine kD1 ?_ ?_ | refine kD2 ?_ ?_ | refine kS1 ?_ ?_ | refine kS2 ?_ ?_) <;> intro hp <;> try simp only [hp] | simp -implicitDefEqProofs (disch := omega) only [go_sem, Nat.reduceAdd, Nat.reduceSub, reduceCtorEq, Nat.reduceLT, Nat.reduceLeDiff, Nat.reduceEqDiff, Nat.reduceMul, Int.reduceToNat, ↓reduceIte, List.take_of_length_le, if_pos, if_neg, getD_tsrs, fillA_len, fillA_at, fillA_full, evApp_z0, evApp_z1, evApp_z2, evApp_z3, evApp_i6, List.getElem?_set_self, List.set_set, getD_vis, cnE, Try.ntmps5, Try.results5,  hw2, hw, hv, q1, hs, q2, hn])
        have ez := fun (A B C : Blk) => evApp_z3 (B0 := A) (B1 := B) (B2 := C) (L := []) (by' := 8) (r := S) (by omega) (by omega)
        have ey := fun (A B : Blk) (L : List Blk) => evApp_z2 (B0 := A) (B1 := B) (L := L) (by' := 8) (r := S) (by omega) (by omega)
        refine DrawQ.parts 7 2 (by kernel_rfl) ?_ (DrawT.parts 7 4 (by kernel_rfl) ?_ ?_)
        · refine DrawT.pnd 9 25 [([0, 1, 3, 5, 6], 7, [0, 1, 3, 5, 6]), ([], 2, [0, 1, 3, 5, 6]), ([], 4, [0, 1, 3, 5, 6]), ([8, 9], 10, [0, 1, 3, 5, 6])] [] [0, 1, 3, 5, 6] rfl (by kernel_rfl) ?_
          repeat' (first | with_reducible first | refine kI (by kernel_rfl) ?_ | (first | refine kB1 ?_ ?_ | refine kB2 ?_ ?_) <;> intro hp | (first | refine kD1 ?_ ?_ | refine kD2 ?_ ?_ | refine kS1 ?_ ?_ | refine kS2 ?_ ?_) <;> intro hp <;> try simp only [hp] | simp -implicitDefEqProofs (disch := omega) only [go_sem, Nat.reduceAdd, Nat.reduceSub, reduceCtorEq, Nat.reduceLT, Nat.reduceLeDiff, Nat.reduceEqDiff, Nat.reduceMul, Int.reduceToNat, ↓reduceIte, List.take_of_length_le, if_pos, if_neg, getD_tsrs, fillA_len, fillA_at, fillA_full, evApp_z0, evApp_z1, evApp_z2, evApp_z3, evApp_i6, List.getElem?_set_self, List.set_set, getD_vis, cnE, Try.ntmps5, Try.results5,  ez, ey])
          refine LoopQ.mix (fun t0 L0 nn ss => ∃ (i : Nat) (_ : Unit), (∃ x : Nat → AV, ss = ⟨mixL 0 (.k :: .k :: .k :: .k :: .k :: .s :: .k :: .k :: .s :: .s :: .k :: .k :: .k :: .k :: .k :: .k :: .k :: .k :: .k :: .k :: .k :: .k :: .k :: .k :: .k :: .k :: .k :: .k :: .k :: .k :: .k :: .k :: .k :: .k :: .k :: .k :: .k :: .k :: .k :: .k :: .k :: .v (i64 (i : Nat)) :: .s :: .s :: .s :: .s :: .s :: .s :: .s :: .s :: .s :: .s :: .s :: .s :: .s :: .s :: .s :: .s :: .s :: .s :: .s :: .s :: .s :: .s :: .s :: .s :: .s :: .s :: .s :: .s :: .s :: .k :: .k :: []) t0 x, [⟨3, [.agg [i64 v.b, ints 0 v.sh, ints 0 v.st]]⟩, ⟨3, [.agg [i64 0, .nilS, .nilS]]⟩, stB (sprK v S m i), stB S, ⟨3, [.agg [i64 v.b, .sl 3 S.length 0 S.length S.length, .sl 2 S.length 0 S.length S.length]]⟩]⟩) ∧ (i ≤ v.sh.length) ∧ (sprC v S m i = true) ∧ nn = v.sh.length - i) ?_ ?_
          · exact ⟨_, ⟨0, (), mixJ rfl (by rw [sprK_0]), Nat.zero_le _, rfl, rfl⟩⟩
          · rintro I0 hI0 nn ss ⟨i, _, ⟨y, rfl⟩, g1, g2, rfl⟩
            by_cases hi : i < v.sh.length
            · have hii : (i : Int) < (v.sh.length : Int) := by omega
              have hmi : IntKind.i64.wrap ((m : Int) + (i : Int)) = ((m + i : Nat) : Int) := by rw [wrap_in (by omega)]; omega
              have hSi : m + i < S.length := by omega
              have hil : i < v.st.length := by omega
              have hkl := sprK_len v S m i
              by_cases c1 : v.sh.getD i 0 = S.getD (m + i) 0
              · have c1' : (v.sh.getD i 0 == S.getD (m + i) 0) = true := beq_t c1
                have hse := sprK_eq hSi c1
                have hls : (sprK v S m (i + 1)).length = S.length := sprK_len _ _ _ _
                have hkk : m + i < (sprK v S m i).length := by omega
                repeat' (first | with_reducible first | refine kI (by kernel_rfl) ?_ | (first | refine kB1 ?_ ?_ | refine kB2 ?_ ?_) <;> intro hp | (first | refine kD1 ?_ ?_ | refine kD2 ?_ ?_ | refine kS1 ?_ ?_ | refine kS2 ?_ ?_) <;> intro hp <;> try simp only [hp] | simp -implicitDefEqProofs (disch := omega) only [go_sem, Nat.reduceAdd, Nat.reduceSub, reduceCtorEq, Nat.reduceLT, Nat.reduceLeDiff, Nat.reduceEqDiff, Nat.reduceMul, Int.reduceToNat, ↓reduceIte, List.take_of_length_le, if_pos, if_neg, getD_tsrs, fillA_len, fillA_at, fillA_full, evApp_z0, evApp_z1, evApp_z2, evApp_z3, evApp_i6, List.getElem?_set_self, List.set_set, getD_vis, cnE, Try.ntmps5, Try.results5,  hw2, hii, getD_ints hi, hmi, getD_ints hSi, c1'])
                refine DrawQ.any [([0, 1, 2, 3, 4, 5, 6, 7, 8, 9, 10], 11)] [] [] (by kernel_rfl) ?_
                repeat' (first | with_reducible first | refine kI (by kernel_rfl) ?_ | (first | refine kB1 ?_ ?_ | refine kB2 ?_ ?_) <;> intro hp | (first | refine kD1 ?_ ?_ | refine kD2 ?_ ?_ | refine kS1 ?_ ?_ | refine kS2 ?_ ?_) <;> intro hp <;> try simp only [hp] | simp -implicitDefEqProofs (disch := omega) only [go_sem, Nat.reduceAdd, Nat.reduceSub, reduceCtorEq, Nat.reduceLT, Nat.reduceLeDiff, Nat.reduceEqDiff, Nat.reduceMul, Int.reduceToNat, ↓reduceIte, List.take_of_length_le, if_pos, if_neg, getD_tsrs, fillA_len, fillA_at, fillA_full, evApp_z0, evApp_z1, evApp_z2, evApp_z3, evApp_i6, List.getElem?_set_self, List.set_set, getD_vis, cnE, Try.ntmps5, Try.results5,  hw2, hmi, getD_ints hil, map_setI, hkl, ← hse])
                exact ⟨v.sh.length - (i + 1), by omega, hI0 _ _ ⟨i + 1, (), mixI rfl, hi, (by rw [sprC_s, g2, decide_eq_true c1]; rfl), rfl⟩⟩
              · have c1' : (v.sh.getD i 0 == S.getD (m + i) 0) = false := beq_f c1
                have hse := sprK_ne (m := m) c1
                by_cases c2 : v.sh.getD i 0 = 1
                · have c2' : (v.sh.getD i 0 != 1) = false := bne_f c2
                  rw [← hse]
                  repeat' (first | with_reducible first | refine kI (by kernel_rfl) ?_ | (first | refine kB1 ?_ ?_ | refine kB2 ?_ ?_) <;> intro hp | (first | refine kD1 ?_ ?_ | refine kD2 ?_ ?_ | refine kS1 ?_ ?_ | refine kS2 ?_ ?_) <;> intro hp <;> try simp only [hp] | simp -implicitDefEqProofs (disch := omega) only [go_sem, Nat.reduceAdd, Nat.reduceSub, reduceCtorEq, Nat.reduceLT, Nat.reduceLeDiff, Nat.reduceEqDiff, Nat.reduceMul, Int.reduceToNat, ↓reduceIte, List.take_of_length_le, if_pos, if_neg, getD_tsrs, fillA_len, fillA_at, fillA_full, evApp_z0, evApp_z1, evApp_z2, evApp_z3, evApp_i6, List.getElem?_set_self, List.set_set, getD_vis, cnE, Try.ntmps5, Try.results5,  hw2, hii, getD_ints hi, hmi, getD_ints hSi, c1', c2'])
                  exact ⟨v.sh.length - (i + 1), by omega, hI0 _ _ ⟨i + 1, (), mixI rfl, hi, (by rw [sprC_s, g2, decide_eq_true c2, Bool.or_true]; rfl), rfl⟩⟩
                · have c2' : (v.sh.getD i 0 != 1) = true := bne_t c2
                  rw [if_neg (by rw [sprC_no hi c1 c2]; simp)]
                  repeat' (first | with_reducible first | refine kI (by kernel_rfl) ?_ | (first | refine kB1 ?_ ?_ | refine kB2 ?_ ?_) <;> intro hp | (first | refine kD1 ?_ ?_ | refine kD2 ?_ ?_ | refine kS1 ?_ ?_ | refine kS2 ?_ ?_) <;> intro hp <;> try simp only [hp] | simp -implicitDefEqProofs (disch := omega) only [go_sem, Nat.reduceAdd, Nat.reduceSub, reduceCtorEq, Nat.reduceLT, Nat.reduceLeDiff, Nat.reduceEqDiff, Nat.reduceMul, Int.reduceToNat, ↓reduceIte, List.take_of_length_le, if_pos, if_neg, getD_tsrs, fillA_len, fillA_at, fillA_full, evApp_z0, evApp_z1, evApp_z2, evApp_z3, evApp_i6, List.getElem?_set_self, List.set_set, getD_vis, cnE, Try.ntmps5, Try.results5,  hw2, hii, getD_ints hi, hmi, getD_ints hSi, c1', c2'])
                  try rfl
            · obtain rfl : i = v.sh.length := by omega
              rw [if_pos ⟨e3, g2⟩]
              repeat' (first | with_reducible first | refine kI (by kernel_rfl) ?_ | (first | refine kB1 ?_ ?_ | refine kB2 ?_ ?_) <;> intro hp | (first | refine kD1 ?_ ?_ | refine kD2 ?_ ?_ | refine kS1 ?_ ?_ | refine kS2 ?_ ?_) <;> intro hp <;> try simp only [hp] | simp -implicitDefEqProofs (disch := omega) only [go_sem, Nat.reduceAdd, Nat.reduceSub, reduceCtorEq, Nat.reduceLT, Nat.reduceLeDiff, Nat.reduceEqDiff, Nat.reduceMul, Int.reduceToNat, ↓reduceIte, List.take_of_length_le, if_pos, if_neg, getD_tsrs, fillA_len, fillA_at, fillA_full, evApp_z0, evApp_z1, evApp_z2, evApp_z3, evApp_i6, List.getElem?_set_self, List.set_set, getD_vis, cnE, Try.ntmps5, Try.results5,  n2, opQ_none])
              refine InlK_intro rfl rfl can_cleared ((isp_cleared hS hct ⟨v.b, S, sprK v S m v.sh.length⟩ 3 2 _ rfl rfl (by dsimp only; omega) rfl (sprK_len _ _ _ _)).mono ?_)
              rintro r L1 ⟨X, c, m1, rfl, hL1, m2, m3⟩
              rw [← hL1] at m2 m3
              have h1' : L1[1]? = some ⟨3, [.agg [.int .i64 0, .nilS, .nilS]]⟩ := by rw [hL1]; rfl
              have hlt := (List.getElem?_eq_some_iff.1 h1').1
              clear hL1
              generalize tidyF _ = T at *
              have e2 : ∀ k, (L1.set 1 k)[1]? = some k := fun k => by rw [List.getElem?_set_self hlt]
              have e3 : ∀ k, (L1.set 1 k)[3]? = some (stB T.sh) := fun k => by rw [List.getElem?_set_ne (by omega), m2]
              have ec : ∀ k, (L1.set 1 k)[c]? = some (stB T.st) := fun k => by rw [List.getElem?_set_ne (by omega), m3]
              repeat' (first | with_reducible first | refine kI (by kernel_rfl) ?_ | (first | refine kB1 ?_ ?_ | refine kB2 ?_ ?_) <;> intro hp | (first | refine kD1 ?_ ?_ | refine kD2 ?_ ?_ | refine kS1 ?_ ?_ | refine kS2 ?_ ?_) <;> intro hp <;> try simp only [hp] | simp -implicitDefEqProofs (disch := omega) only [go_sem, Nat.reduceAdd, Nat.reduceSub, reduceCtorEq, Nat.reduceLT, Nat.reduceLeDiff, Nat.reduceEqDiff, Nat.reduceMul, Int.reduceToNat, ↓reduceIte, List.take_of_length_le, if_pos, if_neg, getD_tsrs, fillA_len, fillA_at, fillA_full, evApp_z0, evApp_z1, evApp_z2, evApp_z3, evApp_i6, List.getElem?_set_self, List.set_set, getD_vis, cnE, Try.ntmps5, Try.results5,  h1', e2, e3, ec])
              try rfl
        · refine DrawT.pnd 9 25 [([0, 1, 3, 5, 6], 2, [0, 1, 3, 5, 6]), ([], 7, [0, 1, 3, 5, 6]), ([], 4, [0, 1, 3, 5, 6]), ([8, 9], 10, [0, 1, 3, 5, 6])] [] [0, 1, 3, 5, 6] rfl (by kernel_rfl) ?_
          repeat' (first | with_reducible first | refine kI (by kernel_rfl) ?_ | (first | refine kB1 ?_ ?_ | refine kB2 ?_ ?_) <;> intro hp | (first | refine kD1 ?_ ?_ | refine kD2 ?_ ?_ | refine kS1 ?_ ?_ | refine kS2 ?_ ?_) <;> intro hp <;> try simp only [hp] | simp -implicitDefEqProofs (disch := omega) only [go_sem, Nat.reduceAdd, Nat.reduceSub, reduceCtorEq, Nat.reduceLT, Nat.reduceLeDiff, Nat.reduceEqDiff, Nat.reduceMul, Int.reduceToNat, ↓reduceIte, List.take_of_length_le, if_pos, if_neg, getD_tsrs, fillA_len, fillA_at, fillA_full, evApp_z0, evApp_z1, evApp_z2, evApp_z3, evApp_i6, List.getElem?_set_self, List.set_set, getD_vis, cnE, Try.ntmps5, Try.results5,  ez, ey])
          refine LoopQ.mix (fun t0 L0 nn ss => ∃ (i : Nat) (_ : Unit), (∃ x : Nat → AV, ss = ⟨mixL 0 (.k :: .k :: .k :: .k :: .k :: .s :: .k :: .k :: .s :: .s :: .k :: .k :: .k :: .k :: .k :: .k :: .k :: .k :: .k :: .k :: .k :: .k :: .k :: .k :: .k :: .k :: .k :: .k :: .k :: .k :: .k :: .k :: .k :: .k :: .k :: .k :: .k :: .k :: .k :: .k :: .k :: .v (i64 (i : Nat)) :: .s :: .s :: .s :: .s :: .s :: .s :: .s :: .s :: .s :: .s :: .s :: .s :: .s :: .s :: .s :: .s :: .s :: .s :: .s :: .s :: .s :: .s :: .s :: .s :: .s :: .s :: .s :: .s :: .s :: .k :: .k :: []) t0 x, [⟨3, [.agg [i64 v.b, ints 0 v.sh, ints 0 v.st]]⟩, ⟨3, [.agg [i64 0, .nilS, .nilS]]⟩, stB S, stB (sprK v S m i), ⟨3, [.agg [i64 v.b, .sl 2 S.length 0 S.length S.length, .sl 3 S.length 0 S.length S.length]]⟩]⟩) ∧ (i ≤ v.sh.length) ∧ (sprC v S m i = true) ∧ nn = v.sh.length - i) ?_ ?_
          · exact ⟨_, ⟨0, (), mixJ rfl (by rw [sprK_0]), Nat.zero_le _, rfl, rfl⟩⟩
          · rintro I0 hI0 nn ss ⟨i, _, ⟨y, rfl⟩, g1, g2, rfl⟩
            by_cases hi : i < v.sh.length
            · have hii : (i : Int) < (v.sh.length : Int) := by omega
              have hmi : IntKind.i64.wrap ((m : Int) + (i : Int)) = ((m + i : Nat) : Int) := by rw [wrap_in (by omega)]; omega
              have hSi : m + i < S.length := by omega
              have hil : i < v.st.length := by omega
              have hkl := sprK_len v S m i
              by_cases c1 : v.sh.getD i 0 = S.getD (m + i) 0
              · have c1' : (v.sh.getD i 0 == S.getD (m + i) 0) = true := beq_t c1
                have hse := sprK_eq hSi c1
                have hls : (sprK v S m (i + 1)).length = S.length := sprK_len _ _ _ _
                have hkk : m + i < (sprK v S m i).length := by omega
                repeat' (first | with_reducible first | refine kI (by kernel_rfl) ?_ | (first | refine kB1 ?_ ?_ | refine kB2 ?_ ?_) <;> intro hp | (first | refine kD1 ?_ ?_ | refine kD2 ?_ ?_ | refine kS1 ?_ ?_ | refine kS2 ?_ ?_) <;> intro hp <;> try simp only [hp] | simp -implicitDefEqProofs (disch := omega) only [go_sem, Nat.reduceAdd, Nat.reduceSub, reduceCtorEq, Nat.reduceLT, Nat.reduceLeDiff, Nat.reduceEqDiff, Nat.reduceMul, Int.reduceToNat, ↓reduceIte, List.take_of_length_le, if_pos, if_neg, getD_tsrs, fillA_len, fillA_at, fillA_full, evApp_z0, evApp_z1, evApp_z2, evApp_z3, evApp_i6, List.getElem?_set_self, List.set_set, getD_vis, cnE, Try.ntmps5, Try.results5,  hw2, hii, getD_ints hi, hmi, getD_ints hSi, c1'])
                refine DrawQ.any [([0, 1, 2, 3, 4, 5, 6, 7, 8, 9, 10], 11)] [] [] (by kernel_rfl) ?_
                repeat' (first | with_reducible first | refine kI (by kernel_rfl) ?_ | (first | refine kB1 ?_ ?_ | refine kB2 ?_ ?_) <;> intro hp | (first | refine kD1 ?_ ?_ | refine kD2 ?_ ?_ | refine kS1 ?_ ?_ | refine kS2 ?_ ?_) <;> intro hp <;> try simp only [hp] | simp -implicitDefEqProofs (disch := omega) only [go_sem, Nat.reduceAdd, Nat.reduceSub, reduceCtorEq, Nat.reduceLT, Nat.reduceLeDiff, Nat.reduceEqDiff, Nat.reduceMul, Int.reduceToNat, ↓reduceIte, List.take_of_length_le, if_pos, if_neg, getD_tsrs, fillA_len, fillA_at, fillA_full, evApp_z0, evApp_z1, evApp_z2, evApp_z3, evApp_i6, List.getElem?_set_self, List.set_set, getD_vis, cnE, Try.ntmps5, Try.results5,  hw2, hmi, getD_ints hil, map_setI, hkl, ← hse])
                exact ⟨v.sh.length - (i + 1), by omega, hI0 _ _ ⟨i + 1, (), mixI rfl, hi, (by rw [sprC_s, g2, decide_eq_true c1]; rfl), rfl⟩⟩
              · have c1' : (v.sh.getD i 0 == S.getD (m + i) 0) = false := beq_f c1
                have hse := sprK_ne (m := m) c1
                by_cases c2 : v.sh.getD i 0 = 1
                · have c2' : (v.sh.getD i 0 != 1) = false := bne_f c2
                  rw [← hse]
                  repeat' (first | with_reducible first | refine kI (by kernel_rfl) ?_ | (first | refine kB1 ?_ ?_ | refine kB2 ?_ ?_) <;> intro hp | (first | refine kD1 ?_ ?_ | refine kD2 ?_ ?_ | refine kS1 ?_ ?_ | refine kS2 ?_ ?_) <;> intro hp <;> try simp only [hp] | simp -implicitDefEqProofs (disch := omega) only [go_sem, Nat.reduceAdd, Nat.reduceSub, reduceCtorEq, Nat.reduceLT, Nat.reduceLeDiff, Nat.reduceEqDiff, Nat.reduceMul, Int.reduceToNat, ↓reduceIte, List.take_of_length_le, if_pos, if_neg, getD_tsrs, fillA_len, fillA_at, fillA_full, evApp_z0, evApp_z1, evApp_z2, evApp_z3, evApp_i6, List.getElem?_set_self, List.set_set, getD_vis, cnE, Try.ntmps5, Try.results5,  hw2, hii, getD_ints hi, hmi, getD_ints hSi, c1', c2'])
                  exact ⟨v.sh.length - (i + 1), by omega, hI0 _ _ ⟨i + 1, (), mixI rfl, hi, (by rw [sprC_s, g2, decide_eq_true c2, Bool.or_true]; rfl), rfl⟩⟩
                · have c2' : (v.sh.getD i 0 != 1) = true := bne_t c2
                  rw [if_neg (by rw [sprC_no hi c1 c2]; simp)]
                  repeat' (first | with_reducible first | refine kI (by kernel_rfl) ?_ | (first | refine kB1 ?_ ?_ | refine kB2 ?_ ?_) <;> intro hp | (first | refine kD1 ?_ ?_ | refine kD2 ?_ ?_ | refine kS1 ?_ ?_ | refine kS2 ?_ ?_) <;> intro hp <;> try simp only [hp] | simp -implicitDefEqProofs (disch := omega) only [go_sem, Nat.reduceAdd, Nat.reduceSub, reduceCtorEq, Nat.reduceLT, Nat.reduceLeDiff, Nat.reduceEqDiff, Nat.reduceMul, Int.reduceToNat, ↓reduceIte, List.take_of_length_le, if_pos, if_neg, getD_tsrs, fillA_len, fillA_at, fillA_full, evApp_z0, evApp_z1, evApp_z2, evApp_z3, evApp_i6, List.getElem?_set_self, List.set_set, getD_vis, cnE, Try.ntmps5, Try.results5,  hw2, hii, getD_ints hi, hmi, getD_ints hSi, c1', c2'])
                  try rfl
            · obtain rfl : i = v.sh.length := by omega
              rw [if_pos ⟨e3, g2⟩]
              repeat' (first | with_reducible first | refine kI (by kernel_rfl) ?_ | (first | refine kB1 ?_ ?_ | refine kB2 ?_ ?_) <;> intro hp | (first | refine kD1 ?_ ?_ | refine kD2 ?_ ?_ | refine kS1 ?_ ?_ | refine kS2 ?_ ?_) <;> intro hp <;> try simp only [hp] | simp -implicitDefEqProofs (disch := omega) only [go_sem, Nat.reduceAdd, Nat.reduceSub, reduceCtorEq, Nat.reduceLT, Nat.reduceLeDiff, Nat.reduceEqDiff, Nat.reduceMul, Int.reduceToNat, ↓reduceIte, List.take_of_length_le, if_pos, if_neg, getD_tsrs, fillA_len, fillA_at, fillA_full, evApp_z0, evApp_z1, evApp_z2, evApp_z3, evApp_i6, List.getElem?_set_self, List.set_set, getD_vis, cnE, Try.ntmps5, Try.results5,  n2, opQ_none])
              refine InlK_intro rfl rfl can_cleared ((isp_cleared hS hct ⟨v.b, S, sprK v S m v.sh.length⟩ 2 3 _ rfl rfl (by dsimp only; omega) rfl (sprK_len _ _ _ _)).mono ?_)
              rintro r L1 ⟨X, c, m1, rfl, hL1, m2, m3⟩
              rw [← hL1] at m2 m3
              have h1' : L1[1]? = some ⟨3, [.agg [.int .i64 0, .nilS, .nilS]]⟩ := by rw [hL1]; rfl
              have hlt := (List.getElem?_eq_some_iff.1 h1').1
              clear hL1
              generalize tidyF _ = T at *
              have e2 : ∀ k, (L1.set 1 k)[1]? = some k := fun k => by rw [List.getElem?_set_self hlt]
              have e3 : ∀ k, (L1.set 1 k)[2]? = some (stB T.sh) := fun k => by rw [List.getElem?_set_ne (by omega), m2]
              have ec : ∀ k, (L1.set 1 k)[c]? = some (stB T.st) := fun k => by rw [List.getElem?_set_ne (by omega), m3]
              repeat' (first | with_reducible first | refine kI (by kernel_rfl) ?_ | (first | refine kB1 ?_ ?_ | refine kB2 ?_ ?_) <;> intro hp | (first | refine kD1 ?_ ?_ | refine kD2 ?_ ?_ | refine kS1 ?_ ?_ | refine kS2 ?_ ?_) <;> intro hp <;> try simp only [hp] | simp -implicitDefEqProofs (disch := omega) only [go_sem, Nat.reduceAdd, Nat.reduceSub, reduceCtorEq, Nat.reduceLT, Nat.reduceLeDiff, Nat.reduceEqDiff, Nat.reduceMul, Int.reduceToNat, ↓reduceIte, List.take_of_length_le, if_pos, if_neg, getD_tsrs, fillA_len, fillA_at, fillA_full, evApp_z0, evApp_z1, evApp_z2, evApp_z3, evApp_i6, List.getElem?_set_self, List.set_set, getD_vis, cnE, Try.ntmps5, Try.results5,  h1', e2, e3, ec])
              try rfl
        · refine DrawT.pnd 9 25 [([0, 1, 3, 5, 6], 2, [0, 1, 3, 5, 6]), ([], 4, [0, 1, 3, 5, 6]), ([], 7, [0, 1, 3, 5, 6]), ([8, 9], 10, [0, 1, 3, 5, 6])] [] [0, 1, 3, 5, 6] rfl (by kernel_rfl) ?_
          repeat' (first | with_reducible first | refine kI (by kernel_rfl) ?_ | (first | refine kB1 ?_ ?_ | refine kB2 ?_ ?_) <;> intro hp | (first | refine kD1 ?_ ?_ | refine kD2 ?_ ?_ | refine kS1 ?_ ?_ | refine kS2 ?_ ?_) <;> intro hp <;> try simp only [hp] | simp -implicitDefEqProofs (disch := omega) only [go_sem, Nat.reduceAdd, Nat.reduceSub, reduceCtorEq, Nat.reduceLT, Nat.reduceLeDiff, Nat.reduceEqDiff, Nat.reduceMul, Int.reduceToNat, ↓reduceIte, List.take_of_length_le, if_pos, if_neg, getD_tsrs, fillA_len, fillA_at, fillA_full, evApp_z0, evApp_z1, evApp_z2, evApp_z3, evApp_i6, List.getElem?_set_self, List.set_set, getD_vis, cnE, Try.ntmps5, Try.results5,  ez, ey])
          refine LoopQ.mix (fun t0 L0 nn ss => ∃ (i : Nat) (_ : Unit), (∃ x : Nat → AV, ss = ⟨mixL 0 (.k :: .k :: .k :: .k :: .k :: .s :: .k :: .k :: .s :: .s :: .k :: .k :: .k :: .k :: .k :: .k :: .k :: .k :: .k :: .k :: .k :: .k :: .k :: .k :: .k :: .k :: .k :: .k :: .k :: .k :: .k :: .k :: .k :: .k :: .k :: .k :: .k :: .k :: .k :: .k :: .k :: .v (i64 (i : Nat)) :: .s :: .s :: .s :: .s :: .s :: .s :: .s :: .s :: .s :: .s :: .s :: .s :: .s :: .s :: .s :: .s :: .s :: .s :: .s :: .s :: .s :: .s :: .s :: .s :: .s :: .s :: .s :: .s :: .s :: .k :: .k :: []) t0 x, [⟨3, [.agg [i64 v.b, ints 0 v.sh, ints 0 v.st]]⟩, ⟨3, [.agg [i64 0, .nilS, .nilS]]⟩, stB S, stB (sprK v S m i), ⟨3, [.agg [i64 v.b, .sl 2 S.length 0 S.length S.length, .sl 3 S.length 0 S.length S.length]]⟩]⟩) ∧ (i ≤ v.sh.length) ∧ (sprC v S m i = true) ∧ nn = v.sh.length - i) ?_ ?_
          · exact ⟨_, ⟨0, (), mixJ rfl (by rw [sprK_0]), Nat.zero_le _, rfl, rfl⟩⟩
          · rintro I0 hI0 nn ss ⟨i, _, ⟨y, rfl⟩, g1, g2, rfl⟩
            by_cases hi : i < v.sh.length
            · have hii : (i : Int) < (v.sh.length : Int) := by omega
              have hmi : IntKind.i64.wrap ((m : Int) + (i : Int)) = ((m + i : Nat) : Int) := by rw [wrap_in (by omega)]; omega
              have hSi : m + i < S.length := by omega
              have hil : i < v.st.length := by omega
              have hkl := sprK_len v S m i
              by_cases c1 : v.sh.getD i 0 = S.getD (m + i) 0
              · have c1' : (v.sh.getD i 0 == S.getD (m + i) 0) = true := beq_t c1
                have hse := sprK_eq hSi c1
                have hls : (sprK v S m (i + 1)).length = S.length := sprK_len _ _ _ _
                have hkk : m + i < (sprK v S m i).length := by omega
                repeat' (first | with_reducible first | refine kI (by kernel_rfl) ?_ | (first | refine kB1 ?_ ?_ | refine kB2 ?_ ?_) <;> intro hp | (first | refine kD1 ?_ ?_ | refine kD2 ?_ ?_ | refine kS1 ?_ ?_ | refine kS2 ?_ ?_) <;> intro hp <;> try simp only [hp] | simp -implicitDefEqProofs (disch := omega) only [go_sem, Nat.reduceAdd, Nat.reduceSub, reduceCtorEq, Nat.reduceLT, Nat.reduceLeDiff, Nat.reduceEqDiff, Nat.reduceMul, Int.reduceToNat, ↓reduceIte, List.take_of_length_le, if_pos, if_neg, getD_tsrs, fillA_len, fillA_at, fillA_full, evApp_z0, evApp_z1, evApp_z2, evApp_z3, evApp_i6, List.getElem?_set_self, List.set_set, getD_vis, cnE, Try.ntmps5, Try.results5,  hw2, hii, getD_ints hi, hmi, getD_ints hSi, c1'])
                refine DrawQ.any [([0, 1, 2, 3, 4, 5, 6, 7, 8, 9, 10], 11)] [] [] (by kernel_rfl) ?_
                repeat' (first | with_reducible first | refine kI (by kernel_rfl) ?_ | (first | refine kB1 ?_ ?_ | refine kB2 ?_ ?_) <;> intro hp | (first | refine kD1 ?_ ?_ | refine kD2 ?_ ?_ | refine kS1 ?_ ?_ | refine kS2 ?_ ?_) <;> intro hp <;> try simp only [hp] | simp -implicitDefEqProofs (disch := omega) only [go_sem, Nat.reduceAdd, Nat.reduceSub, reduceCtorEq, Nat.reduceLT, Nat.reduceLeDiff, Nat.reduceEqDiff, Nat.reduceMul, Int.reduceToNat, ↓reduceIte, List.take_of_length_le, if_pos, if_neg, getD_tsrs, fillA_len, fillA_at, fillA_full, evApp_z0, evApp_z1, evApp_z2, evApp_z3, evApp_i6, List.getElem?_set_self, List.set_set, getD_vis, cnE, Try.ntmps5, Try.results5,  hw2, hmi, getD_ints hil, map_setI, hkl, ← hse])
                exact ⟨v.sh.length - (i + 1), by omega, hI0 _ _ ⟨i + 1, (), mixI rfl, hi, (by rw [sprC_s, g2, decide_eq_true c1]; rfl), rfl⟩⟩
              · have c1' : (v.sh.getD i 0 == S.getD (m + i) 0) = false := beq_f c1
                have hse := sprK_ne (m := m) c1
                by_cases c2 : v.sh.getD i 0 = 1
                · have c2' : (v.sh.getD i 0 != 1) = false := bne_f c2
                  rw [← hse]
                  repeat' (first | with_reducible first | refine kI (by kernel_rfl) ?_ | (first | refine kB1 ?_ ?_ | refine kB2 ?_ ?_) <;> intro hp | (first | refine kD1 ?_ ?_ | refine kD2 ?_ ?_ | refine kS1 ?_ ?_ | refine kS2 ?_ ?_) <;> intro hp <;> try simp only [hp] | simp -implicitDefEqProofs (disch := omega) only [go_sem, Nat.reduceAdd, Nat.reduceSub, reduceCtorEq, Nat.reduceLT, Nat.reduceLeDiff, Nat.reduceEqDiff, Nat.reduceMul, Int.reduceToNat, ↓reduceIte, List.take_of_length_le, if_pos, if_neg, getD_tsrs, fillA_len, fillA_at, fillA_full, evApp_z0, evApp_z1, evApp_z2, evApp_z3, evApp_i6, List.getElem?_set_self, List.set_set, getD_vis, cnE, Try.ntmps5, Try.results5,  hw2, hii, getD_ints hi, hmi, getD_ints hSi, c1', c2'])
                  exact ⟨v.sh.length - (i + 1), by omega, hI0 _ _ ⟨i + 1, (), mixI rfl, hi, (by rw [sprC_s, g2, decide_eq_true c2, Bool.or_true]; rfl), rfl⟩⟩
                · have c2' : (v.sh.getD i 0 != 1) = true := bne_t c2
                  rw [if_neg (by rw [sprC_no hi c1 c2]; simp)]
                  repeat' (first | with_reducible first | refine kI (by kernel_rfl) ?_ | (first | refine kB1 ?_ ?_ | refine kB2 ?_ ?_) <;> intro hp | (first | refine kD1 ?_ ?_ | refine kD2 ?_ ?_ | refine kS1 ?_ ?_ | refine kS2 ?_ ?_) <;> intro hp <;> try simp only [hp] | simp -implicitDefEqProofs (disch := omega) only [go_sem, Nat.reduceAdd, Nat.reduceSub, reduceCtorEq, Nat.reduceLT, Nat.reduceLeDiff, Nat.reduceEqDiff, Nat.reduceMul, Int.reduceToNat, ↓reduceIte, List.take_of_length_le, if_pos, if_neg, getD_tsrs, fillA_len, fillA_at, fillA_full, evApp_z0, evApp_z1, evApp_z2, evApp_z3, evApp_i6, List.getElem?_set_self, List.set_set, getD_vis, cnE, Try.ntmps5, Try.results5,  hw2, hii, getD_ints hi, hmi, getD_ints hSi, c1', c2'])
                  try rfl
            · obtain rfl : i = v.sh.length := by omega
              rw [if_pos ⟨e3, g2⟩]
              repeat' (first | with_reducible first | refine kI (by kernel_rfl) ?_ | (first | refine kB1 ?_ ?_ | refine kB2 ?_ ?_) <;> intro hp | (first | refine kD1 ?_ ?_ | refine kD2 ?_ ?_ | refine kS1 ?_ ?_ | refine kS2 ?_ ?_) <;> intro hp <;> try simp only [hp] | simp -implicitDefEqProofs (disch := omega) only [go_sem, Nat.reduceAdd, Nat.reduceSub, reduceCtorEq, Nat.reduceLT, Nat.reduceLeDiff, Nat.reduceEqDiff, Nat.reduceMul, Int.reduceToNat, ↓reduceIte, List.take_of_length_le, if_pos, if_neg, getD_tsrs, fillA_len, fillA_at, fillA_full, evApp_z0, evApp_z1, evApp_z2, evApp_z3, evApp_i6, List.getElem?_set_self, List.set_set, getD_vis, cnE, Try.ntmps5, Try.results5,  n2, opQ_none])
              refine InlK_intro rfl rfl can_cleared ((isp_cleared hS hct ⟨v.b, S, sprK v S m v.sh.length⟩ 2 3 _ rfl rfl (by dsimp only; omega) rfl (sprK_len _ _ _ _)).mono ?_)
              rintro r L1 ⟨X, c, m1, rfl, hL1, m2, m3⟩
              rw [← hL1] at m2 m3
              have h1' : L1[1]? = some ⟨3, [.agg [.int .i64 0, .nilS, .nilS]]⟩ := by rw [hL1]; rfl
              have hlt := (List.getElem?_eq_some_iff.1 h1').1
              clear hL1
              generalize tidyF _ = T at *
              have e2 : ∀ k, (L1.set 1 k)[1]? = some k := fun k => by rw [List.getElem?_set_self hlt]
              have e3 : ∀ k, (L1.set 1 k)[2]? = some (stB T.sh) := fun k => by rw [List.getElem?_set_ne (by omega), m2]
              have ec : ∀ k, (L1.set 1 k)[c]? = some (stB T.st) := fun k => by rw [List.getElem?_set_ne (by omega), m3]
              repeat' (first | with_reducible first | refine kI (by kernel_rfl) ?_ | (first | refine kB1 ?_ ?_ | refine kB2 ?_ ?_) <;> intro hp | (first | refine kD1 ?_ ?_ | refine kD2 ?_ ?_ | refine kS1 ?_ ?_ | refine kS2 ?_ ?_) <;> intro hp <;> try simp only [hp] | simp -implicitDefEqProofs (disch := omega) only [go_sem, Nat.reduceAdd, Nat.reduceSub, reduceCtorEq, Nat.reduceLT, Nat.reduceLeDiff, Nat.reduceEqDiff, Nat.reduceMul, Int.reduceToNat, ↓reduceIte, List.take_of_length_le, if_pos, if_neg, getD_tsrs, fillA_len, fillA_at, fillA_full, evApp_z0, evApp_z1, evApp_z2, evApp_z3, evApp_i6, List.getElem?_set_self, List.set_set, getD_vis, cnE, Try.ntmps5, Try.results5,  h1', e2, e3, ec])
              try rfl
      · have hn : (S.length : Int) - (v.sh.length : Int) < 0 := by omega
        rw [if_neg (fun h => e3 h.2.2.1)]
        repeat' (first | with_reducible first | refine kI (by kernel_rfl) ?_ | refine kN (by kernel_rfl) ?_ | (first | refine kB1 ?_ ?_ | refine kB2 ?_ ?_) <;> intro hp | (first | refine kD1 ?_ ?_ | refine kD2 ?_ ?_ | refine kS1 ?_ ?_ | refine kS2 ?_ ?_) <;> intro hp <;> try simp only [hp] | simp -implicitDefEqProofs (disch := omega) only [go_sem, Nat.reduceAdd, Nat.reduceSub, reduceCtorEq, Nat.reduceLT, Nat.reduceLeDiff, Nat.reduceEqDiff, Nat.reduceMul, Int.reduceToNat, ↓reduceIte, List.take_of_length_le, if_pos, if_neg, getD_tsrs, fillA_len, fillA_at, fillA_full, evApp_z0, evApp_z1, evApp_z2, evApp_z3, evApp_i6, List.getElem?_set_self, List.set_set, getD_vis, cnE, Try.ntmps5, Try.results5,  hw, hv, q1, hs, q2, hn])
        try rfl
end Go.Proofs.Ytjmkdnnfhphckaa
