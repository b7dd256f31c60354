/- Contracts of functions that the laws of this seat call. -/
import Derived.Test.YtjmkdnnfhphckaaMe
set_option linter.all false
namespace Go.Proofs.Ytjmkdnnfhphckaa
open Go Go.Ev Go.RowKit Go.Ev.Enc Go.Pl

theorem xE_ints (n : Nat) (L : List Blk) (t : Nat) (l : List Int) : expE (gcC n L) (ints t l) = ints t l := by
  simp [gcC, gcStep, expE, ints, Function.comp_def]
attribute [go_sem] xE_ints
def DrSpr (f : FuncId) : Prop := ∀ (bs : List UInt8), bs.length ≤ 1048576 → ∀ L : List Blk, ISpec Try.prog f [bytesA 0 bs] L fun r L' => ∃ (v : Vi) (S : List Int) (t : Nat), viOK v ∧ S.length ≤ 10 ∧ r = .tup [viD v, ints t S] ∧ L' = L
theorem can_DrawSpreadTo : CanCall Try.prog 4 := ⟨_, Try.func4, rfl, rfl⟩
def SprV : Prop := ∀ (v : Vi) (S : List Int), (viB v ∧ S.length < 4294967296) → OSpec Try.prog 6 [.agg [i64 v.b, ints 0 v.sh, ints 0 v.st], ints 0 S] (mdR (sprO v S)) (mdN (sprO v S))
set_option maxHeartbeats 8000000 in
set_option maxRecDepth 100000 in
theorem law_SpreadTo {Sg Sd : FuncId → Option (List AV → Option AV)} (hS : Sound Try.prog Sg) (hD : Sound Try.prog Sd) (n1 : Sg 4 = none) (n2 : Sg 6 = none) (n3 : Sg 9 = none) (h1 : Sg 5 = some (F2 gSprT)) (h2 : Sg 7 = some (F2 gEqV)) (h4 : Sg 8 = some (F1 gCountT)) (h5 : Sg 10 = some (F2 gOffAt)) (h6 : Sg 12 = some (F2 gCov)) (h7 : Sg 11 = some (F2 gEqInts)) (hDr : DrSpr 4) (hsp : SprV) (hix : IxAt) : ∀ a r, F1 gTrueW a = some r → CSpec Try.prog 3 a r := by
  refine F1_spec ?_
  intro bs r hr
  obtain ⟨g1, rfl⟩ := gd_some hr
  refine law3 Try.func3 rfl Try.pf hS hD ?_
  by_cases hb : 1048576 < bs.length
  · repeat' (first | with_reducible first | refine kI (by kernel_rfl) ?_ | refine kN (by kernel_rfl) ?_ | (first | refine kB1 ?_ ?_ | refine kB2 ?_ ?_) <;> intro hp | (first | refine kD1 ?_ ?_ | refine kD2 ?_ ?_ | refine kS1 ?_ ?_ | refine kS2 ?_ ?_) <;> intro hp <;> try simp only [hp] | simp -implicitDefEqProofs (disch := omega) only [go_sem, Nat.reduceAdd, Nat.reduceSub, reduceCtorEq, Nat.reduceLT, Nat.reduceLeDiff, Nat.reduceEqDiff, Nat.reduceMul, Int.reduceToNat, ↓reduceIte, List.take_of_length_le, if_pos, if_neg, getD_tsrs, fillA_len, fillA_at, fillA_full, evApp_z0, evApp_z1, evApp_z2, evApp_z3, evApp_i6, List.getElem?_set_self, List.set_set, getD_vis, cnE, Try.ntmps3, Try.results3])
  · repeat' (first | with_reducible first | refine kI (by kernel_rfl) ?_ | refine kN (by kernel_rfl) ?_ | (first | refine kB1 ?_ ?_ | refine kB2 ?_ ?_) <;> intro hp | (first | refine kD1 ?_ ?_ | refine kD2 ?_ ?_ | refine kS1 ?_ ?_ | refine kS2 ?_ ?_) <;> intro hp <;> try simp only [hp] | simp -implicitDefEqProofs (disch := omega) only [go_sem, Nat.reduceAdd, Nat.reduceSub, reduceCtorEq, Nat.reduceLT, Nat.reduceLeDiff, Nat.reduceEqDiff, Nat.reduceMul, Int.reduceToNat, ↓reduceIte, List.take_of_length_le, if_pos, if_neg, getD_tsrs, fillA_len, fillA_at, fillA_full, evApp_z0, evApp_z1, evApp_z2, evApp_z3, evApp_i6, List.getElem?_set_self, List.set_set, getD_vis, cnE, Try.ntmps3, Try.results3,  n1, opQ_none])
    refine InlK_intro rfl rfl can_DrawSpreadTo ((hDr bs (by omega) _).mono ?_)
    rintro r L1 ⟨v, S, t, ⟨k1, k2⟩, kS, rfl, rfl⟩
    have hvb : viB v := ⟨by omega, by omega⟩
    have q1 := gSprT_eq (S := S) ⟨hvb, by omega⟩
    have hss := spr_some (v := v) (S := S)
    by_cases hc : viewOK v = true ∧ shapeOK S = true ∧ v.sh.length ≤ S.length ∧ sprC v S (S.length - v.sh.length) v.sh.length = true
    · have e3 : sprR v S = (sprF v S, true) := by unfold sprR; rw [if_pos hc]
      obtain ⟨e1, e2, e4, e5⟩ := hc
      rw [e3] at q1 hss
      obtain ⟨m, hm⟩ : ∃ m, S.length - v.sh.length = m := ⟨_, rfl⟩
      have hmS : m + v.sh.length = S.length := by omega
      have o1 := spr_ok e1 e2 e4 e5
      have s1 := spr_sh v S
      have c1 := fun x hx hz => spr_cell (x := x) hz e4 e5 hx
      have v1 := fun x hx => sprX_ix (x := x) (m := S.length - v.sh.length) (by omega) e5 hx
      have m1 := fun y hy => spr_mem (y := y) e1 e2 e4 e5 hy
      rw [hm] at c1 v1
      generalize sprF v S = w at *
      have hwb := ok_viB o1
      have hw4 := (shape_facts (vOK o1).1).1
      have hw5 := (vOK o1).2
      have q2 : gEqV w w = some true := (gEqV_eq ⟨hwb, hwb⟩).trans (by simp)
      have q6 := gCountT_eq (l := S) (by omega)
      rw [e2, if_pos rfl] at q6
      have q7 : gCov v w = some true := (gCov_eq ⟨hvb, hwb⟩).trans (by
        rw [okk_iff.2 ⟨e1, o1⟩, Bool.true_and, List.all_eq_true.2 fun y hy => List.contains_iff_mem.2 (m1 y hy)])
      have q8 : gEqInts w.sh S = some true := (gEqInts_eq ⟨by omega, by omega⟩).trans (by rw [s1]; simp)
      have hwm : IntKind.i64.wrap ((S.length : Int) - (v.sh.length : Int)) = (m : Int) := by rw [wrap_in (by omega)]; omega
      have hwm2 : (S.length : Int) - (v.sh.length : Int) = (m : Int) := by omega
      repeat' (first | with_reducible first | refine kI (by kernel_rfl) ?_ | refine kN (by kernel_rfl) ?_ | (first | refine kB1 ?_ ?_ | refine kB2 ?_ ?_) <;> intro hp | (first | refine kD1 ?_ ?_ | refine kD2 ?_ ?_ | refine kS1 ?_ ?_ | refine kS2 ?_ ?_) <;> intro hp <;> try simp only [hp] | simp -implicitDefEqProofs (disch := omega) only [go_sem, Nat.reduceAdd, Nat.reduceSub, reduceCtorEq, Nat.reduceLT, Nat.reduceLeDiff, Nat.reduceEqDiff, Nat.reduceMul, Int.reduceToNat, ↓reduceIte, List.take_of_length_le, if_pos, if_neg, getD_tsrs, fillA_len, fillA_at, fillA_full, evApp_z0, evApp_z1, evApp_z2, evApp_z3, evApp_i6, List.getElem?_set_self, List.set_set, getD_vis, cnE, Try.ntmps3, Try.results3,  h1, q1, n2, opQ_none])
      refine InlK_intro rfl rfl can_SpreadTo ((hsp v S ⟨hvb, by omega⟩).call (by simp only [go_sem, ints]) ?_)
      rw [hss, if_pos rfl]
      simp only [mdR, mdN]
      have hpw := (shape_facts e2).2.2.2
      obtain ⟨N, hN⟩ : ∃ N : Nat, prodW S = N := ⟨(prodW S).toNat, by omega⟩
      rw [hN] at q6
      have hN60 : N ≤ 60 := by omega
      repeat' (first | with_reducible first | refine kI (by kernel_rfl) ?_ | refine kN (by kernel_rfl) ?_ | (first | refine kB1 ?_ ?_ | refine kB2 ?_ ?_) <;> intro hp | (first | refine kD1 ?_ ?_ | refine kD2 ?_ ?_ | refine kS1 ?_ ?_ | refine kS2 ?_ ?_) <;> intro hp <;> try simp only [hp] | simp -implicitDefEqProofs (disch := omega) only [go_sem, Nat.reduceAdd, Nat.reduceSub, reduceCtorEq, Nat.reduceLT, Nat.reduceLeDiff, Nat.reduceEqDiff, Nat.reduceMul, Int.reduceToNat, ↓reduceIte, List.take_of_length_le, if_pos, if_neg, getD_tsrs, fillA_len, fillA_at, fillA_full, evApp_z0, evApp_z1, evApp_z2, evApp_z3, evApp_i6, List.getElem?_set_self, List.set_set, getD_vis, cnE, Try.ntmps3, Try.results3,  h2, q2, hwm, hwm2])
      refine LoopQ.mixG 5 (fun t0 L0 nn ss => ∃ (k : Nat) (_ : Unit), (∃ x : Nat → AV, ss = ⟨mixL 0 (.k :: .k :: .s :: .k :: .k :: .k :: .k :: .k :: .k :: .k :: .v (i64 (k : Nat)) :: .s :: .s :: .s :: .s :: .s :: .s :: .k :: .k :: .k :: .k :: .k :: .k :: .k :: .k :: .k :: .k :: .k :: .k :: .k :: .k :: .k :: .k :: .k :: .k :: .k :: .k :: .k :: .k :: .k :: .k :: .k :: .k :: .k :: .k :: .k :: .k :: .k :: .k :: .k :: .k :: .k :: .k :: .k :: .k :: .k :: .k :: .k :: .k :: .k :: .k :: .k :: .k :: .k :: .s :: .s :: .s :: .s :: .s :: .s :: .s :: .s :: .s :: .s :: .s :: .s :: .s :: .s :: .s :: .s :: .s :: .s :: .s :: .s :: .s :: .s :: .s :: .s :: .s :: .s :: .s :: .s :: .s :: .s :: .s :: .s :: .s :: .s :: .s :: .s :: .s :: .s :: .s :: .s :: .s :: .s :: .s :: .s :: .s :: .s :: .k :: .k :: .k :: .k :: .k :: .k :: .k :: .k :: .k :: []) t0 x, L0⟩) ∧ (k ≤ N) ∧ nn = N - k) (by simp) ?_ ?_
      · exact ⟨_, ⟨0, (), mixI rfl, Nat.zero_le _, rfl⟩⟩
      · rintro I0 hI0 nn ss ⟨k, _, ⟨y, rfl⟩, g1, rfl⟩
        by_cases hk : k < N
        · have hki : (k : Int) < (N : Int) := by omega
          have hkN : k < (prodW S).toNat := by omega
          have hx := unr_ix (shape_facts e2).2.1 (shape_pos e2 hkN) k
          have q9 := off_ix o1 (x := unrF S (k : Int)) (by rw [s1]; exact hx)
          have ec := c1 _ hx (by omega)
          have q10 := off_ix e1 (v1 _ hx)
          rw [← ec, ] at q10
          rw [s1] at q9
          have hxl : (unrF S (k : Int)).length = S.length := unrF_len _ _
          have hix1 := (hix S k e2 hkN)
          generalize unrF S (k : Int) = u at *
          repeat' (first | with_reducible first | refine kI (by kernel_rfl) ?_ | refine kN (by kernel_rfl) ?_ | (first | refine kB1 ?_ ?_ | refine kB2 ?_ ?_) <;> intro hp | (first | refine kD1 ?_ ?_ | refine kD2 ?_ ?_ | refine kS1 ?_ ?_ | refine kS2 ?_ ?_) <;> intro hp <;> try simp only [hp] | simp -implicitDefEqProofs (disch := omega) only [go_sem, Nat.reduceAdd, Nat.reduceSub, reduceCtorEq, Nat.reduceLT, Nat.reduceLeDiff, Nat.reduceEqDiff, Nat.reduceMul, Int.reduceToNat, ↓reduceIte, List.take_of_length_le, if_pos, if_neg, getD_tsrs, fillA_len, fillA_at, fillA_full, evApp_z0, evApp_z1, evApp_z2, evApp_z3, evApp_i6, List.getElem?_set_self, List.set_set, getD_vis, cnE, Try.ntmps3, Try.results3,  h4, q6, hki, n3, opQ_none])
          refine InlK_intro rfl rfl can_IndexAt (hix1.call (by simp only [go_sem, ints]) ?_)
          have hsm : S.length - m = v.sh.length := by omega
          repeat' (first | with_reducible first | refine kI (by kernel_rfl) ?_ | refine kN (by kernel_rfl) ?_ | (first | refine kB1 ?_ ?_ | refine kB2 ?_ ?_) <;> intro hp | (first | refine kD1 ?_ ?_ | refine kD2 ?_ ?_ | refine kS1 ?_ ?_ | refine kS2 ?_ ?_) <;> intro hp <;> try simp only [hp] | simp -implicitDefEqProofs (disch := omega) only [go_sem, Nat.reduceAdd, Nat.reduceSub, reduceCtorEq, Nat.reduceLT, Nat.reduceLeDiff, Nat.reduceEqDiff, Nat.reduceMul, Int.reduceToNat, ↓reduceIte, List.take_of_length_le, if_pos, if_neg, getD_tsrs, fillA_len, fillA_at, fillA_full, evApp_z0, evApp_z1, evApp_z2, evApp_z3, evApp_i6, List.getElem?_set_self, List.set_set, getD_vis, cnE, Try.ntmps3, Try.results3,  hxl, h5, q9, hsm])
          refine LoopQ.mix (fun t0 L0 nn ss => ∃ (d : Nat) (_ : Unit), (∃ x : Nat → AV, ss = ⟨mixL 0 (.k :: .k :: .k :: .k :: .k :: .k :: .k :: .k :: .k :: .k :: .k :: .k :: .k :: .k :: .v (i64 (d : Nat)) :: .k :: .k :: .k :: .k :: .k :: .k :: .k :: .k :: .k :: .k :: .k :: .k :: .k :: .k :: .k :: .k :: .k :: .k :: .k :: .k :: .k :: .k :: .k :: .k :: .k :: .k :: .k :: .k :: .k :: .k :: .k :: .k :: .k :: .k :: .k :: .k :: .k :: .k :: .k :: .k :: .k :: .k :: .k :: .k :: .k :: .k :: .k :: .k :: .k :: .k :: .k :: .k :: .k :: .k :: .k :: .k :: .k :: .k :: .k :: .k :: .k :: .k :: .k :: .k :: .k :: .k :: .k :: .s :: .s :: .s :: .s :: .s :: .s :: .s :: .s :: .s :: .s :: .s :: .s :: .s :: .s :: .s :: .k :: .k :: .k :: .k :: .k :: .k :: .k :: .k :: .k :: .k :: .k :: .k :: .k :: .k :: .k :: .k :: .k :: .k :: .k :: .k :: .k :: .k :: []) t0 x, [⟨3, [viD v]⟩, ⟨3, [viD w]⟩, stB w.sh, stB w.st, ⟨3, [.agg [i64 w.b, .sl 2 w.sh.length 0 w.sh.length w.sh.length, .sl 3 w.st.length 0 w.st.length w.st.length]]⟩, stB (zX v u m d)]⟩) ∧ (d ≤ v.sh.length) ∧ nn = v.sh.length - d) ?_ ?_
          · exact ⟨_, ⟨0, (), mixJ rfl (by rw [zX_0]), Nat.zero_le _, rfl⟩⟩
          · rintro I1 hI1 mm s2 ⟨d, _, ⟨y2, rfl⟩, f1, rfl⟩
            have hzl : (zX v u m d).length = S.length := (zX_len _ _ _ _).trans hxl
            by_cases hd : d < v.sh.length
            · have hdi : (d : Int) < (v.sh.length : Int) := by omega
              have hmd : m + d < S.length := by omega
              by_cases cc : v.sh.getD d 0 = 1
              · have cc' : (v.sh.getD d 0 == 1) = true := beq_t cc
                have hze := zX_eq (v := v) (x := u) (m := m) (n := d) (by omega) cc
                repeat' (first | with_reducible first | refine kI (by kernel_rfl) ?_ | refine kN (by kernel_rfl) ?_ | (first | refine kB1 ?_ ?_ | refine kB2 ?_ ?_) <;> intro hp | (first | refine kD1 ?_ ?_ | refine kD2 ?_ ?_ | refine kS1 ?_ ?_ | refine kS2 ?_ ?_) <;> intro hp <;> try simp only [hp] | simp -implicitDefEqProofs (disch := omega) only [go_sem, Nat.reduceAdd, Nat.reduceSub, reduceCtorEq, Nat.reduceLT, Nat.reduceLeDiff, Nat.reduceEqDiff, Nat.reduceMul, Int.reduceToNat, ↓reduceIte, List.take_of_length_le, if_pos, if_neg, getD_tsrs, fillA_len, fillA_at, fillA_full, evApp_z0, evApp_z1, evApp_z2, evApp_z3, evApp_i6, List.getElem?_set_self, List.set_set, getD_vis, cnE, Try.ntmps3, Try.results3,  hsm, hdi, hzl, getD_ints hd, cc', map_setI, ← hze])
                exact ⟨v.sh.length - (d + 1), by omega, hI1 _ _ ⟨d + 1, (), mixI rfl, hd, rfl⟩⟩
              · have cc' : (v.sh.getD d 0 == 1) = false := beq_f cc
                have hze := zX_ne (v := v) (x := u) (m := m) (n := d) cc
                rw [← hze] at hzl ⊢
                repeat' (first | with_reducible first | refine kI (by kernel_rfl) ?_ | refine kN (by kernel_rfl) ?_ | (first | refine kB1 ?_ ?_ | refine kB2 ?_ ?_) <;> intro hp | (first | refine kD1 ?_ ?_ | refine kD2 ?_ ?_ | refine kS1 ?_ ?_ | refine kS2 ?_ ?_) <;> intro hp <;> try simp only [hp] | simp -implicitDefEqProofs (disch := omega) only [go_sem, Nat.reduceAdd, Nat.reduceSub, reduceCtorEq, Nat.reduceLT, Nat.reduceLeDiff, Nat.reduceEqDiff, Nat.reduceMul, Int.reduceToNat, ↓reduceIte, List.take_of_length_le, if_pos, if_neg, getD_tsrs, fillA_len, fillA_at, fillA_full, evApp_z0, evApp_z1, evApp_z2, evApp_z3, evApp_i6, List.getElem?_set_self, List.set_set, getD_vis, cnE, Try.ntmps3, Try.results3,  hsm, hdi, hzl, getD_ints hd, cc'])
                exact ⟨v.sh.length - (d + 1), by omega, hI1 _ _ ⟨d + 1, (), mixI rfl, hd, rfl⟩⟩
            · obtain rfl : d = v.sh.length := by omega
              have hdr := zX_drop (v := v) (x := u) (m := m) (by omega)
              have htk : List.take v.sh.length (List.drop m (zX v u m v.sh.length)) = sprX v u m := by
                rw [hdr]
                exact List.take_of_length_le (by simp [sprX])
              repeat' (first | with_reducible first | refine kI (by kernel_rfl) ?_ | refine kN (by kernel_rfl) ?_ | (first | refine kB1 ?_ ?_ | refine kB2 ?_ ?_) <;> intro hp | (first | refine kD1 ?_ ?_ | refine kD2 ?_ ?_ | refine kS1 ?_ ?_ | refine kS2 ?_ ?_) <;> intro hp <;> try simp only [hp] | simp -implicitDefEqProofs (disch := omega) only [go_sem, Nat.reduceAdd, Nat.reduceSub, reduceCtorEq, Nat.reduceLT, Nat.reduceLeDiff, Nat.reduceEqDiff, Nat.reduceMul, Int.reduceToNat, ↓reduceIte, List.take_of_length_le, if_pos, if_neg, getD_tsrs, fillA_len, fillA_at, fillA_full, evApp_z0, evApp_z1, evApp_z2, evApp_z3, evApp_i6, List.getElem?_set_self, List.set_set, getD_vis, cnE, Try.ntmps3, Try.results3,  hsm, hzl, htk, h5, q10])
              exact ⟨N - (k + 1), by omega, hI0 _ _ ⟨k + 1, (), mixI rfl, hk, rfl⟩⟩
        · obtain rfl : k = N := by omega
          repeat' (first | with_reducible first | refine kI (by kernel_rfl) ?_ | refine kN (by kernel_rfl) ?_ | (first | refine kB1 ?_ ?_ | refine kB2 ?_ ?_) <;> intro hp | (first | refine kD1 ?_ ?_ | refine kD2 ?_ ?_ | refine kS1 ?_ ?_ | refine kS2 ?_ ?_) <;> intro hp <;> try simp only [hp] | simp -implicitDefEqProofs (disch := omega) only [go_sem, Nat.reduceAdd, Nat.reduceSub, reduceCtorEq, Nat.reduceLT, Nat.reduceLeDiff, Nat.reduceEqDiff, Nat.reduceMul, Int.reduceToNat, ↓reduceIte, List.take_of_length_le, if_pos, if_neg, getD_tsrs, fillA_len, fillA_at, fillA_full, evApp_z0, evApp_z1, evApp_z2, evApp_z3, evApp_i6, List.getElem?_set_self, List.set_set, getD_vis, cnE, Try.ntmps3, Try.results3,  h4, q6, h7, q8, h6, q7])
    · have e3 : sprR v S = (⟨0, [], []⟩, false) := by unfold sprR; rw [if_neg hc]
      rw [e3] at q1 hss
      have q2 : gEqV ⟨0, [], []⟩ ⟨0, [], []⟩ = some true := (gEqV_eq ⟨zero_viB, zero_viB⟩).trans (by simp)
      repeat' (first | with_reducible first | refine kI (by kernel_rfl) ?_ | refine kN (by kernel_rfl) ?_ | (first | refine kB1 ?_ ?_ | refine kB2 ?_ ?_) <;> intro hp | (first | refine kD1 ?_ ?_ | refine kD2 ?_ ?_ | refine kS1 ?_ ?_ | refine kS2 ?_ ?_) <;> intro hp <;> try simp only [hp] | simp -implicitDefEqProofs (disch := omega) only [go_sem, Nat.reduceAdd, Nat.reduceSub, reduceCtorEq, Nat.reduceLT, Nat.reduceLeDiff, Nat.reduceEqDiff, Nat.reduceMul, Int.reduceToNat, ↓reduceIte, List.take_of_length_le, if_pos, if_neg, getD_tsrs, fillA_len, fillA_at, fillA_full, evApp_z0, evApp_z1, evApp_z2, evApp_z3, evApp_i6, List.getElem?_set_self, List.set_set, getD_vis, cnE, Try.ntmps3, Try.results3,  h1, q1, n2, opQ_none])
      refine InlK_intro rfl rfl can_SpreadTo ((hsp v S ⟨hvb, by omega⟩).call (by simp only [go_sem, ints]) ?_)
      rw [hss, if_neg (by simp)]
      simp only [mdR, mdN]
      repeat' (first | with_reducible first | refine kI (by kernel_rfl) ?_ | refine kN (by kernel_rfl) ?_ | (first | refine kB1 ?_ ?_ | refine kB2 ?_ ?_) <;> intro hp | (first | refine kD1 ?_ ?_ | refine kD2 ?_ ?_ | refine kS1 ?_ ?_ | refine kS2 ?_ ?_) <;> intro hp <;> try simp only [hp] | simp -implicitDefEqProofs (disch := omega) only [go_sem, Nat.reduceAdd, Nat.reduceSub, reduceCtorEq, Nat.reduceLT, Nat.reduceLeDiff, Nat.reduceEqDiff, Nat.reduceMul, Int.reduceToNat, ↓reduceIte, List.take_of_length_le, if_pos, if_neg, getD_tsrs, fillA_len, fillA_at, fillA_full, evApp_z0, evApp_z1, evApp_z2, evApp_z3, evApp_i6, List.getElem?_set_self, List.set_set, getD_vis, cnE, Try.ntmps3, Try.results3,  h2, q2])
end Go.Proofs.Ytjmkdnnfhphckaa
