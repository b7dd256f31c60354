/- Contracts of functions that the laws of this seat call. -/
import Derived.Test.YtkmnepmnjpdpkaaGreatDoorFB
import Derived.Test.YtkmnepmnjpdpkaaGreatDoorEvC
set_option linter.all false
namespace Go.Proofs.YtkmnepmnjpdpkaaGreatDoor
open Go Go.Ev Go.RowKit Go.Ev.Enc Go.Pl

theorem getD_bs {bs : List UInt8} {k : Nat} (h : k < bs.length) : (bs.map fun b => AV.int .u8 b.toNat).getD k .any = .int .u8 ((bs.getD k 0).toNat : Int) := by simp [h]
theorem tm_nn {a b : Int} (h : 0 ≤ a) : 0 ≤ a.tmod b := Int.tmod_nonneg _ h
theorem tm_lt {a b : Int} (h : 0 < b) : a.tmod b < b := Int.tmod_lt_of_pos _ h
theorem ofInt_nat {a : Int} (h : 0 ≤ a ∧ a < 4611686018427387904) : (BitVec.ofInt 64 a).toNat = a.toNat := by
  rw [BitVec.toNat_ofInt, Int.emod_eq_of_lt h.1 (by omega)]
theorem xor_nn {a b : Int} (ha : 0 ≤ a ∧ a < 4611686018427387904) (hb : 0 ≤ b ∧ b < 4611686018427387904) : 0 ≤ IntKind.i64.wrap ((BitVec.ofInt 64 a ^^^ BitVec.ofInt 64 b).toNat : Int) := by
  have h : (BitVec.ofInt 64 a ^^^ BitVec.ofInt 64 b).toNat < 2 ^ 62 := by
    rw [BitVec.toNat_xor, ofInt_nat ha, ofInt_nat hb]
    exact Nat.xor_lt_two_pow (by omega) (by omega)
  rw [wrap_in (by omega)]; omega
set_option maxHeartbeats 4000000 in
set_option maxRecDepth 100000 in
theorem isp_pick {Sg : FuncId → Option (List AV → Option AV)} (hS : Sound Tryz.prog Sg) {bs : List UInt8} {b n : Nat} {rL : Int → List Blk} (hC : RC bs b n rL) (hb : bs.length ≤ 2000) (p : Int) (hp : 0 ≤ p ∧ p ≤ 1000000000) (m : Int) (hm : -1000000000 ≤ m ∧ m ≤ 1000000000) : ISpec Tryz.prog 76 [.ptr b 1 0 0, i64 m] (rL p) (fun r L' => ∃ v, r = i64 v ∧ 0 ≤ v ∧ (v < m ∨ v = 0) ∧ L' = rL (p + 1)) := by
  refine ISpec.ret Tryz.func76 rfl (vc3_sound Tryz.pf hS hS _ _ _ ?_)
  have w1 : IntKind.i64.wrap (p + 1) = p + 1 := wrap_in (by omega)
  have w2 : IntKind.i64.wrap (p + 1 - 1) = p := by rw [wrap_in (by omega)]; omega
  obtain ⟨k, rfl⟩ : ∃ k : Nat, p = k := ⟨p.toNat, by omega⟩
  by_cases h1 : m < 1
  · repeat' (first | with_reducible first | refine kI (by kernel_rfl) ?_ | refine kN (by kernel_rfl) ?_ | simp -implicitDefEqProofs (disch := omega) only [go_sem, Nat.reduceAdd, Nat.reduceSub, reduceCtorEq, Nat.reduceLT, Nat.reduceLeDiff, Nat.reduceEqDiff, ↓reduceIte, List.take_of_length_le, if_pos, if_neg, getD_tsrs, fillA_len, fillA_at, fillA_full, evApp_z0, evApp_z1, evApp_z2, evApp_z3, evApp_i6, cnE, Tryz.ntmps76, Tryz.results76,  hC.cn, w1, w2])
    exact hC.retN ⟨0, rfl, by omega, .inr rfl, rfl⟩
  · by_cases h2 : bs.length = 0
    · have h2' : (bs.length : Int) = 0 := by omega
      repeat' (first | with_reducible first | refine kI (by kernel_rfl) ?_ | refine kN (by kernel_rfl) ?_ | simp -implicitDefEqProofs (disch := omega) only [go_sem, Nat.reduceAdd, Nat.reduceSub, reduceCtorEq, Nat.reduceLT, Nat.reduceLeDiff, Nat.reduceEqDiff, ↓reduceIte, List.take_of_length_le, if_pos, if_neg, getD_tsrs, fillA_len, fillA_at, fillA_full, evApp_z0, evApp_z1, evApp_z2, evApp_z3, evApp_i6, cnE, Tryz.ntmps76, Tryz.results76,  hC.cn, w1, w2, h2'])
      exact hC.retN ⟨0, rfl, by omega, .inr rfl, rfl⟩
    · have h2' : ¬ (bs.length : Int) = 0 := by omega
      by_cases h3 : k < bs.length
      · have g1 := getD_bs h3
        have g2 := (bs.getD k 0).toNat_lt
        have g3 : IntKind.i64.wrap ((bs.getD k 0).toNat : Int) = ((bs.getD k 0).toNat : Int) := wrap_in (by omega)
        have hm0 : ¬ m = 0 := by omega
        generalize (bs.getD k 0).toNat = x at *
        repeat' (first | with_reducible first | refine kI (by kernel_rfl) ?_ | refine kN (by kernel_rfl) ?_ | simp -implicitDefEqProofs (disch := omega) only [go_sem, Nat.reduceAdd, Nat.reduceSub, reduceCtorEq, Nat.reduceLT, Nat.reduceLeDiff, Nat.reduceEqDiff, ↓reduceIte, List.take_of_length_le, if_pos, if_neg, getD_tsrs, fillA_len, fillA_at, fillA_full, evApp_z0, evApp_z1, evApp_z2, evApp_z3, evApp_i6, cnE, Tryz.ntmps76, Tryz.results76,  hC.cn, w1, w2, h2', g1, g3, hm0])
        exact hC.retN ⟨_, rfl, tm_nn (by omega), .inl (tm_lt (by omega)), rfl⟩
      · have hl : (0 : Int) < bs.length := by omega
        obtain ⟨k1, e1, f1⟩ : ∃ k1 : Nat, (k : Int).tmod bs.length = k1 ∧ k1 < bs.length := ⟨((k : Int).tmod bs.length).toNat, by have := tm_nn (a := (k : Int)) (b := bs.length) (by omega); omega, by have := tm_nn (a := (k : Int)) (b := bs.length) (by omega); have := tm_lt (a := (k : Int)) hl; omega⟩
        obtain ⟨k2, e2, f2⟩ : ∃ k2 : Nat, ((k : Int) * 7 + 3).tmod bs.length = k2 ∧ k2 < bs.length := ⟨(((k : Int) * 7 + 3).tmod bs.length).toNat, by have := tm_nn (a := (k : Int) * 7 + 3) (b := bs.length) (by omega); omega, by have := tm_nn (a := (k : Int) * 7 + 3) (b := bs.length) (by omega); have := tm_lt (a := (k : Int) * 7 + 3) hl; omega⟩
        obtain ⟨k3, e3, f3⟩ : ∃ k3 : Nat, (k : Int).tdiv bs.length = k3 ∧ k3 ≤ k := ⟨((k : Int).tdiv bs.length).toNat, by have := Int.tdiv_nonneg (a := (k : Int)) (b := bs.length) (by omega) (by omega); omega, by have := Int.tdiv_le_self (a := (k : Int)) (bs.length : Int) (by omega); omega⟩
        have g1 := getD_bs f1
        have g2 := (bs.getD k1 0).toNat_lt
        have g3 := getD_bs f2
        have g4 := (bs.getD k2 0).toNat_lt
        have hm0 : ¬ m = 0 := by omega
        generalize (bs.getD k1 0).toNat = x at *
        generalize (bs.getD k2 0).toNat = y at *
        repeat' (first | with_reducible first | refine kI (by kernel_rfl) ?_ | refine kN (by kernel_rfl) ?_ | simp -implicitDefEqProofs (disch := omega) only [go_sem, Nat.reduceAdd, Nat.reduceSub, reduceCtorEq, Nat.reduceLT, Nat.reduceLeDiff, Nat.reduceEqDiff, ↓reduceIte, List.take_of_length_le, if_pos, if_neg, getD_tsrs, fillA_len, fillA_at, fillA_full, evApp_z0, evApp_z1, evApp_z2, evApp_z3, evApp_i6, cnE, Tryz.ntmps76, Tryz.results76,  hC.cn, w1, w2, h2', e1, e2, e3, g1, g3, hm0])
        have hd := Int.tdiv_nonneg (a := ((x : Int) * 131 + (y : Int) * 1117 + (k : Int) * 29 + (k3 : Int) * 53)) (b := 64) (by omega) (by omega)
        have hd2 := Int.tdiv_le_self (a := ((x : Int) * 131 + (y : Int) * 1117 + (k : Int) * 29 + (k3 : Int) * 53)) 64 (by omega)
        exact hC.retN ⟨_, rfl, tm_nn (xor_nn (by omega) (by rw [wrap_in (by omega)]; omega)), .inl (tm_lt (by omega)), rfl⟩
theorem can_pick : CanCall Tryz.prog 76 := ⟨_, Tryz.func76, rfl, rfl⟩
theorem can_one : CanCall Tryz.prog 89 := ⟨_, Tryz.func89, rfl, rfl⟩
set_option maxHeartbeats 4000000 in
set_option maxRecDepth 100000 in
theorem isp_one {Sg : FuncId → Option (List AV → Option AV)} (hS : Sound Tryz.prog Sg) (hn : Sg 76 = none) {bs : List UInt8} {b n : Nat} {rL : Int → List Blk} (hC : RC bs b n rL) (hb : bs.length ≤ 2000) (p : Int) (hp : 0 ≤ p ∧ p ≤ 1000000000) (tag : Nat) (l : List Int) (hl : 0 < l.length ∧ l.length ≤ 1000) : ISpec Tryz.prog 89 [.ptr b 1 0 0, ints tag l] (rL p) (fun r L' => ∃ v, r = i64 v ∧ v ∈ l ∧ L' = rL (p + 1)) := by
  refine ISpec.ret Tryz.func89 rfl (vc3_sound Tryz.pf hS hS _ _ _ ?_)
  repeat' (first | with_reducible first | refine kI (by kernel_rfl) ?_ | refine kN (by kernel_rfl) ?_ | simp -implicitDefEqProofs (disch := omega) only [go_sem, Nat.reduceAdd, Nat.reduceSub, reduceCtorEq, Nat.reduceLT, Nat.reduceLeDiff, Nat.reduceEqDiff, ↓reduceIte, List.take_of_length_le, if_pos, if_neg, getD_tsrs, fillA_len, fillA_at, fillA_full, evApp_z0, evApp_z1, evApp_z2, evApp_z3, evApp_i6, cnE, Tryz.ntmps89, Tryz.results89,  hC.cn, hn, opQ_none])
  refine InlK_intro rfl rfl can_pick ((isp_pick hS hC hb p hp l.length (by omega)).mono ?_)
  rintro r L1 ⟨v, rfl, h1, h2, rfl⟩
  obtain ⟨k, rfl⟩ : ∃ k : Nat, v = k := ⟨v.toNat, by omega⟩
  have hk : k < l.length := by omega
  repeat' (first | with_reducible first | refine kI (by kernel_rfl) ?_ | refine kN (by kernel_rfl) ?_ | simp -implicitDefEqProofs (disch := omega) only [go_sem, Nat.reduceAdd, Nat.reduceSub, reduceCtorEq, Nat.reduceLT, Nat.reduceLeDiff, Nat.reduceEqDiff, ↓reduceIte, List.take_of_length_le, if_pos, if_neg, getD_tsrs, fillA_len, fillA_at, fillA_full, evApp_z0, evApp_z1, evApp_z2, evApp_z3, evApp_i6, cnE, Tryz.ntmps89, Tryz.results89,  hC.cn, getD_ints hk])
  exact hC.retN ⟨_, rfl, by simp [hk], rfl⟩
end Go.Proofs.YtkmnepmnjpdpkaaGreatDoor
