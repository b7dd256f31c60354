/- Contracts of functions that the laws of this seat call. -/
import Derived.Test.YtgpflkmelindfaaWk
set_option linter.all false
namespace Go.Proofs.Ytgpflkmelindfaa
open Go Go.Ev Go.RowKit Go.Ev.Enc Go.Pl

def sliR (v : Vi) (d : Int) (s : Sl) : Vi × Bool := if viewOK v = true ∧ inR d 0 (v.sh.length - 1) = true ∧ slOK s = true then (slcF v d.toNat (indF (v.sh.getD d.toNat 0) s), true) else (⟨0, [], []⟩, false)
def gSliT (v : Vi) (d : Int) (s : Sl) : Option (Vi × Bool) := gd (viB v) (sliR v d s)
theorem gSliT_eq {v : Vi} (h : viB v) (d : Int) (s : Sl) : gSliT v d s = some (sliR v d s) := gd_eq h
def gFlipT (v : Vi) (d : Int) : Option (Vi × Bool) := gd (viB v) (sliR v d flipS)
theorem gFlipT_eq {v : Vi} (h : viB v) (d : Int) : gFlipT v d = some (sliR v d flipS) := gd_eq h
theorem flipS_ok : slOK flipS = true := by decide
theorem dim_nat {v : Vi} {d : Int} (h : inR d 0 (v.sh.length - 1) = true) : ∃ m : Nat, d = m ∧ m < v.sh.length := by
  unfold inR at h
  simp only [Bool.and_eq_true, decide_eq_true_eq] at h
  exact ⟨d.toNat, by omega, by omega⟩
set_option maxHeartbeats 4000000 in
set_option maxRecDepth 100000 in
theorem spec_SliceDimI {Sg : FuncId → Option (List AV → Option AV)} (hS : Sound Try.prog Sg) (hd : Sg 49 = some (F2 gHasDim)) (hs : Sg 90 = some (F1 gValidSl)) (hl : Sg 50 = some (F3 gSliI)) : ∀ a r, F3 gSliT a = some r → CSpec Try.prog 40 a r := by
  refine F3_spec ?_
  intro v d s r hr0
  obtain ⟨h, rfl⟩ := gd_some hr0
  refine CSpec.intro Try.func40 rfl (own _) (vc3_sound Try.pf hS hS _ _ _ ?_)
  have q1 := gHasDim_eq h d
  have q2 := gValidSl_eq s
  unfold sliR
  cases e1 : viewOK v with
  | false =>
    rw [e1, Bool.false_and] at q1
    rw [if_neg (by simp)]
    repeat' (first | with_reducible first | refine kI (by kernel_rfl) ?_ | refine kN (by kernel_rfl) ?_ | (first | refine kB1 ?_ ?_ | refine kB2 ?_ ?_) <;> intro hp | (first | refine kD1 ?_ ?_ | refine kD2 ?_ ?_ | refine kS1 ?_ ?_ | refine kS2 ?_ ?_) <;> intro hp <;> try simp only [hp] | simp -implicitDefEqProofs (disch := omega) only [go_sem, Nat.reduceAdd, Nat.reduceSub, reduceCtorEq, Nat.reduceLT, Nat.reduceLeDiff, Nat.reduceEqDiff, Nat.reduceMul, Int.reduceToNat, ↓reduceIte, List.take_of_length_le, if_pos, if_neg, List.getElem?_set_self, List.set_set, cnE, cnV, Try.ntmps40, Try.results40,  hd, q1])
    try rfl
  | true =>
    rw [e1, Bool.true_and] at q1
    cases e2 : inR d 0 (v.sh.length - 1) with
    | false =>
      rw [e2] at q1
      rw [if_neg (by simp)]
      repeat' (first | with_reducible first | refine kI (by kernel_rfl) ?_ | refine kN (by kernel_rfl) ?_ | (first | refine kB1 ?_ ?_ | refine kB2 ?_ ?_) <;> intro hp | (first | refine kD1 ?_ ?_ | refine kD2 ?_ ?_ | refine kS1 ?_ ?_ | refine kS2 ?_ ?_) <;> intro hp <;> try simp only [hp] | simp -implicitDefEqProofs (disch := omega) only [go_sem, Nat.reduceAdd, Nat.reduceSub, reduceCtorEq, Nat.reduceLT, Nat.reduceLeDiff, Nat.reduceEqDiff, Nat.reduceMul, Int.reduceToNat, ↓reduceIte, List.take_of_length_le, if_pos, if_neg, List.getElem?_set_self, List.set_set, cnE, cnV, Try.ntmps40, Try.results40,  hd, q1])
      try rfl
    | true =>
      rw [e2] at q1
      cases e3 : slOK s with
      | false =>
        rw [e3] at q2
        rw [if_neg (by simp)]
        repeat' (first | with_reducible first | refine kI (by kernel_rfl) ?_ | refine kN (by kernel_rfl) ?_ | (first | refine kB1 ?_ ?_ | refine kB2 ?_ ?_) <;> intro hp | (first | refine kD1 ?_ ?_ | refine kD2 ?_ ?_ | refine kS1 ?_ ?_ | refine kS2 ?_ ?_) <;> intro hp <;> try simp only [hp] | simp -implicitDefEqProofs (disch := omega) only [go_sem, Nat.reduceAdd, Nat.reduceSub, reduceCtorEq, Nat.reduceLT, Nat.reduceLeDiff, Nat.reduceEqDiff, Nat.reduceMul, Int.reduceToNat, ↓reduceIte, List.take_of_length_le, if_pos, if_neg, List.getElem?_set_self, List.set_set, cnE, cnV, Try.ntmps40, Try.results40,  hd, q1, hs, q2])
        try rfl
      | true =>
        rw [e3] at q2
        rw [if_pos ⟨rfl, rfl, rfl⟩]
        obtain ⟨m, rfl, hm⟩ := dim_nat e2
        have q3 := gSliI_eq ⟨e1, e3⟩ hm
        rw [Int.toNat_natCast]
        repeat' (first | with_reducible first | refine kI (by kernel_rfl) ?_ | refine kN (by kernel_rfl) ?_ | (first | refine kB1 ?_ ?_ | refine kB2 ?_ ?_) <;> intro hp | (first | refine kD1 ?_ ?_ | refine kD2 ?_ ?_ | refine kS1 ?_ ?_ | refine kS2 ?_ ?_) <;> intro hp <;> try simp only [hp] | simp -implicitDefEqProofs (disch := omega) only [go_sem, Nat.reduceAdd, Nat.reduceSub, reduceCtorEq, Nat.reduceLT, Nat.reduceLeDiff, Nat.reduceEqDiff, Nat.reduceMul, Int.reduceToNat, ↓reduceIte, List.take_of_length_le, if_pos, if_neg, List.getElem?_set_self, List.set_set, cnE, cnV, Try.ntmps40, Try.results40,  hd, q1, hs, q2, hl, q3])
        try rfl
set_option maxHeartbeats 4000000 in
set_option maxRecDepth 100000 in
theorem spec_FlipDimI {Sg : FuncId → Option (List AV → Option AV)} (hS : Sound Try.prog Sg) (hd : Sg 49 = some (F2 gHasDim)) (hl : Sg 50 = some (F3 gSliI)) : ∀ a r, F2 gFlipT a = some r → CSpec Try.prog 10 a r := by
  refine F2_spec ?_
  intro v d r hr0
  obtain ⟨h, rfl⟩ := gd_some hr0
  refine CSpec.intro Try.func10 rfl (own _) (vc3_sound Try.pf hS hS _ _ _ ?_)
  have q1 := gHasDim_eq h d
  unfold sliR
  cases e1 : viewOK v with
  | false =>
    rw [e1, Bool.false_and] at q1
    rw [if_neg (by simp)]
    repeat' (first | with_reducible first | refine kI (by kernel_rfl) ?_ | refine kN (by kernel_rfl) ?_ | (first | refine kB1 ?_ ?_ | refine kB2 ?_ ?_) <;> intro hp | (first | refine kD1 ?_ ?_ | refine kD2 ?_ ?_ | refine kS1 ?_ ?_ | refine kS2 ?_ ?_) <;> intro hp <;> try simp only [hp] | simp -implicitDefEqProofs (disch := omega) only [go_sem, Nat.reduceAdd, Nat.reduceSub, reduceCtorEq, Nat.reduceLT, Nat.reduceLeDiff, Nat.reduceEqDiff, Nat.reduceMul, Int.reduceToNat, ↓reduceIte, List.take_of_length_le, if_pos, if_neg, List.getElem?_set_self, List.set_set, cnE, cnV, Try.ntmps10, Try.results10,  hd, q1])
    try rfl
  | true =>
    rw [e1, Bool.true_and] at q1
    cases e2 : inR d 0 (v.sh.length - 1) with
    | false =>
      rw [e2] at q1
      rw [if_neg (by simp)]
      repeat' (first | with_reducible first | refine kI (by kernel_rfl) ?_ | refine kN (by kernel_rfl) ?_ | (first | refine kB1 ?_ ?_ | refine kB2 ?_ ?_) <;> intro hp | (first | refine kD1 ?_ ?_ | refine kD2 ?_ ?_ | refine kS1 ?_ ?_ | refine kS2 ?_ ?_) <;> intro hp <;> try simp only [hp] | simp -implicitDefEqProofs (disch := omega) only [go_sem, Nat.reduceAdd, Nat.reduceSub, reduceCtorEq, Nat.reduceLT, Nat.reduceLeDiff, Nat.reduceEqDiff, Nat.reduceMul, Int.reduceToNat, ↓reduceIte, List.take_of_length_le, if_pos, if_neg, List.getElem?_set_self, List.set_set, cnE, cnV, Try.ntmps10, Try.results10,  hd, q1])
      try rfl
    | true =>
      rw [e2] at q1
      rw [if_pos ⟨rfl, rfl, flipS_ok⟩]
      obtain ⟨m, rfl, hm⟩ := dim_nat e2
      have q3 := gSliI_eq (s := flipS) ⟨e1, flipS_ok⟩ hm
      rw [Int.toNat_natCast]
      have hfl : (⟨0, 0, -1, false, false⟩ : Sl) = flipS := rfl
      repeat' (first | with_reducible first | refine kI (by kernel_rfl) ?_ | refine kN (by kernel_rfl) ?_ | (first | refine kB1 ?_ ?_ | refine kB2 ?_ ?_) <;> intro hp | (first | refine kD1 ?_ ?_ | refine kD2 ?_ ?_ | refine kS1 ?_ ?_ | refine kS2 ?_ ?_) <;> intro hp <;> try simp only [hp] | simp -implicitDefEqProofs (disch := omega) only [go_sem, Nat.reduceAdd, Nat.reduceSub, reduceCtorEq, Nat.reduceLT, Nat.reduceLeDiff, Nat.reduceEqDiff, Nat.reduceMul, Int.reduceToNat, ↓reduceIte, List.take_of_length_le, if_pos, if_neg, List.getElem?_set_self, List.set_set, cnE, cnV, Try.ntmps10, Try.results10,  hd, q1, hl, hfl, q3])
      try rfl
def gEqV (a b : Vi) : Option Bool := gd (viB2 a b) (decide (a = b))
theorem gEqV_eq {a b : Vi} (h : viB2 a b) : gEqV a b = some (decide (a = b)) := gd_eq h
theorem vi_eq {a b : Vi} : decide (a = b) = (a.b == b.b && (decide (a.sh = b.sh) && decide (a.st = b.st))) := by
  cases a; cases b
  rw [Bool.eq_iff_iff]
  simp
set_option maxHeartbeats 4000000 in
set_option maxRecDepth 100000 in
theorem spec_equalView {Sg : FuncId → Option (List AV → Option AV)} (hS : Sound Try.prog Sg) (he : Sg 14 = some (F2 gEqInts)) : ∀ a r, F2 gEqV a = some r → CSpec Try.prog 12 a r := by
  refine F2_spec ?_
  intro a b r hr0
  obtain ⟨h, rfl⟩ := gd_some hr0
  refine CSpec.intro Try.func12 rfl (own _) (vc3_sound Try.pf hS hS _ _ _ ?_)
  have q1 := gEqInts_eq (a := a.sh) (b := b.sh) ⟨h.1.1, h.2.1⟩
  have q2 := gEqInts_eq (a := a.st) (b := b.st) ⟨h.1.2, h.2.2⟩
  rw [vi_eq]
  cases e1 : (a.b == b.b) with
  | false =>
    repeat' (first | with_reducible first | refine kI (by kernel_rfl) ?_ | refine kN (by kernel_rfl) ?_ | (first | refine kB1 ?_ ?_ | refine kB2 ?_ ?_) <;> intro hp | (first | refine kD1 ?_ ?_ | refine kD2 ?_ ?_ | refine kS1 ?_ ?_ | refine kS2 ?_ ?_) <;> intro hp <;> try simp only [hp] | simp -implicitDefEqProofs (disch := omega) only [go_sem, Nat.reduceAdd, Nat.reduceSub, reduceCtorEq, Nat.reduceLT, Nat.reduceLeDiff, Nat.reduceEqDiff, Nat.reduceMul, Int.reduceToNat, ↓reduceIte, List.take_of_length_le, if_pos, if_neg, List.getElem?_set_self, List.set_set, cnE, cnV, Try.ntmps12, Try.results12,  e1])
    try rfl
  | true =>
    by_cases e2 : a.sh = b.sh
    · rw [decide_eq_true e2] at q1 ⊢
      repeat' (first | with_reducible first | refine kI (by kernel_rfl) ?_ | refine kN (by kernel_rfl) ?_ | (first | refine kB1 ?_ ?_ | refine kB2 ?_ ?_) <;> intro hp | (first | refine kD1 ?_ ?_ | refine kD2 ?_ ?_ | refine kS1 ?_ ?_ | refine kS2 ?_ ?_) <;> intro hp <;> try simp only [hp] | simp -implicitDefEqProofs (disch := omega) only [go_sem, Nat.reduceAdd, Nat.reduceSub, reduceCtorEq, Nat.reduceLT, Nat.reduceLeDiff, Nat.reduceEqDiff, Nat.reduceMul, Int.reduceToNat, ↓reduceIte, List.take_of_length_le, if_pos, if_neg, List.getElem?_set_self, List.set_set, cnE, cnV, Try.ntmps12, Try.results12,  e1, he, q1, q2])
      try rfl
    · rw [decide_eq_false e2] at q1 ⊢
      repeat' (first | with_reducible first | refine kI (by kernel_rfl) ?_ | refine kN (by kernel_rfl) ?_ | (first | refine kB1 ?_ ?_ | refine kB2 ?_ ?_) <;> intro hp | (first | refine kD1 ?_ ?_ | refine kD2 ?_ ?_ | refine kS1 ?_ ?_ | refine kS2 ?_ ?_) <;> intro hp <;> try simp only [hp] | simp -implicitDefEqProofs (disch := omega) only [go_sem, Nat.reduceAdd, Nat.reduceSub, reduceCtorEq, Nat.reduceLT, Nat.reduceLeDiff, Nat.reduceEqDiff, Nat.reduceMul, Int.reduceToNat, ↓reduceIte, List.take_of_length_le, if_pos, if_neg, List.getElem?_set_self, List.set_set, cnE, cnV, Try.ntmps12, Try.results12,  e1, he, q1])
      try rfl
/-! ### draws -/
theorem rc_2b (bs : List UInt8) (L : List Blk) (A B C : Blk) : RC bs (L.length + 2) (L.length + 4) (fun p => L ++ [A, B, rdB bs p, C]) :=
  ⟨fun p => by simp, by omega, fun p => by simp, fun p q => by simp⟩
set_option maxHeartbeats 4000000 in
set_option maxRecDepth 100000 in
theorem isp_dimOf {Sg : FuncId → Option (List AV → Option AV)} (hS : Sound Try.prog Sg) (h0 : Sg 81 = none) (h1 : Sg 56 = none) (h3 : Sg 82 = none) {bs : List UInt8} {b n : Nat} {rL : Int → List Blk} (hC : RC bs b n rL) (hb : bs.length ≤ 2000) (p : Int) (hp : 0 ≤ p ∧ p ≤ 700000000) (hsv : SomeV) : ISpec Try.prog 47 [.ptr b 1 0 0] (rL p) (fun r L' => ∃ (v : Vi) (d p' : Int), viOK v ∧ r = .tup [viD v, i64 d] ∧ p ≤ p' ∧ p' ≤ p + 300 ∧ L' = rL p') := by
  refine ISpec.ret Try.func47 rfl (vc3_sound Try.pf hS hS _ _ _ ?_)
  repeat' (first | with_reducible first | refine kI (by kernel_rfl) ?_ | (first | refine kB1 ?_ ?_ | refine kB2 ?_ ?_) <;> intro hp | (first | refine kD1 ?_ ?_ | refine kD2 ?_ ?_ | refine kS1 ?_ ?_ | refine kS2 ?_ ?_) <;> intro hp <;> try simp only [hp] | simp -implicitDefEqProofs (disch := omega) only [go_sem, Nat.reduceAdd, Nat.reduceSub, reduceCtorEq, Nat.reduceLT, Nat.reduceLeDiff, Nat.reduceEqDiff, Nat.reduceMul, Int.reduceToNat, ↓reduceIte, List.take_of_length_le, if_pos, if_neg, List.getElem?_set_self, List.set_set, cnE, cnV, Try.ntmps47, Try.results47,  hC.cn, h3, opQ_none])
  refine InlK_intro rfl rfl can_someView ((hsv (hC.app _) hb _ (by omega)).mono ?_)
  rintro r L1 ⟨v, p2, k5, k6, rfl, k7, k8, rfl⟩
  have hw : IntKind.i64.wrap ((v.sh.length : Int) + 1) = ((v.sh.length + 1 : Nat) : Int) := by rw [wrap_in (by omega)]; omega
  repeat' (first | with_reducible first | refine kI (by kernel_rfl) ?_ | (first | refine kB1 ?_ ?_ | refine kB2 ?_ ?_) <;> intro hp | (first | refine kD1 ?_ ?_ | refine kD2 ?_ ?_ | refine kS1 ?_ ?_ | refine kS2 ?_ ?_) <;> intro hp <;> try simp only [hp] | simp -implicitDefEqProofs (disch := omega) only [go_sem, Nat.reduceAdd, Nat.reduceSub, reduceCtorEq, Nat.reduceLT, Nat.reduceLeDiff, Nat.reduceEqDiff, Nat.reduceMul, Int.reduceToNat, ↓reduceIte, List.take_of_length_le, if_pos, if_neg, List.getElem?_set_self, List.set_set, cnE, cnV, Try.ntmps47, Try.results47,  hC.cn])
  refine DrawQ.any [([0, 1, 2, 3, 4, 5, 6, 8, 9, 10, 11, 12], 7), ([], 13), ([14], 15), ([], 16)] [17] [0, 1, 8, 9, 10, 11, 12] (by kernel_rfl) ?_
  repeat' (first | with_reducible first | refine kI (by kernel_rfl) ?_ | (first | refine kB1 ?_ ?_ | refine kB2 ?_ ?_) <;> intro hp | (first | refine kD1 ?_ ?_ | refine kD2 ?_ ?_ | refine kS1 ?_ ?_ | refine kS2 ?_ ?_) <;> intro hp <;> try simp only [hp] | simp -implicitDefEqProofs (disch := omega) only [go_sem, Nat.reduceAdd, Nat.reduceSub, reduceCtorEq, Nat.reduceLT, Nat.reduceLeDiff, Nat.reduceEqDiff, Nat.reduceMul, Int.reduceToNat, ↓reduceIte, List.take_of_length_le, if_pos, if_neg, List.getElem?_set_self, List.set_set, cnE, cnV, Try.ntmps47, Try.results47,  hC.cn, hw, h0, opQ_none])
  refine InlK_intro rfl rfl can_pick ((isp_pick hS (hC.app _) hb _ (by omega) ((v.sh.length + 1 : Nat) : Int) (by omega)).mono ?_)
  rintro r L1 ⟨y1, rfl, -, -, rfl⟩
  repeat' (first | with_reducible first | refine kI (by kernel_rfl) ?_ | (first | refine kB1 ?_ ?_ | refine kB2 ?_ ?_) <;> intro hp | (first | refine kD1 ?_ ?_ | refine kD2 ?_ ?_ | refine kS1 ?_ ?_ | refine kS2 ?_ ?_) <;> intro hp <;> try simp only [hp] | simp -implicitDefEqProofs (disch := omega) only [go_sem, Nat.reduceAdd, Nat.reduceSub, reduceCtorEq, Nat.reduceLT, Nat.reduceLeDiff, Nat.reduceEqDiff, Nat.reduceMul, Int.reduceToNat, ↓reduceIte, List.take_of_length_le, if_pos, if_neg, List.getElem?_set_self, List.set_set, cnE, cnV, Try.ntmps47, Try.results47,  hC.cn, hw, h0, opQ_none])
  refine InlK_intro rfl rfl can_pick ((isp_pick hS (hC.app _) hb _ (by omega) ((v.sh.length + 1 : Nat) : Int) (by omega)).mono ?_)
  rintro r L1 ⟨y2, rfl, -, -, rfl⟩
  repeat' (first | with_reducible first | refine kI (by kernel_rfl) ?_ | (first | refine kB1 ?_ ?_ | refine kB2 ?_ ?_) <;> intro hp | (first | refine kD1 ?_ ?_ | refine kD2 ?_ ?_ | refine kS1 ?_ ?_ | refine kS2 ?_ ?_) <;> intro hp <;> try simp only [hp] | simp -implicitDefEqProofs (disch := omega) only [go_sem, Nat.reduceAdd, Nat.reduceSub, reduceCtorEq, Nat.reduceLT, Nat.reduceLeDiff, Nat.reduceEqDiff, Nat.reduceMul, Int.reduceToNat, ↓reduceIte, List.take_of_length_le, if_pos, if_neg, List.getElem?_set_self, List.set_set, cnE, cnV, Try.ntmps47, Try.results47,  hC.cn, hw, h1, opQ_none])
  refine InlK_intro rfl rfl can_one ((isp_one hS h0 (hC.app _) hb _ (by omega) 2 [0, y1, 1, y2, -1] (by simp)).mono ?_)
  rintro r L1 ⟨d, rfl, -, rfl⟩
  repeat' (first | with_reducible first | refine kI (by kernel_rfl) ?_ | (first | refine kB1 ?_ ?_ | refine kB2 ?_ ?_) <;> intro hp | (first | refine kD1 ?_ ?_ | refine kD2 ?_ ?_ | refine kS1 ?_ ?_ | refine kS2 ?_ ?_) <;> intro hp <;> try simp only [hp] | simp -implicitDefEqProofs (disch := omega) only [go_sem, Nat.reduceAdd, Nat.reduceSub, reduceCtorEq, Nat.reduceLT, Nat.reduceLeDiff, Nat.reduceEqDiff, Nat.reduceMul, Int.reduceToNat, ↓reduceIte, List.take_of_length_le, if_pos, if_neg, List.getElem?_set_self, List.set_set, cnE, cnV, Try.ntmps47, Try.results47,  hC.cn])
  refine ⟨rfl, rfl, ?_⟩
  refine hC.ret0 ⟨v, d, _, ⟨k5, k6⟩, ?_, by omega, by omega, rfl⟩
  rw [selV_tup]
  simp only [List.map_cons, List.map_nil, expE, selC_d, selC_int]
def DimV : Prop := ∀ {bs : List UInt8} {b n : Nat} {rL : Int → List Blk} (hC : RC bs b n rL) (hb : bs.length ≤ 2000) (p : Int) (hp : 0 ≤ p ∧ p ≤ 700000000), ISpec Try.prog 47 [.ptr b 1 0 0] (rL p) fun r L' => ∃ (v : Vi) (d p' : Int), viOK v ∧ r = .tup [viD v, i64 d] ∧ p ≤ p' ∧ p' ≤ p + 300 ∧ L' = rL p'
theorem can_dimOf : CanCall Try.prog 47 := ⟨_, Try.func47, rfl, rfl⟩
set_option maxHeartbeats 4000000 in
set_option maxRecDepth 100000 in
theorem isp_DrawFlipDim {Sg : FuncId → Option (List AV → Option AV)} (hS : Sound Try.prog Sg) (h6 : Sg 48 = none) (h7 : Sg 47 = none) (bs : List UInt8) (hb : bs.length ≤ 1048576) (L : List Blk) (hdv : DimV) : ISpec Try.prog 9 [bytesA 0 bs] (L) (fun r L' => ∃ (v : Vi) (d : Int), viOK v ∧ r = .tup [viD v, i64 d] ∧ L' = L) := by
  refine ISpec.ret Try.func9 rfl (vc3_sound Try.pf hS hS _ _ _ ?_)
  repeat' (first | with_reducible first | refine kI (by kernel_rfl) ?_ | refine kN (by kernel_rfl) ?_ | (first | refine kB1 ?_ ?_ | refine kB2 ?_ ?_) <;> intro hp | (first | refine kD1 ?_ ?_ | refine kD2 ?_ ?_ | refine kS1 ?_ ?_ | refine kS2 ?_ ?_) <;> intro hp <;> try simp only [hp] | simp -implicitDefEqProofs (disch := omega) only [go_sem, Nat.reduceAdd, Nat.reduceSub, reduceCtorEq, Nat.reduceLT, Nat.reduceLeDiff, Nat.reduceEqDiff, Nat.reduceMul, Int.reduceToNat, ↓reduceIte, List.take_of_length_le, if_pos, if_neg, List.getElem?_set_self, List.set_set, cnE, cnV, Try.ntmps9, Try.results9,  h6, opQ_none])
  refine InlK_intro rfl rfl can_newRd ((isp_newReader hS bs hb _).mono ?_)
  rintro r L1 ⟨rfl, rfl⟩
  have hb2 : (bs.take 2000).length ≤ 2000 := by simp; omega
  repeat' (first | with_reducible first | refine kI (by kernel_rfl) ?_ | refine kN (by kernel_rfl) ?_ | (first | refine kB1 ?_ ?_ | refine kB2 ?_ ?_) <;> intro hp | (first | refine kD1 ?_ ?_ | refine kD2 ?_ ?_ | refine kS1 ?_ ?_ | refine kS2 ?_ ?_) <;> intro hp <;> try simp only [hp] | simp -implicitDefEqProofs (disch := omega) only [go_sem, Nat.reduceAdd, Nat.reduceSub, reduceCtorEq, Nat.reduceLT, Nat.reduceLeDiff, Nat.reduceEqDiff, Nat.reduceMul, Int.reduceToNat, ↓reduceIte, List.take_of_length_le, if_pos, if_neg, List.getElem?_set_self, List.set_set, cnE, cnV, Try.ntmps9, Try.results9,  h7, opQ_none])
  refine InlK_intro rfl rfl can_dimOf ((hdv (RC.new1 (bs.take 2000) L _) hb2 0 (by omega)).mono ?_)
  rintro r L1 ⟨v, d, p', k1, rfl, m1, m2, rfl⟩
  repeat' (first | with_reducible first | refine kI (by kernel_rfl) ?_ | refine kN (by kernel_rfl) ?_ | (first | refine kB1 ?_ ?_ | refine kB2 ?_ ?_) <;> intro hp | (first | refine kD1 ?_ ?_ | refine kD2 ?_ ?_ | refine kS1 ?_ ?_ | refine kS2 ?_ ?_) <;> intro hp <;> try simp only [hp] | simp -implicitDefEqProofs (disch := omega) only [go_sem, Nat.reduceAdd, Nat.reduceSub, reduceCtorEq, Nat.reduceLT, Nat.reduceLeDiff, Nat.reduceEqDiff, Nat.reduceMul, Int.reduceToNat, ↓reduceIte, List.take_of_length_le, if_pos, if_neg, List.getElem?_set_self, List.set_set, cnE, cnV, Try.ntmps9, Try.results9])
  refine RetQ.top ?_
  refine ⟨v, d, k1, ?_, rfl⟩
  rw [selV_tup]
  simp only [List.map_cons, List.map_nil, expE, selC_d, selC_int]
set_option maxHeartbeats 4000000 in
set_option maxRecDepth 100000 in
theorem isp_DrawSliceDim {Sg : FuncId → Option (List AV → Option AV)} (hS : Sound Try.prog Sg) (h0 : Sg 81 = none) (h1 : Sg 56 = none) (h6 : Sg 48 = none) (h7 : Sg 47 = none) (h8 : Sg 89 = none) (bs : List UInt8) (hb : bs.length ≤ 1048576) (L : List Blk) (hdv : DimV) : ISpec Try.prog 39 [bytesA 0 bs] (L) (fun r L' => ∃ (v : Vi) (d : Int) (s : Sl), viOK v ∧ r = .tup [viD v, i64 d, slA s] ∧ L' = L) := by
  refine ISpec.ret Try.func39 rfl (vc3_sound Try.pf hS hS _ _ _ ?_)
  repeat' (first | with_reducible first | refine kI (by kernel_rfl) ?_ | refine kN (by kernel_rfl) ?_ | (first | refine kB1 ?_ ?_ | refine kB2 ?_ ?_) <;> intro hp | (first | refine kD1 ?_ ?_ | refine kD2 ?_ ?_ | refine kS1 ?_ ?_ | refine kS2 ?_ ?_) <;> intro hp <;> try simp only [hp] | simp -implicitDefEqProofs (disch := omega) only [go_sem, Nat.reduceAdd, Nat.reduceSub, reduceCtorEq, Nat.reduceLT, Nat.reduceLeDiff, Nat.reduceEqDiff, Nat.reduceMul, Int.reduceToNat, ↓reduceIte, List.take_of_length_le, if_pos, if_neg, List.getElem?_set_self, List.set_set, cnE, cnV, Try.ntmps39, Try.results39,  h6, opQ_none])
  refine InlK_intro rfl rfl can_newRd ((isp_newReader hS bs hb _).mono ?_)
  rintro r L1 ⟨rfl, rfl⟩
  have hb2 : (bs.take 2000).length ≤ 2000 := by simp; omega
  repeat' (first | with_reducible first | refine kI (by kernel_rfl) ?_ | refine kN (by kernel_rfl) ?_ | (first | refine kB1 ?_ ?_ | refine kB2 ?_ ?_) <;> intro hp | (first | refine kD1 ?_ ?_ | refine kD2 ?_ ?_ | refine kS1 ?_ ?_ | refine kS2 ?_ ?_) <;> intro hp <;> try simp only [hp] | simp -implicitDefEqProofs (disch := omega) only [go_sem, Nat.reduceAdd, Nat.reduceSub, reduceCtorEq, Nat.reduceLT, Nat.reduceLeDiff, Nat.reduceEqDiff, Nat.reduceMul, Int.reduceToNat, ↓reduceIte, List.take_of_length_le, if_pos, if_neg, List.getElem?_set_self, List.set_set, cnE, cnV, Try.ntmps39, Try.results39,  h7, opQ_none])
  refine InlK_intro rfl rfl can_dimOf ((hdv (RC.new2 (bs.take 2000) L _ _) hb2 0 (by omega)).mono ?_)
  rintro r L1 ⟨v, d, p', k1, rfl, m1, m2, rfl⟩
  repeat' (first | with_reducible first | refine kI (by kernel_rfl) ?_ | (first | refine kB1 ?_ ?_ | refine kB2 ?_ ?_) <;> intro hp | (first | refine kD1 ?_ ?_ | refine kD2 ?_ ?_ | refine kS1 ?_ ?_ | refine kS2 ?_ ?_) <;> intro hp <;> try simp only [hp] | simp -implicitDefEqProofs (disch := omega) only [go_sem, Nat.reduceAdd, Nat.reduceSub, reduceCtorEq, Nat.reduceLT, Nat.reduceLeDiff, Nat.reduceEqDiff, Nat.reduceMul, Int.reduceToNat, ↓reduceIte, List.take_of_length_le, if_pos, if_neg, List.getElem?_set_self, List.set_set, cnE, cnV, Try.ntmps39, Try.results39])
  refine DrawQ.any [([0, 1, 2], 3), ([], 4), ([5], 6)] [] [0, 1] (by kernel_rfl) ?_
  repeat' (first | with_reducible first | refine kI (by kernel_rfl) ?_ | (first | refine kB1 ?_ ?_ | refine kB2 ?_ ?_) <;> intro hp | (first | refine kD1 ?_ ?_ | refine kD2 ?_ ?_ | refine kS1 ?_ ?_ | refine kS2 ?_ ?_) <;> intro hp <;> try simp only [hp] | simp -implicitDefEqProofs (disch := omega) only [go_sem, Nat.reduceAdd, Nat.reduceSub, reduceCtorEq, Nat.reduceLT, Nat.reduceLeDiff, Nat.reduceEqDiff, Nat.reduceMul, Int.reduceToNat, ↓reduceIte, List.take_of_length_le, if_pos, if_neg, List.getElem?_set_self, List.set_set, cnE, cnV, Try.ntmps39, Try.results39,  h8, opQ_none])
  refine InlK_intro rfl rfl can_someSlice ((isp_someSlice hS h0 h1 (rc_2b (bs.take 2000) L _ _ _) hb2 _ (by omega)).mono ?_)
  rintro r L1 ⟨s, p2, rfl, hs, m3, m4, rfl⟩
  repeat' (first | with_reducible first | refine kI (by kernel_rfl) ?_ | (first | refine kB1 ?_ ?_ | refine kB2 ?_ ?_) <;> intro hp | (first | refine kD1 ?_ ?_ | refine kD2 ?_ ?_ | refine kS1 ?_ ?_ | refine kS2 ?_ ?_) <;> intro hp <;> try simp only [hp] | simp -implicitDefEqProofs (disch := omega) only [go_sem, Nat.reduceAdd, Nat.reduceSub, reduceCtorEq, Nat.reduceLT, Nat.reduceLeDiff, Nat.reduceEqDiff, Nat.reduceMul, Int.reduceToNat, ↓reduceIte, List.take_of_length_le, if_pos, if_neg, List.getElem?_set_self, List.set_set, cnE, cnV, Try.ntmps39, Try.results39])
  refine RetQ.top ?_
  refine ⟨v, d, s, k1, ?_, rfl⟩
  rw [selV_tup]
  simp only [List.map_cons, List.map_nil, expE, selC_d, selC_int]
  simp [selC, selStep, expE]
end Go.Proofs.Ytgpflkmelindfaa
