/- Contracts of functions that the laws of this seat call. -/
import Derived.Test.YtgpflkmelindfaaWg
set_option linter.all false
namespace Go.Proofs.Ytgpflkmelindfaa
open Go Go.Ev Go.RowKit Go.Ev.Enc Go.Pl

/-! ### cells that changed -/
def chgT (a b : List Int) (k : Nat) : List Int := (upV k).filter fun i => !(a.getD i.toNat 0 == b.getD i.toNat 0)
theorem chgT_y {a b : List Int} {k : Nat} (h : ¬ a.getD k 0 = b.getD k 0) : chgT a b k ++ [(k : Int)] = chgT a b (k + 1) := by
  unfold chgT
  rw [← upV_snoc, List.filter_append]
  have : (a.getD k 0 == b.getD k 0) = false := beq_f h
  simp only [List.filter_cons, List.filter_nil, Int.toNat_natCast, this, Bool.not_false, if_true]
theorem chgT_n {a b : List Int} {k : Nat} (h : a.getD k 0 = b.getD k 0) : chgT a b (k + 1) = chgT a b k := by
  unfold chgT
  rw [← upV_snoc, List.filter_append]
  have : (a.getD k 0 == b.getD k 0) = true := beq_t h
  simp only [List.filter_cons, List.filter_nil, Int.toNat_natCast, this, Bool.not_true, Bool.false_eq_true, if_false, List.append_nil]
theorem mem_chg {a b : List Int} {k : Nat} {x : Int} : x ∈ chgT a b k ↔ (0 ≤ x ∧ x < k) ∧ ¬ a.getD x.toNat 0 = b.getD x.toNat 0 := by
  unfold chgT
  rw [List.mem_filter, upV_mem]
  simp
theorem chgT_len (a b : List Int) (k : Nat) : (chgT a b k).length ≤ k := by
  have := List.length_filter_le (fun i : Int => !(a.getD i.toNat 0 == b.getD i.toNat 0)) (upV k)
  rw [upV_len] at this
  exact this
def chgF (a b : List Int) : List Int := if memOK a = true ∧ memOK b = true ∧ a.length = b.length then chgT a b a.length else []
def gChg (a b : List Int) : Option (List Int) := gd (a.length < 4294967296 ∧ b.length < 4294967296) (chgF a b)
theorem gChg_eq {a b : List Int} (h : a.length < 4294967296 ∧ b.length < 4294967296) : gChg a b = some (chgF a b) := gd_eq h
set_option maxHeartbeats 4000000 in
set_option maxRecDepth 100000 in
theorem spec_ChangedBy {Sg : FuncId → Option (List AV → Option AV)} (hS : Sound Try.prog Sg) (hm : Sg 65 = some (F1 gMem)) : ∀ a r, F2 gChg a = some r → CSpec Try.prog 21 a r := by
  refine F2_spec ?_
  intro a b r hr
  obtain ⟨⟨h1, h2⟩, rfl⟩ := gd_some hr
  refine CSpec.intro Try.func21 rfl (own _) (vc3_sound Try.pf hS hS _ _ _ ?_)
  have q1 := gMem_eq h1
  have q2 := gMem_eq h2
  unfold chgF
  cases e1 : memOK a with
  | false =>
    rw [e1] at q1
    rw [if_neg (by simp)]
    repeat' (first | with_reducible first | refine kI (by kernel_rfl) ?_ | refine kN (by kernel_rfl) ?_ | (first | refine kB1 ?_ ?_ | refine kB2 ?_ ?_) <;> intro hp | (first | refine kD1 ?_ ?_ | refine kD2 ?_ ?_ | refine kS1 ?_ ?_ | refine kS2 ?_ ?_) <;> intro hp <;> try simp only [hp] | simp -implicitDefEqProofs (disch := omega) only [go_sem, Nat.reduceAdd, Nat.reduceSub, reduceCtorEq, Nat.reduceLT, Nat.reduceLeDiff, Nat.reduceEqDiff, Nat.reduceMul, Int.reduceToNat, ↓reduceIte, List.take_of_length_le, if_pos, if_neg, List.getElem?_set_self, List.set_set, cnE, cnV, Try.ntmps21, Try.results21,  hm, q1])
  | true =>
    rw [e1] at q1
    cases e2 : memOK b with
    | false =>
      rw [e2] at q2
      rw [if_neg (by simp)]
      repeat' (first | with_reducible first | refine kI (by kernel_rfl) ?_ | refine kN (by kernel_rfl) ?_ | (first | refine kB1 ?_ ?_ | refine kB2 ?_ ?_) <;> intro hp | (first | refine kD1 ?_ ?_ | refine kD2 ?_ ?_ | refine kS1 ?_ ?_ | refine kS2 ?_ ?_) <;> intro hp <;> try simp only [hp] | simp -implicitDefEqProofs (disch := omega) only [go_sem, Nat.reduceAdd, Nat.reduceSub, reduceCtorEq, Nat.reduceLT, Nat.reduceLeDiff, Nat.reduceEqDiff, Nat.reduceMul, Int.reduceToNat, ↓reduceIte, List.take_of_length_le, if_pos, if_neg, List.getElem?_set_self, List.set_set, cnE, cnV, Try.ntmps21, Try.results21,  hm, q1, q2])
    | true =>
      rw [e2] at q2
      by_cases e3 : a.length = b.length
      · rw [if_pos ⟨rfl, rfl, e3⟩]
        have e3' : ((a.length : Int) == (b.length : Int)) = true := beq_t (by omega)
        have hla := (memOK_iff.1 e1).1
        repeat' (first | with_reducible first | refine kI (by kernel_rfl) ?_ | refine kN (by kernel_rfl) ?_ | (first | refine kB1 ?_ ?_ | refine kB2 ?_ ?_) <;> intro hp | (first | refine kD1 ?_ ?_ | refine kD2 ?_ ?_ | refine kS1 ?_ ?_ | refine kS2 ?_ ?_) <;> intro hp <;> try simp only [hp] | simp -implicitDefEqProofs (disch := omega) only [go_sem, Nat.reduceAdd, Nat.reduceSub, reduceCtorEq, Nat.reduceLT, Nat.reduceLeDiff, Nat.reduceEqDiff, Nat.reduceMul, Int.reduceToNat, ↓reduceIte, List.take_of_length_le, if_pos, if_neg, List.getElem?_set_self, List.set_set, cnE, cnV, Try.ntmps21, Try.results21,  hm, q1, q2, e3'])
        refine LoopQ.mix (fun t0 L0 nn ss => ∃ (k : Nat) (c : Nat) (q : List Int) (_ : Unit), (∃ x : Nat → AV, ss = ⟨mixL 0 (.k :: .k :: .k :: .k :: .k :: .v (.sl 0 c 0 c c) :: .s :: .k :: .k :: .k :: .k :: .k :: .k :: .k :: .k :: .k :: .k :: .k :: .k :: .k :: .k :: .k :: .k :: .k :: .k :: .v (i64 (k : Nat)) :: .s :: .s :: .s :: .s :: .s :: .s :: .s :: .s :: .s :: .s :: .s :: .s :: .s :: .s :: .s :: .s :: .k :: []) t0 x, [⟨1, q.map fun n => .int .i64 n⟩]⟩) ∧ (k ≤ a.length) ∧ (q.length = c ∧ c ≤ k) ∧ (q = chgT a b k) ∧ nn = a.length - k) ?_ ?_
        · exact ⟨_, ⟨0, 0, [], (), mixI rfl, Nat.zero_le _, ⟨rfl, Nat.zero_le _⟩, rfl, rfl⟩⟩
        · rintro I0 hI0 nn s ⟨k, c, q, _, ⟨x, rfl⟩, g1, ⟨g2, g2'⟩, g3, rfl⟩
          by_cases hk : k < a.length
          · have hki : (k : Int) < (a.length : Int) := by omega
            have hkb : k < b.length := by omega
            by_cases he : a.getD k 0 = b.getD k 0
            · have hs := chgT_n he
              have he' : (a.getD k 0 == b.getD k 0) = true := beq_t he
              repeat' (first | with_reducible first | refine kI (by kernel_rfl) ?_ | refine kN (by kernel_rfl) ?_ | (first | refine kB1 ?_ ?_ | refine kB2 ?_ ?_) <;> intro hp | (first | refine kD1 ?_ ?_ | refine kD2 ?_ ?_ | refine kS1 ?_ ?_ | refine kS2 ?_ ?_) <;> intro hp <;> try simp only [hp] | simp -implicitDefEqProofs (disch := omega) only [go_sem, Nat.reduceAdd, Nat.reduceSub, reduceCtorEq, Nat.reduceLT, Nat.reduceLeDiff, Nat.reduceEqDiff, Nat.reduceMul, Int.reduceToNat, ↓reduceIte, List.take_of_length_le, if_pos, if_neg, List.getElem?_set_self, List.set_set, cnE, cnV, Try.ntmps21, Try.results21,  hki, getD_ints hk, getD_ints hkb, he'])
              exact ⟨a.length - (k + 1), by omega, hI0 _ _ ⟨k + 1, c, q, (), mixI rfl, hk, ⟨g2, by omega⟩, by rw [hs, g3], rfl⟩⟩
            · have hs := chgT_y he
              rw [← g3] at hs
              have he' : (a.getD k 0 == b.getD k 0) = false := beq_f he
              repeat' (first | with_reducible first | refine kI (by kernel_rfl) ?_ | refine kN (by kernel_rfl) ?_ | (first | refine kB1 ?_ ?_ | refine kB2 ?_ ?_) <;> intro hp | (first | refine kD1 ?_ ?_ | refine kD2 ?_ ?_ | refine kS1 ?_ ?_ | refine kS2 ?_ ?_) <;> intro hp <;> try simp only [hp] | simp -implicitDefEqProofs (disch := omega) only [go_sem, Nat.reduceAdd, Nat.reduceSub, reduceCtorEq, Nat.reduceLT, Nat.reduceLeDiff, Nat.reduceEqDiff, Nat.reduceMul, Int.reduceToNat, ↓reduceIte, List.take_of_length_le, if_pos, if_neg, List.getElem?_set_self, List.set_set, cnE, cnV, Try.ntmps21, Try.results21,  hki, getD_ints hk, getD_ints hkb, he'])
              exact ⟨a.length - (k + 1), by omega, hI0 _ _ ⟨k + 1, c + 1, q ++ [(k : Int)], (), mixI rfl, hk, ⟨by simp [g2], by omega⟩, hs, rfl⟩⟩
          · obtain rfl : k = a.length := by omega
            subst g3
            repeat' (first | with_reducible first | refine kI (by kernel_rfl) ?_ | refine kN (by kernel_rfl) ?_ | (first | refine kB1 ?_ ?_ | refine kB2 ?_ ?_) <;> intro hp | (first | refine kD1 ?_ ?_ | refine kD2 ?_ ?_ | refine kS1 ?_ ?_ | refine kS2 ?_ ?_) <;> intro hp <;> try simp only [hp] | simp -implicitDefEqProofs (disch := omega) only [go_sem, Nat.reduceAdd, Nat.reduceSub, reduceCtorEq, Nat.reduceLT, Nat.reduceLeDiff, Nat.reduceEqDiff, Nat.reduceMul, Int.reduceToNat, ↓reduceIte, List.take_of_length_le, if_pos, if_neg, List.getElem?_set_self, List.set_set, cnE, cnV, Try.ntmps21, Try.results21])
      · rw [if_neg (fun h => e3 h.2.2)]
        have e3' : ((a.length : Int) == (b.length : Int)) = false := beq_f (by omega)
        repeat' (first | with_reducible first | refine kI (by kernel_rfl) ?_ | refine kN (by kernel_rfl) ?_ | (first | refine kB1 ?_ ?_ | refine kB2 ?_ ?_) <;> intro hp | (first | refine kD1 ?_ ?_ | refine kD2 ?_ ?_ | refine kS1 ?_ ?_ | refine kS2 ?_ ?_) <;> intro hp <;> try simp only [hp] | simp -implicitDefEqProofs (disch := omega) only [go_sem, Nat.reduceAdd, Nat.reduceSub, reduceCtorEq, Nat.reduceLT, Nat.reduceLeDiff, Nat.reduceEqDiff, Nat.reduceMul, Int.reduceToNat, ↓reduceIte, List.take_of_length_le, if_pos, if_neg, List.getElem?_set_self, List.set_set, cnE, cnV, Try.ntmps21, Try.results21,  hm, q1, q2, e3'])
theorem chg_sto {m A V : List Int} {k : Nat} (hA : inM A m.length) (hk : k ≤ A.length) : ∀ x ∈ chgF m (stoT m A V k), x ∈ A := fun x hx => by
  unfold chgF at hx
  split at hx
  · obtain ⟨⟨h0, h1⟩, hne⟩ := mem_chg.1 hx
    apply Classical.byContradiction
    intro hna
    refine hne (stoT_out k fun j hj he => hna ?_).symm
    have hjl : j < A.length := by omega
    have := hA _ (gmem hjl)
    have e : A.getD j 0 = x := by omega
    rw [← e]; exact gmem hjl
  · simp at hx
/-! ### draws -/
theorem rc_1b (bs : List UInt8) (L : List Blk) (A B : Blk) : RC bs (L.length + 1) (L.length + 3) (fun p => L ++ [A, rdB bs p, B]) :=
  ⟨fun p => by simp, by omega, fun p => by simp, fun p q => by simp⟩
set_option maxHeartbeats 4000000 in
set_option maxRecDepth 100000 in
theorem isp_someMemory {Sg : FuncId → Option (List AV → Option AV)} (hS : Sound Try.prog Sg) (h0 : Sg 81 = none) (h1 : Sg 56 = none) {bs : List UInt8} {b n : Nat} {rL : Int → List Blk} (hC : RC bs b n rL) (hb : bs.length ≤ 2000) (p : Int) (hp : 0 ≤ p ∧ p ≤ 700000000) : ISpec Try.prog 106 [.ptr b 1 0 0] (rL p) (fun r L' => ∃ (m : List Int) (p' : Int), m.length ≤ 60 ∧ r = ints 1 m ∧ p ≤ p' ∧ p' ≤ p + 70 ∧ L' = rL p') := by
  refine ISpec.ret Try.func106 rfl (vc3_sound Try.pf hS hS _ _ _ ?_)
  repeat' (first | with_reducible first | refine kI (by kernel_rfl) ?_ | refine kN (by kernel_rfl) ?_ | (first | refine kB1 ?_ ?_ | refine kB2 ?_ ?_) <;> intro hp | (first | refine kD1 ?_ ?_ | refine kD2 ?_ ?_ | refine kS1 ?_ ?_ | refine kS2 ?_ ?_) <;> intro hp <;> try simp only [hp] | simp -implicitDefEqProofs (disch := omega) only [go_sem, Nat.reduceAdd, Nat.reduceSub, reduceCtorEq, Nat.reduceLT, Nat.reduceLeDiff, Nat.reduceEqDiff, Nat.reduceMul, Int.reduceToNat, ↓reduceIte, List.take_of_length_le, if_pos, if_neg, List.getElem?_set_self, List.set_set, cnE, cnV, Try.ntmps106, Try.results106,  hC.cn, h1, opQ_none])
  refine InlK_intro rfl rfl can_one ((isp_one hS h0 (hC.app _) hb p (by omega) 2 [20, 30, 16, 60, 12, 5] (by decide)).mono ?_)
  rintro r L1 ⟨v, rfl, m1, rfl⟩
  have hv : 5 ≤ v ∧ v ≤ 60 := by simp at m1; omega
  repeat' (first | with_reducible first | refine kI (by kernel_rfl) ?_ | refine kN (by kernel_rfl) ?_ | (first | refine kB1 ?_ ?_ | refine kB2 ?_ ?_) <;> intro hp | (first | refine kD1 ?_ ?_ | refine kD2 ?_ ?_ | refine kS1 ?_ ?_ | refine kS2 ?_ ?_) <;> intro hp <;> try simp only [hp] | simp -implicitDefEqProofs (disch := omega) only [go_sem, Nat.reduceAdd, Nat.reduceSub, reduceCtorEq, Nat.reduceLT, Nat.reduceLeDiff, Nat.reduceEqDiff, Nat.reduceMul, Int.reduceToNat, ↓reduceIte, List.take_of_length_le, if_pos, if_neg, List.getElem?_set_self, List.set_set, cnE, cnV, Try.ntmps106, Try.results106,  hC.cn])
  refine LoopQ.mix (fun t0 L0 nn ss => ∃ (j : Nat) (c : Nat) (q : List Int) (p1 : Int) (_ : Unit), (∃ x : Nat → AV, ss = ⟨mixL 0 (.k :: .k :: .k :: .v (.sl n c 0 c c) :: .v (i64 (j : Nat)) :: .k :: .k :: .k :: .k :: .s :: .s :: .s :: .s :: .s :: .s :: .s :: .s :: .s :: .k :: .k :: .k :: .k :: .k :: .k :: .k :: .k :: .k :: []) t0 x, rL p1 ++ [⟨1, q.map fun n => .int .i64 n⟩]⟩) ∧ (q.length = c) ∧ (c + j ≤ 60 ∧ 5 ≤ c + j) ∧ (p ≤ p1) ∧ (p1 + j ≤ p + 61) ∧ nn = 2 * j) ?_ ?_
  · exact ⟨_, v.toNat, 0, [], p + 1, (), mixJ (by rw [show ((v.toNat : Nat) : Int) = v from by omega]; rfl) rfl, rfl, by omega, by omega, by omega, rfl⟩
  · rintro I0 hI0 mm ss ⟨j, c, q, p1, _, ⟨x, rfl⟩, g1, g2, g3, g4, rfl⟩
    by_cases hj0 : j = 0
    · subst hj0
      repeat' (first | with_reducible first | refine kI (by kernel_rfl) ?_ | refine kN (by kernel_rfl) ?_ | (first | refine kB1 ?_ ?_ | refine kB2 ?_ ?_) <;> intro hp | (first | refine kD1 ?_ ?_ | refine kD2 ?_ ?_ | refine kS1 ?_ ?_ | refine kS2 ?_ ?_) <;> intro hp <;> try simp only [hp] | simp -implicitDefEqProofs (disch := omega) only [go_sem, Nat.reduceAdd, Nat.reduceSub, reduceCtorEq, Nat.reduceLT, Nat.reduceLeDiff, Nat.reduceEqDiff, Nat.reduceMul, Int.reduceToNat, ↓reduceIte, List.take_of_length_le, if_pos, if_neg, List.getElem?_set_self, List.set_set, cnE, cnV, Try.ntmps106, Try.results106,  hC.cn, h0, opQ_none])
      refine InlK_intro rfl rfl can_pick ((isp_pick hS (hC.app _) hb _ (by omega) 24 (by omega)).mono ?_)
      rintro r L1 ⟨ch, rfl, -, -, rfl⟩
      by_cases hch : ch = 0
      · have hch' : (ch == 0) = true := beq_t hch
        have hc0 : 0 < c := by omega
        repeat' (first | with_reducible first | refine kI (by kernel_rfl) ?_ | refine kN (by kernel_rfl) ?_ | (first | refine kB1 ?_ ?_ | refine kB2 ?_ ?_) <;> intro hp | (first | refine kD1 ?_ ?_ | refine kD2 ?_ ?_ | refine kS1 ?_ ?_ | refine kS2 ?_ ?_) <;> intro hp <;> try simp only [hp] | simp -implicitDefEqProofs (disch := omega) only [go_sem, Nat.reduceAdd, Nat.reduceSub, reduceCtorEq, Nat.reduceLT, Nat.reduceLeDiff, Nat.reduceEqDiff, Nat.reduceMul, Int.reduceToNat, ↓reduceIte, List.take_of_length_le, if_pos, if_neg, List.getElem?_set_self, List.set_set, cnE, cnV, Try.ntmps106, Try.results106,  hC.cn, hch', h1, opQ_none])
        refine InlK_intro rfl rfl can_one ((isp_one hS h0 (hC.app _) hb _ (by omega) 2 [-1, 256] (by decide)).mono ?_)
        rintro r L1 ⟨z, rfl, -, rfl⟩
        have hls : (q.set 0 z).length = c := by rw [List.length_set]; exact g1
        repeat' (first | with_reducible first | refine kI (by kernel_rfl) ?_ | refine kN (by kernel_rfl) ?_ | (first | refine kB1 ?_ ?_ | refine kB2 ?_ ?_) <;> intro hp | (first | refine kD1 ?_ ?_ | refine kD2 ?_ ?_ | refine kS1 ?_ ?_ | refine kS2 ?_ ?_) <;> intro hp <;> try simp only [hp] | simp -implicitDefEqProofs (disch := omega) only [go_sem, Nat.reduceAdd, Nat.reduceSub, reduceCtorEq, Nat.reduceLT, Nat.reduceLeDiff, Nat.reduceEqDiff, Nat.reduceMul, Int.reduceToNat, ↓reduceIte, List.take_of_length_le, if_pos, if_neg, List.getElem?_set_self, List.set_set, cnE, cnV, Try.ntmps106, Try.results106,  hC.cn, g1, hc0, map_setI])
        exact hC.ret0 ⟨q.set 0 z, _, by rw [List.length_set]; omega, by rw [← hls, selV_sl, selC_ints gR_n (by rw [hC.at0]; rfl)], by omega, by omega, rfl⟩
      · have hch' : (ch == 0) = false := beq_f hch
        repeat' (first | with_reducible first | refine kI (by kernel_rfl) ?_ | refine kN (by kernel_rfl) ?_ | (first | refine kB1 ?_ ?_ | refine kB2 ?_ ?_) <;> intro hp | (first | refine kD1 ?_ ?_ | refine kD2 ?_ ?_ | refine kS1 ?_ ?_ | refine kS2 ?_ ?_) <;> intro hp <;> try simp only [hp] | simp -implicitDefEqProofs (disch := omega) only [go_sem, Nat.reduceAdd, Nat.reduceSub, reduceCtorEq, Nat.reduceLT, Nat.reduceLeDiff, Nat.reduceEqDiff, Nat.reduceMul, Int.reduceToNat, ↓reduceIte, List.take_of_length_le, if_pos, if_neg, List.getElem?_set_self, List.set_set, cnE, cnV, Try.ntmps106, Try.results106,  hC.cn, hch'])
        exact hC.ret0 ⟨q, _, by omega, by rw [← g1, selV_sl, selC_ints gR_n (by rw [hC.at0]; rfl)], by omega, by omega, rfl⟩
    · obtain ⟨i, rfl⟩ : ∃ i, j = i + 1 := ⟨j - 1, by omega⟩
      have hwj : IntKind.i64.wrap (((i + 1 : Nat) : Int) - 1) = (i : Int) := by rw [wrap_in (by omega)]; omega
      repeat' (first | with_reducible first | refine kI (by kernel_rfl) ?_ | refine kN (by kernel_rfl) ?_ | (first | refine kB1 ?_ ?_ | refine kB2 ?_ ?_) <;> intro hp | (first | refine kD1 ?_ ?_ | refine kD2 ?_ ?_ | refine kS1 ?_ ?_ | refine kS2 ?_ ?_) <;> intro hp <;> try simp only [hp] | simp -implicitDefEqProofs (disch := omega) only [go_sem, Nat.reduceAdd, Nat.reduceSub, reduceCtorEq, Nat.reduceLT, Nat.reduceLeDiff, Nat.reduceEqDiff, Nat.reduceMul, Int.reduceToNat, ↓reduceIte, List.take_of_length_le, if_pos, if_neg, List.getElem?_set_self, List.set_set, cnE, cnV, Try.ntmps106, Try.results106,  hC.cn, h0, opQ_none])
      refine InlK_intro rfl rfl can_pick ((isp_pick hS (hC.app _) hb _ (by omega) 256 (by omega)).mono ?_)
      rintro r L1 ⟨y, rfl, -, -, rfl⟩
      have hA := evApp_rc hC (p1 + 1) [] (by' := 8) (k := c) (q := q) (x := y) g1 (by omega) (by omega)
      repeat' (first | with_reducible first | refine kI (by kernel_rfl) ?_ | refine kN (by kernel_rfl) ?_ | (first | refine kB1 ?_ ?_ | refine kB2 ?_ ?_) <;> intro hp | (first | refine kD1 ?_ ?_ | refine kD2 ?_ ?_ | refine kS1 ?_ ?_ | refine kS2 ?_ ?_) <;> intro hp <;> try simp only [hp] | simp -implicitDefEqProofs (disch := omega) only [go_sem, Nat.reduceAdd, Nat.reduceSub, reduceCtorEq, Nat.reduceLT, Nat.reduceLeDiff, Nat.reduceEqDiff, Nat.reduceMul, Int.reduceToNat, ↓reduceIte, List.take_of_length_le, if_pos, if_neg, List.getElem?_set_self, List.set_set, cnE, cnV, Try.ntmps106, Try.results106,  hC.cn, hA, hwj])
      exact ⟨2 * i, by omega, hI0 _ _ ⟨i, c + 1, q ++ [y], p1 + 1, (), mixI rfl, by simp [g1], by omega, by omega, by omega, rfl⟩⟩
def SomeM : Prop := ∀ {bs : List UInt8} {b n : Nat} {rL : Int → List Blk} (hC : RC bs b n rL) (hb : bs.length ≤ 2000) (p : Int) (hp : 0 ≤ p ∧ p ≤ 700000000), ISpec Try.prog 106 [.ptr b 1 0 0] (rL p) fun r L' => ∃ (m : List Int) (p' : Int), m.length ≤ 60 ∧ r = ints 1 m ∧ p ≤ p' ∧ p' ≤ p + 70 ∧ L' = rL p'
theorem can_someMemory : CanCall Try.prog 106 := ⟨_, Try.func106, rfl, rfl⟩
set_option maxHeartbeats 4000000 in
set_option maxRecDepth 100000 in
theorem isp_memView {Sg : FuncId → Option (List AV → Option AV)} (hS : Sound Try.prog Sg) (h2 : Sg 106 = none) (h3 : Sg 82 = none) {bs : List UInt8} {b n : Nat} {rL : Int → List Blk} (hC : RC bs b n rL) (hb : bs.length ≤ 2000) (p : Int) (hp : 0 ≤ p ∧ p ≤ 700000000) (hsm : SomeM) (hsv : SomeV) : ISpec Try.prog 55 [.ptr b 1 0 0] (rL p) (fun r L' => ∃ (m : List Int) (v : Vi) (p' : Int), m.length ≤ 60 ∧ viOK v ∧ r = .tup [ints 1 m, viD v] ∧ p ≤ p' ∧ p' ≤ p + 300 ∧ L' = rL p') := by
  refine ISpec.ret Try.func55 rfl (vc3_sound Try.pf hS hS _ _ _ ?_)
  repeat' (first | with_reducible first | refine kI (by kernel_rfl) ?_ | refine kN (by kernel_rfl) ?_ | (first | refine kB1 ?_ ?_ | refine kB2 ?_ ?_) <;> intro hp | (first | refine kD1 ?_ ?_ | refine kD2 ?_ ?_ | refine kS1 ?_ ?_ | refine kS2 ?_ ?_) <;> intro hp <;> try simp only [hp] | simp -implicitDefEqProofs (disch := omega) only [go_sem, Nat.reduceAdd, Nat.reduceSub, reduceCtorEq, Nat.reduceLT, Nat.reduceLeDiff, Nat.reduceEqDiff, Nat.reduceMul, Int.reduceToNat, ↓reduceIte, List.take_of_length_le, if_pos, if_neg, List.getElem?_set_self, List.set_set, cnE, cnV, Try.ntmps55, Try.results55,  hC.cn, h2, opQ_none])
  refine InlK_intro rfl rfl can_someMemory ((hsm (hC.app _) hb p (by omega)).mono ?_)
  rintro r L1 ⟨m, p1, k1, rfl, k2, k3, rfl⟩
  repeat' (first | with_reducible first | refine kI (by kernel_rfl) ?_ | refine kN (by kernel_rfl) ?_ | (first | refine kB1 ?_ ?_ | refine kB2 ?_ ?_) <;> intro hp | (first | refine kD1 ?_ ?_ | refine kD2 ?_ ?_ | refine kS1 ?_ ?_ | refine kS2 ?_ ?_) <;> intro hp <;> try simp only [hp] | simp -implicitDefEqProofs (disch := omega) only [go_sem, Nat.reduceAdd, Nat.reduceSub, reduceCtorEq, Nat.reduceLT, Nat.reduceLeDiff, Nat.reduceEqDiff, Nat.reduceMul, Int.reduceToNat, ↓reduceIte, List.take_of_length_le, if_pos, if_neg, List.getElem?_set_self, List.set_set, cnE, cnV, Try.ntmps55, Try.results55,  hC.cn, h3, opQ_none])
  refine InlK_intro rfl rfl can_someView ((hsv (hC.app _) hb _ (by omega)).mono ?_)
  rintro r L1 ⟨v, p2, k5, k6, rfl, k7, k8, rfl⟩
  repeat' (first | with_reducible first | refine kI (by kernel_rfl) ?_ | refine kN (by kernel_rfl) ?_ | (first | refine kB1 ?_ ?_ | refine kB2 ?_ ?_) <;> intro hp | (first | refine kD1 ?_ ?_ | refine kD2 ?_ ?_ | refine kS1 ?_ ?_ | refine kS2 ?_ ?_) <;> intro hp <;> try simp only [hp] | simp -implicitDefEqProofs (disch := omega) only [go_sem, Nat.reduceAdd, Nat.reduceSub, reduceCtorEq, Nat.reduceLT, Nat.reduceLeDiff, Nat.reduceEqDiff, Nat.reduceMul, Int.reduceToNat, ↓reduceIte, List.take_of_length_le, if_pos, if_neg, List.getElem?_set_self, List.set_set, cnE, cnV, Try.ntmps55, Try.results55,  hC.cn])
  refine hC.ret0 ⟨m, v, p2, k1, ⟨k5, k6⟩, ?_, by omega, by omega, rfl⟩
  rw [selV_tup]
  simp only [List.map_cons, List.map_nil, expE, selC_d, selC_int]
def MemV : Prop := ∀ {bs : List UInt8} {b n : Nat} {rL : Int → List Blk} (hC : RC bs b n rL) (hb : bs.length ≤ 2000) (p : Int) (hp : 0 ≤ p ∧ p ≤ 700000000), ISpec Try.prog 55 [.ptr b 1 0 0] (rL p) fun r L' => ∃ (m : List Int) (v : Vi) (p' : Int), m.length ≤ 60 ∧ viOK v ∧ r = .tup [ints 1 m, viD v] ∧ p ≤ p' ∧ p' ≤ p + 300 ∧ L' = rL p'
theorem can_memView : CanCall Try.prog 55 := ⟨_, Try.func55, rfl, rfl⟩
set_option maxHeartbeats 4000000 in
set_option maxRecDepth 100000 in
theorem isp_DrawFillView {Sg : FuncId → Option (List AV → Option AV)} (hS : Sound Try.prog Sg) (h0 : Sg 81 = none) (h1 : Sg 56 = none) (h6 : Sg 48 = none) (h7 : Sg 55 = none) (bs : List UInt8) (hb : bs.length ≤ 1048576) (L : List Blk) (hmv : MemV) : ISpec Try.prog 16 [bytesA 0 bs] (L) (fun r L' => ∃ (m : List Int) (v : Vi) (x : Int), m.length ≤ 60 ∧ viOK v ∧ r = .tup [ints 1 m, viD v, i64 x] ∧ L' = L) := by
  refine ISpec.ret Try.func16 rfl (vc3_sound Try.pf hS hS _ _ _ ?_)
  repeat' (first | with_reducible first | refine kI (by kernel_rfl) ?_ | refine kN (by kernel_rfl) ?_ | (first | refine kB1 ?_ ?_ | refine kB2 ?_ ?_) <;> intro hp | (first | refine kD1 ?_ ?_ | refine kD2 ?_ ?_ | refine kS1 ?_ ?_ | refine kS2 ?_ ?_) <;> intro hp <;> try simp only [hp] | simp -implicitDefEqProofs (disch := omega) only [go_sem, Nat.reduceAdd, Nat.reduceSub, reduceCtorEq, Nat.reduceLT, Nat.reduceLeDiff, Nat.reduceEqDiff, Nat.reduceMul, Int.reduceToNat, ↓reduceIte, List.take_of_length_le, if_pos, if_neg, List.getElem?_set_self, List.set_set, cnE, cnV, Try.ntmps16, Try.results16,  h6, opQ_none])
  refine InlK_intro rfl rfl can_newRd ((isp_newReader hS bs hb _).mono ?_)
  rintro r L1 ⟨rfl, rfl⟩
  have hb2 : (bs.take 2000).length ≤ 2000 := by simp; omega
  repeat' (first | with_reducible first | refine kI (by kernel_rfl) ?_ | refine kN (by kernel_rfl) ?_ | (first | refine kB1 ?_ ?_ | refine kB2 ?_ ?_) <;> intro hp | (first | refine kD1 ?_ ?_ | refine kD2 ?_ ?_ | refine kS1 ?_ ?_ | refine kS2 ?_ ?_) <;> intro hp <;> try simp only [hp] | simp -implicitDefEqProofs (disch := omega) only [go_sem, Nat.reduceAdd, Nat.reduceSub, reduceCtorEq, Nat.reduceLT, Nat.reduceLeDiff, Nat.reduceEqDiff, Nat.reduceMul, Int.reduceToNat, ↓reduceIte, List.take_of_length_le, if_pos, if_neg, List.getElem?_set_self, List.set_set, cnE, cnV, Try.ntmps16, Try.results16,  h7, opQ_none])
  refine InlK_intro rfl rfl can_memView ((hmv (RC.new1 (bs.take 2000) L _) hb2 0 (by omega)).mono ?_)
  rintro r L1 ⟨m, v, p', k1, k2, rfl, m1, m2, rfl⟩
  repeat' (first | with_reducible first | refine kI (by kernel_rfl) ?_ | (first | refine kB1 ?_ ?_ | refine kB2 ?_ ?_) <;> intro hp | (first | refine kD1 ?_ ?_ | refine kD2 ?_ ?_ | refine kS1 ?_ ?_ | refine kS2 ?_ ?_) <;> intro hp <;> try simp only [hp] | simp -implicitDefEqProofs (disch := omega) only [go_sem, Nat.reduceAdd, Nat.reduceSub, reduceCtorEq, Nat.reduceLT, Nat.reduceLeDiff, Nat.reduceEqDiff, Nat.reduceMul, Int.reduceToNat, ↓reduceIte, List.take_of_length_le, if_pos, if_neg, List.getElem?_set_self, List.set_set, cnE, cnV, Try.ntmps16, Try.results16])
  refine DrawQ.any [([0, 1, 2, 3], 4), ([5], 6)] [7] [0, 1] (by kernel_rfl) ?_
  repeat' (first | with_reducible first | refine kI (by kernel_rfl) ?_ | (first | refine kB1 ?_ ?_ | refine kB2 ?_ ?_) <;> intro hp | (first | refine kD1 ?_ ?_ | refine kD2 ?_ ?_ | refine kS1 ?_ ?_ | refine kS2 ?_ ?_) <;> intro hp <;> try simp only [hp] | simp -implicitDefEqProofs (disch := omega) only [go_sem, Nat.reduceAdd, Nat.reduceSub, reduceCtorEq, Nat.reduceLT, Nat.reduceLeDiff, Nat.reduceEqDiff, Nat.reduceMul, Int.reduceToNat, ↓reduceIte, List.take_of_length_le, if_pos, if_neg, List.getElem?_set_self, List.set_set, cnE, cnV, Try.ntmps16, Try.results16,  h1, opQ_none])
  refine InlK_intro rfl rfl can_one ((isp_one hS h0 (rc_1b (bs.take 2000) L _ _) hb2 _ (by omega) 2 [7, 255, 0, 256, -1] (by decide)).mono ?_)
  rintro r L1 ⟨x, rfl, -, rfl⟩
  repeat' (first | with_reducible first | refine kI (by kernel_rfl) ?_ | (first | refine kB1 ?_ ?_ | refine kB2 ?_ ?_) <;> intro hp | (first | refine kD1 ?_ ?_ | refine kD2 ?_ ?_ | refine kS1 ?_ ?_ | refine kS2 ?_ ?_) <;> intro hp <;> try simp only [hp] | simp -implicitDefEqProofs (disch := omega) only [go_sem, Nat.reduceAdd, Nat.reduceSub, reduceCtorEq, Nat.reduceLT, Nat.reduceLeDiff, Nat.reduceEqDiff, Nat.reduceMul, Int.reduceToNat, ↓reduceIte, List.take_of_length_le, if_pos, if_neg, List.getElem?_set_self, List.set_set, cnE, cnV, Try.ntmps16, Try.results16])
  refine RetQ.top ⟨m, v, x, k1, k2, ?_, rfl⟩
  rw [selV_tup]
  simp only [List.map_cons, List.map_nil, expE, selC_d, selC_int]
end Go.Proofs.Ytgpflkmelindfaa
