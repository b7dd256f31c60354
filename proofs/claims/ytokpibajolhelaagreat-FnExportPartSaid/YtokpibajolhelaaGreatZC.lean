/- Contracts of functions on views and memories that the laws of this seat call. -/
import Derived.Test.YtokpibajolhelaaGreatZB
import Derived.Test.YtokpibajolhelaaGreatEvC
set_option linter.all false
namespace Go.Proofs.YtokpibajolhelaaGreat
open Go Go.Ev Go.RowKit Go.Ev.Enc Go.Pl

set_option maxHeartbeats 4000000 in
set_option maxRecDepth 100000 in
theorem o_NewBufferS {Sg : FuncId → Option (List AV → Option AV)} (hS : Sound Tryz.prog Sg) (hr : Sg 54 = some (F3 gInRange)) (n : Nat) (h : n ≤ 60) : OSpec Tryz.prog 104 [i64 (n : Nat)] (bfR ⟨List.replicate n 0, []⟩) (bfN ⟨List.replicate n 0, []⟩) := by
  refine OSpec.ofR Tryz.func104 rfl (vc3_sound Tryz.pf hS hS _ _ _ ?_)
  have q1 := gInRange_eq (n : Int) 0 60
  have e : inR (n : Int) 0 60 = true := by unfold inR; simp; omega
  rw [e] at q1
  repeat' (first | with_reducible first | refine kI (by kernel_rfl) ?_ | refine kN (by kernel_rfl) ?_ | (first | refine kB1 ?_ ?_ | refine kB2 ?_ ?_) <;> intro hp | (first | refine kD1 ?_ ?_ | refine kD2 ?_ ?_ | refine kS1 ?_ ?_ | refine kS2 ?_ ?_) <;> intro hp <;> try simp only [hp] | simp -implicitDefEqProofs (disch := omega) only [go_sem, Nat.reduceAdd, Nat.reduceSub, reduceCtorEq, Nat.reduceLT, Nat.reduceLeDiff, Nat.reduceEqDiff, Nat.reduceMul, Int.reduceToNat, ↓reduceIte, List.take_of_length_le, if_pos, if_neg, List.getElem?_set_self, List.set_set, getD_exs, cnE, cnV, Tryz.ntmps104, Tryz.results104,  hr, q1])
  have hl : (List.replicate n (0 : Int)).length = n := List.length_replicate
  rw [show (.sl 1 n 0 n n : AV) = .sl 1 (List.replicate n (0 : Int)).length 0 (List.replicate n (0 : Int)).length (List.replicate n (0 : Int)).length by rw [hl]]
  exact ret_B (B := ⟨List.replicate n 0, []⟩) (i := 1) rfl (exAt_e rfl) (by intro j v o n c hj; cases hj)
theorem new_ok {n : Nat} (h : n ≤ 60) : bufOK ⟨List.replicate n 0, []⟩ = true :=
  bufOK_iff.2 ⟨memOK_iff.2 ⟨by simpa using h, fun x hx => by rw [List.eq_of_mem_replicate hx]; decide⟩, by simp, fun i hi => by simp at hi⟩
theorem get_rd {bs : List UInt8} {b n : Nat} {rL : Int → List Blk} (hC : RC bs b n rL) {p : Int} {i : Nat} {k : Blk} (h : (rL p)[i]? = some k) (hk : k.esz ≠ 2) (q : Int) : (rL q)[i]? = some k := by
  rw [← hC.set p q, List.getElem?_set_ne]
  · exact h
  · rintro rfl
    rw [hC.get] at h
    have : rdB bs p = k := by simpa using h
    exact hk (by rw [← this])
theorem BR.rd {bs : List UInt8} {b n : Nat} {rL : Int → List Blk} (hC : RC bs b n rL) {lo : Nat} {p : Int} {v : AV} {B : Bf} (h : BR lo (rL p) v B) (q : Int) : BR lo (rL q) v B := by
  obtain ⟨i, be, h1, h2, h3, hlw⟩ := h
  refine ⟨i, be, h1, get_rd hC h2 (by exact (by decide : (1 : Nat) ≠ 2)) q, ?_, hlw⟩
  rcases h3 with h3 | ⟨h3, j, h4, h5⟩
  · exact .inl h3
  · exact .inr ⟨h3, j, h4, get_rd hC h5 (by exact (by decide : (5 : Nat) ≠ 2)) q⟩
def actV (a : Ac) : Prop := actN a ∧ ∀ x ∈ a.n, -100 ≤ x ∧ x ≤ 100
theorem opF_lt {B : Bf} {x : Int} (h : x ∈ opF B) : 0 ≤ x ∧ x < B.e.length := by
  unfold opF at h
  obtain ⟨i, hi, rfl⟩ := List.mem_map.1 h
  have := (List.mem_filter.1 hi).1
  simp at this
  omega
set_option maxHeartbeats 4000000 in
set_option maxRecDepth 100000 in
theorem isp_someAct0 {Sg : FuncId → Option (List AV → Option AV)} (hS : Sound Tryz.prog Sg) (h0 : Sg 59 = none) (h1 : Sg 50 = none) (ho : Sg 132 = some (F1 gOpF)) {bs : List UInt8} {b n : Nat} {rL : Int → List Blk} (hC : RC bs b n rL) (hb : bs.length ≤ 2000) (p : Int) (hp : 0 ≤ p ∧ p ≤ 800000000) (B : Bf) (hB : bufOK B = true) (i j : Nat) (g1 : (rL p)[i]? = some (stB B.c)) (g2 : B.e = []) : ISpec Tryz.prog 106 [.ptr b 1 0 0, .agg [.sl i B.c.length 0 B.c.length B.c.length, .nilS]] (rL p) (fun r L' => ∃ (a : Ac) (p' : Int), actV a ∧ r = acA 2 a ∧ p ≤ p' ∧ p' ≤ p + 10 ∧ L' = rL p') := by
  refine ISpec.ret Tryz.func106 rfl (vc3_sound Tryz.pf hS hS _ _ _ ?_)
  have h8 := (bufOK_iff.1 hB).2.1
  have c1 : ∀ q Y, (rL q ++ Y)[i]? = some (stB B.c) := fun q Y => get_ext (get_rd hC g1 (by exact (by decide : (1 : Nat) ≠ 2)) q) Y
  have c2 := g2
  have hl := len_exs 1 B.e
  have q1 := gOpF_eq (bfB_of hB)
  rw [hB, if_pos rfl] at q1
  have hlt := fun x => @opF_lt B x
  have hw : IntKind.i64.wrap ((B.e.length : Int) + 1) = (B.e.length : Int) + 1 := wrap_in (by omega)
  repeat' (first | with_reducible first | refine kI (by kernel_rfl) ?_ | refine kN (by kernel_rfl) ?_ | (first | refine kB1 ?_ ?_ | refine kB2 ?_ ?_) <;> intro hp | (first | refine kD1 ?_ ?_ | refine kD2 ?_ ?_ | refine kS1 ?_ ?_ | refine kS2 ?_ ?_) <;> intro hp <;> try simp only [hp] | simp -implicitDefEqProofs (disch := omega) only [go_sem, Nat.reduceAdd, Nat.reduceSub, reduceCtorEq, Nat.reduceLT, Nat.reduceLeDiff, Nat.reduceEqDiff, Nat.reduceMul, Int.reduceToNat, ↓reduceIte, List.take_of_length_le, if_pos, if_neg, List.getElem?_set_self, List.set_set, getD_exs, cnE, cnV, Tryz.ntmps106, Tryz.results106,  hC.cn, c1, c2, hl, hw, h0, opQ_none])
  refine InlK_intro rfl rfl can_pick ((isp_pick hS (hC.app _) hb p (by omega) (0 + 1) (by omega)).mono ?_)
  rintro r L1 ⟨id0, rfl, l0, u0, rfl⟩
  have bid0 : -100 ≤ id0 ∧ id0 ≤ 100 := by omega
  have e0 : opF B = [] := by unfold opF; rw [g2]; rfl
  rw [e0, show B = ⟨B.c, []⟩ by rw [← g2]] at q1
  repeat' (first | with_reducible first | refine kI (by kernel_rfl) ?_ | refine kN (by kernel_rfl) ?_ | (first | refine kB1 ?_ ?_ | refine kB2 ?_ ?_) <;> intro hp | (first | refine kD1 ?_ ?_ | refine kD2 ?_ ?_ | refine kS1 ?_ ?_ | refine kS2 ?_ ?_) <;> intro hp <;> try simp only [hp] | simp -implicitDefEqProofs (disch := omega) only [go_sem, Nat.reduceAdd, Nat.reduceSub, reduceCtorEq, Nat.reduceLT, Nat.reduceLeDiff, Nat.reduceEqDiff, Nat.reduceMul, Int.reduceToNat, ↓reduceIte, List.take_of_length_le, if_pos, if_neg, List.getElem?_set_self, List.set_set, getD_exs, cnE, cnV, Tryz.ntmps106, Tryz.results106,  hC.cn, c1, c2, hl, ho, q1, hw, h1, opQ_none])
  refine InlK_intro rfl rfl can_one ((isp_one hS h0 (hC.app _) hb _ (by omega) 2 [1, 2, 3, 4, 5, 6, 7, 0, 6, 4] (by decide)).mono ?_)
  rintro r L1 ⟨k, rfl, hk, rfl⟩
  have bk : -100 ≤ k ∧ k ≤ 100 := by simp at hk; omega
  have kb : 0 ≤ k ∧ k ≤ 7 := by simp at hk; omega
  by_cases k0 : k = 0
  · subst k0
    repeat' (first | with_reducible first | refine kI (by kernel_rfl) ?_ | refine kN (by kernel_rfl) ?_ | (first | refine kB1 ?_ ?_ | refine kB2 ?_ ?_) <;> intro hp | (first | refine kD1 ?_ ?_ | refine kD2 ?_ ?_ | refine kS1 ?_ ?_ | refine kS2 ?_ ?_) <;> intro hp <;> try simp only [hp] | simp -implicitDefEqProofs (disch := omega) only [go_sem, Nat.reduceAdd, Nat.reduceSub, reduceCtorEq, Nat.reduceLT, Nat.reduceLeDiff, Nat.reduceEqDiff, Nat.reduceMul, Int.reduceToNat, ↓reduceIte, List.take_of_length_le, if_pos, if_neg, List.getElem?_set_self, List.set_set, getD_exs, cnE, cnV, Tryz.ntmps106, Tryz.results106,  hC.cn, c1, c2, hl, ho, q1, hw, h1, opQ_none])
    refine InlK_intro rfl rfl can_one ((isp_one hS h0 (hC.app _) hb _ (by omega) 2 [12, 20, 8, 30, 0] (by decide)).mono ?_)
    rintro r L1 ⟨z, rfl, hz, rfl⟩
    have bz : -100 ≤ z ∧ z ≤ 100 := by simp at hz; omega
    repeat' (first | with_reducible first | refine kI (by kernel_rfl) ?_ | refine kN (by kernel_rfl) ?_ | (first | refine kB1 ?_ ?_ | refine kB2 ?_ ?_) <;> intro hp | (first | refine kD1 ?_ ?_ | refine kD2 ?_ ?_ | refine kS1 ?_ ?_ | refine kS2 ?_ ?_) <;> intro hp <;> try simp only [hp] | simp -implicitDefEqProofs (disch := omega) only [go_sem, Nat.reduceAdd, Nat.reduceSub, reduceCtorEq, Nat.reduceLT, Nat.reduceLeDiff, Nat.reduceEqDiff, Nat.reduceMul, Int.reduceToNat, ↓reduceIte, List.take_of_length_le, if_pos, if_neg, List.getElem?_set_self, List.set_set, getD_exs, cnE, cnV, Tryz.ntmps106, Tryz.results106,  hC.cn])
    exact hC.ret0 ⟨⟨0, [z]⟩, _, ⟨⟨⟨show (0 : Int) ≤ 0 by decide, show (0 : Int) ≤ 7 by decide⟩, rfl⟩, by simp; omega⟩, rfl, by omega, by omega, rfl⟩
  by_cases k1 : k = 1
  · subst k1
    repeat' (first | with_reducible first | refine kI (by kernel_rfl) ?_ | refine kN (by kernel_rfl) ?_ | (first | refine kB1 ?_ ?_ | refine kB2 ?_ ?_) <;> intro hp | (first | refine kD1 ?_ ?_ | refine kD2 ?_ ?_ | refine kS1 ?_ ?_ | refine kS2 ?_ ?_) <;> intro hp <;> try simp only [hp] | simp -implicitDefEqProofs (disch := omega) only [go_sem, Nat.reduceAdd, Nat.reduceSub, reduceCtorEq, Nat.reduceLT, Nat.reduceLeDiff, Nat.reduceEqDiff, Nat.reduceMul, Int.reduceToNat, ↓reduceIte, List.take_of_length_le, if_pos, if_neg, List.getElem?_set_self, List.set_set, getD_exs, cnE, cnV, Tryz.ntmps106, Tryz.results106,  hC.cn, c1, c2, hl, ho, q1, hw, h0, opQ_none])
    refine InlK_intro rfl rfl can_pick ((isp_pick hS (hC.app _) hb _ (by omega) 6 (by omega)).mono ?_)
    rintro r L1 ⟨x, rfl, lx, ux, rfl⟩
    have bx : -100 ≤ x ∧ x ≤ 100 := by omega
    repeat' (first | with_reducible first | refine kI (by kernel_rfl) ?_ | refine kN (by kernel_rfl) ?_ | (first | refine kB1 ?_ ?_ | refine kB2 ?_ ?_) <;> intro hp | (first | refine kD1 ?_ ?_ | refine kD2 ?_ ?_ | refine kS1 ?_ ?_ | refine kS2 ?_ ?_) <;> intro hp <;> try simp only [hp] | simp -implicitDefEqProofs (disch := omega) only [go_sem, Nat.reduceAdd, Nat.reduceSub, reduceCtorEq, Nat.reduceLT, Nat.reduceLeDiff, Nat.reduceEqDiff, Nat.reduceMul, Int.reduceToNat, ↓reduceIte, List.take_of_length_le, if_pos, if_neg, List.getElem?_set_self, List.set_set, getD_exs, cnE, cnV, Tryz.ntmps106, Tryz.results106,  hC.cn, c1, c2, hl, ho, q1, hw, h1, opQ_none])
    refine InlK_intro rfl rfl can_one ((isp_one hS h0 (hC.app _) hb _ (by omega) 2 [4, 3, 5, 2, 0] (by decide)).mono ?_)
    rintro r L1 ⟨z, rfl, hz, rfl⟩
    have bz : -100 ≤ z ∧ z ≤ 100 := by simp at hz; omega
    repeat' (first | with_reducible first | refine kI (by kernel_rfl) ?_ | refine kN (by kernel_rfl) ?_ | (first | refine kB1 ?_ ?_ | refine kB2 ?_ ?_) <;> intro hp | (first | refine kD1 ?_ ?_ | refine kD2 ?_ ?_ | refine kS1 ?_ ?_ | refine kS2 ?_ ?_) <;> intro hp <;> try simp only [hp] | simp -implicitDefEqProofs (disch := omega) only [go_sem, Nat.reduceAdd, Nat.reduceSub, reduceCtorEq, Nat.reduceLT, Nat.reduceLeDiff, Nat.reduceEqDiff, Nat.reduceMul, Int.reduceToNat, ↓reduceIte, List.take_of_length_le, if_pos, if_neg, List.getElem?_set_self, List.set_set, getD_exs, cnE, cnV, Tryz.ntmps106, Tryz.results106,  hC.cn, c1, c2, hl, ho, q1, hw, h1, opQ_none])
    refine InlK_intro rfl rfl can_one ((isp_one hS h0 (hC.app _) hb _ (by omega) 2 [1, 2, 3, 0, -1] (by decide)).mono ?_)
    rintro r L1 ⟨w, rfl, hw, rfl⟩
    have bw : -100 ≤ w ∧ w ≤ 100 := by simp at hw; omega
    repeat' (first | with_reducible first | refine kI (by kernel_rfl) ?_ | refine kN (by kernel_rfl) ?_ | (first | refine kB1 ?_ ?_ | refine kB2 ?_ ?_) <;> intro hp | (first | refine kD1 ?_ ?_ | refine kD2 ?_ ?_ | refine kS1 ?_ ?_ | refine kS2 ?_ ?_) <;> intro hp <;> try simp only [hp] | simp -implicitDefEqProofs (disch := omega) only [go_sem, Nat.reduceAdd, Nat.reduceSub, reduceCtorEq, Nat.reduceLT, Nat.reduceLeDiff, Nat.reduceEqDiff, Nat.reduceMul, Int.reduceToNat, ↓reduceIte, List.take_of_length_le, if_pos, if_neg, List.getElem?_set_self, List.set_set, getD_exs, cnE, cnV, Tryz.ntmps106, Tryz.results106,  hC.cn])
    exact hC.ret0 ⟨⟨1, [x, z, w]⟩, _, ⟨⟨⟨show (0 : Int) ≤ 1 by decide, show (1 : Int) ≤ 7 by decide⟩, rfl⟩, by simp; omega⟩, rfl, by omega, by omega, rfl⟩
  by_cases k2 : k = 2
  · subst k2
    repeat' (first | with_reducible first | refine kI (by kernel_rfl) ?_ | refine kN (by kernel_rfl) ?_ | (first | refine kB1 ?_ ?_ | refine kB2 ?_ ?_) <;> intro hp | (first | refine kD1 ?_ ?_ | refine kD2 ?_ ?_ | refine kS1 ?_ ?_ | refine kS2 ?_ ?_) <;> intro hp <;> try simp only [hp] | simp -implicitDefEqProofs (disch := omega) only [go_sem, Nat.reduceAdd, Nat.reduceSub, reduceCtorEq, Nat.reduceLT, Nat.reduceLeDiff, Nat.reduceEqDiff, Nat.reduceMul, Int.reduceToNat, ↓reduceIte, List.take_of_length_le, if_pos, if_neg, List.getElem?_set_self, List.set_set, getD_exs, cnE, cnV, Tryz.ntmps106, Tryz.results106,  hC.cn, c1, c2, hl, ho, q1, hw, h0, opQ_none])
    refine InlK_intro rfl rfl can_pick ((isp_pick hS (hC.app _) hb _ (by omega) 4 (by omega)).mono ?_)
    rintro r L1 ⟨x, rfl, lx, ux, rfl⟩
    have bx : -100 ≤ x ∧ x ≤ 100 := by omega
    repeat' (first | with_reducible first | refine kI (by kernel_rfl) ?_ | refine kN (by kernel_rfl) ?_ | (first | refine kB1 ?_ ?_ | refine kB2 ?_ ?_) <;> intro hp | (first | refine kD1 ?_ ?_ | refine kD2 ?_ ?_ | refine kS1 ?_ ?_ | refine kS2 ?_ ?_) <;> intro hp <;> try simp only [hp] | simp -implicitDefEqProofs (disch := omega) only [go_sem, Nat.reduceAdd, Nat.reduceSub, reduceCtorEq, Nat.reduceLT, Nat.reduceLeDiff, Nat.reduceEqDiff, Nat.reduceMul, Int.reduceToNat, ↓reduceIte, List.take_of_length_le, if_pos, if_neg, List.getElem?_set_self, List.set_set, getD_exs, cnE, cnV, Tryz.ntmps106, Tryz.results106,  hC.cn, c1, c2, hl, ho, q1, hw, h1, opQ_none])
    refine InlK_intro rfl rfl can_one ((isp_one hS h0 (hC.app _) hb _ (by omega) 2 [3, 4, -1, 2] (by decide)).mono ?_)
    rintro r L1 ⟨z, rfl, hz, rfl⟩
    have bz : -100 ≤ z ∧ z ≤ 100 := by simp at hz; omega
    repeat' (first | with_reducible first | refine kI (by kernel_rfl) ?_ | refine kN (by kernel_rfl) ?_ | (first | refine kB1 ?_ ?_ | refine kB2 ?_ ?_) <;> intro hp | (first | refine kD1 ?_ ?_ | refine kD2 ?_ ?_ | refine kS1 ?_ ?_ | refine kS2 ?_ ?_) <;> intro hp <;> try simp only [hp] | simp -implicitDefEqProofs (disch := omega) only [go_sem, Nat.reduceAdd, Nat.reduceSub, reduceCtorEq, Nat.reduceLT, Nat.reduceLeDiff, Nat.reduceEqDiff, Nat.reduceMul, Int.reduceToNat, ↓reduceIte, List.take_of_length_le, if_pos, if_neg, List.getElem?_set_self, List.set_set, getD_exs, cnE, cnV, Tryz.ntmps106, Tryz.results106,  hC.cn, c1, c2, hl, ho, q1, hw, h1, opQ_none])
    refine InlK_intro rfl rfl can_one ((isp_one hS h0 (hC.app _) hb _ (by omega) 2 [1, 2, -1, 1] (by decide)).mono ?_)
    rintro r L1 ⟨w, rfl, hw, rfl⟩
    have bw : -100 ≤ w ∧ w ≤ 100 := by simp at hw; omega
    repeat' (first | with_reducible first | refine kI (by kernel_rfl) ?_ | refine kN (by kernel_rfl) ?_ | (first | refine kB1 ?_ ?_ | refine kB2 ?_ ?_) <;> intro hp | (first | refine kD1 ?_ ?_ | refine kD2 ?_ ?_ | refine kS1 ?_ ?_ | refine kS2 ?_ ?_) <;> intro hp <;> try simp only [hp] | simp -implicitDefEqProofs (disch := omega) only [go_sem, Nat.reduceAdd, Nat.reduceSub, reduceCtorEq, Nat.reduceLT, Nat.reduceLeDiff, Nat.reduceEqDiff, Nat.reduceMul, Int.reduceToNat, ↓reduceIte, List.take_of_length_le, if_pos, if_neg, List.getElem?_set_self, List.set_set, getD_exs, cnE, cnV, Tryz.ntmps106, Tryz.results106,  hC.cn])
    exact hC.ret0 ⟨⟨2, [id0, x, z, w]⟩, _, ⟨⟨⟨show (0 : Int) ≤ 2 by decide, show (2 : Int) ≤ 7 by decide⟩, rfl⟩, by simp; omega⟩, rfl, by omega, by omega, rfl⟩
  by_cases k4 : k = 4
  · subst k4
    repeat' (first | with_reducible first | refine kI (by kernel_rfl) ?_ | refine kN (by kernel_rfl) ?_ | (first | refine kB1 ?_ ?_ | refine kB2 ?_ ?_) <;> intro hp | (first | refine kD1 ?_ ?_ | refine kD2 ?_ ?_ | refine kS1 ?_ ?_ | refine kS2 ?_ ?_) <;> intro hp <;> try simp only [hp] | simp -implicitDefEqProofs (disch := omega) only [go_sem, Nat.reduceAdd, Nat.reduceSub, reduceCtorEq, Nat.reduceLT, Nat.reduceLeDiff, Nat.reduceEqDiff, Nat.reduceMul, Int.reduceToNat, ↓reduceIte, List.take_of_length_le, if_pos, if_neg, List.getElem?_set_self, List.set_set, getD_exs, cnE, cnV, Tryz.ntmps106, Tryz.results106,  hC.cn, c1, c2, hl, ho, q1, hw, h0, opQ_none])
    refine InlK_intro rfl rfl can_pick ((isp_pick hS (hC.app _) hb _ (by omega) 100 (by omega)).mono ?_)
    rintro r L1 ⟨x, rfl, lx, ux, rfl⟩
    have bx : -100 ≤ x ∧ x ≤ 100 := by omega
    repeat' (first | with_reducible first | refine kI (by kernel_rfl) ?_ | refine kN (by kernel_rfl) ?_ | (first | refine kB1 ?_ ?_ | refine kB2 ?_ ?_) <;> intro hp | (first | refine kD1 ?_ ?_ | refine kD2 ?_ ?_ | refine kS1 ?_ ?_ | refine kS2 ?_ ?_) <;> intro hp <;> try simp only [hp] | simp -implicitDefEqProofs (disch := omega) only [go_sem, Nat.reduceAdd, Nat.reduceSub, reduceCtorEq, Nat.reduceLT, Nat.reduceLeDiff, Nat.reduceEqDiff, Nat.reduceMul, Int.reduceToNat, ↓reduceIte, List.take_of_length_le, if_pos, if_neg, List.getElem?_set_self, List.set_set, getD_exs, cnE, cnV, Tryz.ntmps106, Tryz.results106,  hC.cn])
    exact hC.ret0 ⟨⟨4, [id0, x]⟩, _, ⟨⟨⟨show (0 : Int) ≤ 4 by decide, show (4 : Int) ≤ 7 by decide⟩, rfl⟩, by simp; omega⟩, rfl, by omega, by omega, rfl⟩
  by_cases k5 : k = 5
  · subst k5
    repeat' (first | with_reducible first | refine kI (by kernel_rfl) ?_ | refine kN (by kernel_rfl) ?_ | (first | refine kB1 ?_ ?_ | refine kB2 ?_ ?_) <;> intro hp | (first | refine kD1 ?_ ?_ | refine kD2 ?_ ?_ | refine kS1 ?_ ?_ | refine kS2 ?_ ?_) <;> intro hp <;> try simp only [hp] | simp -implicitDefEqProofs (disch := omega) only [go_sem, Nat.reduceAdd, Nat.reduceSub, reduceCtorEq, Nat.reduceLT, Nat.reduceLeDiff, Nat.reduceEqDiff, Nat.reduceMul, Int.reduceToNat, ↓reduceIte, List.take_of_length_le, if_pos, if_neg, List.getElem?_set_self, List.set_set, getD_exs, cnE, cnV, Tryz.ntmps106, Tryz.results106,  hC.cn, c1, c2, hl, ho, q1, hw, h0, opQ_none])
    refine InlK_intro rfl rfl can_pick ((isp_pick hS (hC.app _) hb _ (by omega) (0 + 1) (by omega)).mono ?_)
    rintro r L1 ⟨x, rfl, lx, ux, rfl⟩
    have bx : -100 ≤ x ∧ x ≤ 100 := by omega
    repeat' (first | with_reducible first | refine kI (by kernel_rfl) ?_ | refine kN (by kernel_rfl) ?_ | (first | refine kB1 ?_ ?_ | refine kB2 ?_ ?_) <;> intro hp | (first | refine kD1 ?_ ?_ | refine kD2 ?_ ?_ | refine kS1 ?_ ?_ | refine kS2 ?_ ?_) <;> intro hp <;> try simp only [hp] | simp -implicitDefEqProofs (disch := omega) only [go_sem, Nat.reduceAdd, Nat.reduceSub, reduceCtorEq, Nat.reduceLT, Nat.reduceLeDiff, Nat.reduceEqDiff, Nat.reduceMul, Int.reduceToNat, ↓reduceIte, List.take_of_length_le, if_pos, if_neg, List.getElem?_set_self, List.set_set, getD_exs, cnE, cnV, Tryz.ntmps106, Tryz.results106,  hC.cn])
    exact hC.ret0 ⟨⟨5, [id0, x]⟩, _, ⟨⟨⟨show (0 : Int) ≤ 5 by decide, show (5 : Int) ≤ 7 by decide⟩, rfl⟩, by simp; omega⟩, rfl, by omega, by omega, rfl⟩
  have f0 : (k == 0) = false := beq_f k0
  have f1 : (k == 1) = false := beq_f k1
  have f2 : (k == 2) = false := beq_f k2
  have f4 : (k == 4) = false := beq_f k4
  have f5 : (k == 5) = false := beq_f k5
  repeat' (first | with_reducible first | refine kI (by kernel_rfl) ?_ | refine kN (by kernel_rfl) ?_ | (first | refine kB1 ?_ ?_ | refine kB2 ?_ ?_) <;> intro hp | (first | refine kD1 ?_ ?_ | refine kD2 ?_ ?_ | refine kS1 ?_ ?_ | refine kS2 ?_ ?_) <;> intro hp <;> try simp only [hp] | simp -implicitDefEqProofs (disch := omega) only [go_sem, Nat.reduceAdd, Nat.reduceSub, reduceCtorEq, Nat.reduceLT, Nat.reduceLeDiff, Nat.reduceEqDiff, Nat.reduceMul, Int.reduceToNat, ↓reduceIte, List.take_of_length_le, if_pos, if_neg, List.getElem?_set_self, List.set_set, getD_exs, cnE, cnV, Tryz.ntmps106, Tryz.results106,  hC.cn, f0, f1, f2, f4, f5])
  exact hC.ret0 ⟨⟨k, [id0]⟩, _, ⟨⟨by dsimp only; omega, show 1 = nedF k by unfold nedF; rw [if_neg k1, if_neg k2, if_neg (by omega)]⟩, by simp; omega⟩, rfl, by omega, by omega, rfl⟩
set_option maxHeartbeats 4000000 in
set_option maxRecDepth 100000 in
theorem isp_someAct1 {Sg : FuncId → Option (List AV → Option AV)} (hS : Sound Tryz.prog Sg) (h0 : Sg 59 = none) (h1 : Sg 50 = none) (ho : Sg 132 = some (F1 gOpF)) {bs : List UInt8} {b n : Nat} {rL : Int → List Blk} (hC : RC bs b n rL) (hb : bs.length ≤ 2000) (p : Int) (hp : 0 ≤ p ∧ p ≤ 800000000) (B : Bf) (hB : bufOK B = true) (i j : Nat) (g1 : (rL p)[i]? = some (stB B.c)) (g2 : B.e ≠ [] ∧ (rL p)[j]? = some (exB 1 B.e)) : ISpec Tryz.prog 106 [.ptr b 1 0 0, .agg [.sl i B.c.length 0 B.c.length B.c.length, .sl j B.e.length 0 B.e.length B.e.length]] (rL p) (fun r L' => ∃ (a : Ac) (p' : Int), actV a ∧ r = acA 2 a ∧ p ≤ p' ∧ p' ≤ p + 10 ∧ L' = rL p') := by
  refine ISpec.ret Tryz.func106 rfl (vc3_sound Tryz.pf hS hS _ _ _ ?_)
  have h8 := (bufOK_iff.1 hB).2.1
  have c1 : ∀ q Y, (rL q ++ Y)[i]? = some (stB B.c) := fun q Y => get_ext (get_rd hC g1 (by exact (by decide : (1 : Nat) ≠ 2)) q) Y
  have c2 : ∀ q Y, (rL q ++ Y)[j]? = some (exB 1 B.e) := fun q Y => get_ext (get_rd hC g2.2 (by exact (by decide : (5 : Nat) ≠ 2)) q) Y
  have hl := len_exs 1 B.e
  have q1 := gOpF_eq (bfB_of hB)
  rw [hB, if_pos rfl] at q1
  have hlt := fun x => @opF_lt B x
  have hw : IntKind.i64.wrap ((B.e.length : Int) + 1) = (B.e.length : Int) + 1 := wrap_in (by omega)
  repeat' (first | with_reducible first | refine kI (by kernel_rfl) ?_ | refine kN (by kernel_rfl) ?_ | (first | refine kB1 ?_ ?_ | refine kB2 ?_ ?_) <;> intro hp | (first | refine kD1 ?_ ?_ | refine kD2 ?_ ?_ | refine kS1 ?_ ?_ | refine kS2 ?_ ?_) <;> intro hp <;> try simp only [hp] | simp -implicitDefEqProofs (disch := omega) only [go_sem, Nat.reduceAdd, Nat.reduceSub, reduceCtorEq, Nat.reduceLT, Nat.reduceLeDiff, Nat.reduceEqDiff, Nat.reduceMul, Int.reduceToNat, ↓reduceIte, List.take_of_length_le, if_pos, if_neg, List.getElem?_set_self, List.set_set, getD_exs, cnE, cnV, Tryz.ntmps106, Tryz.results106,  hC.cn, c1, c2, hl, hw, h0, opQ_none])
  refine InlK_intro rfl rfl can_pick ((isp_pick hS (hC.app _) hb p (by omega) ((B.e.length : Int) + 1) (by omega)).mono ?_)
  rintro r L1 ⟨id0, rfl, l0, u0, rfl⟩
  have bid0 : -100 ≤ id0 ∧ id0 ≤ 100 := by omega
  by_cases ho0 : opF B = []
  · rw [ho0] at q1
    repeat' (first | with_reducible first | refine kI (by kernel_rfl) ?_ | refine kN (by kernel_rfl) ?_ | (first | refine kB1 ?_ ?_ | refine kB2 ?_ ?_) <;> intro hp | (first | refine kD1 ?_ ?_ | refine kD2 ?_ ?_ | refine kS1 ?_ ?_ | refine kS2 ?_ ?_) <;> intro hp <;> try simp only [hp] | simp -implicitDefEqProofs (disch := omega) only [go_sem, Nat.reduceAdd, Nat.reduceSub, reduceCtorEq, Nat.reduceLT, Nat.reduceLeDiff, Nat.reduceEqDiff, Nat.reduceMul, Int.reduceToNat, ↓reduceIte, List.take_of_length_le, if_pos, if_neg, List.getElem?_set_self, List.set_set, getD_exs, cnE, cnV, Tryz.ntmps106, Tryz.results106,  hC.cn, c1, c2, hl, ho, q1, hw, h1, opQ_none])
    refine InlK_intro rfl rfl can_one ((isp_one hS h0 (hC.app _) hb _ (by omega) 2 [1, 2, 3, 4, 5, 6, 7, 0, 6, 4] (by decide)).mono ?_)
    rintro r L1 ⟨k, rfl, hk, rfl⟩
    have bk : -100 ≤ k ∧ k ≤ 100 := by simp at hk; omega
    have kb : 0 ≤ k ∧ k ≤ 7 := by simp at hk; omega
    by_cases k0 : k = 0
    · subst k0
      repeat' (first | with_reducible first | refine kI (by kernel_rfl) ?_ | refine kN (by kernel_rfl) ?_ | (first | refine kB1 ?_ ?_ | refine kB2 ?_ ?_) <;> intro hp | (first | refine kD1 ?_ ?_ | refine kD2 ?_ ?_ | refine kS1 ?_ ?_ | refine kS2 ?_ ?_) <;> intro hp <;> try simp only [hp] | simp -implicitDefEqProofs (disch := omega) only [go_sem, Nat.reduceAdd, Nat.reduceSub, reduceCtorEq, Nat.reduceLT, Nat.reduceLeDiff, Nat.reduceEqDiff, Nat.reduceMul, Int.reduceToNat, ↓reduceIte, List.take_of_length_le, if_pos, if_neg, List.getElem?_set_self, List.set_set, getD_exs, cnE, cnV, Tryz.ntmps106, Tryz.results106,  hC.cn, c1, c2, hl, ho, q1, hw, h1, opQ_none])
      refine InlK_intro rfl rfl can_one ((isp_one hS h0 (hC.app _) hb _ (by omega) 2 [12, 20, 8, 30, 0] (by decide)).mono ?_)
      rintro r L1 ⟨z, rfl, hz, rfl⟩
      have bz : -100 ≤ z ∧ z ≤ 100 := by simp at hz; omega
      repeat' (first | with_reducible first | refine kI (by kernel_rfl) ?_ | refine kN (by kernel_rfl) ?_ | (first | refine kB1 ?_ ?_ | refine kB2 ?_ ?_) <;> intro hp | (first | refine kD1 ?_ ?_ | refine kD2 ?_ ?_ | refine kS1 ?_ ?_ | refine kS2 ?_ ?_) <;> intro hp <;> try simp only [hp] | simp -implicitDefEqProofs (disch := omega) only [go_sem, Nat.reduceAdd, Nat.reduceSub, reduceCtorEq, Nat.reduceLT, Nat.reduceLeDiff, Nat.reduceEqDiff, Nat.reduceMul, Int.reduceToNat, ↓reduceIte, List.take_of_length_le, if_pos, if_neg, List.getElem?_set_self, List.set_set, getD_exs, cnE, cnV, Tryz.ntmps106, Tryz.results106,  hC.cn])
      exact hC.ret0 ⟨⟨0, [z]⟩, _, ⟨⟨⟨show (0 : Int) ≤ 0 by decide, show (0 : Int) ≤ 7 by decide⟩, rfl⟩, by simp; omega⟩, rfl, by omega, by omega, rfl⟩
    by_cases k1 : k = 1
    · subst k1
      repeat' (first | with_reducible first | refine kI (by kernel_rfl) ?_ | refine kN (by kernel_rfl) ?_ | (first | refine kB1 ?_ ?_ | refine kB2 ?_ ?_) <;> intro hp | (first | refine kD1 ?_ ?_ | refine kD2 ?_ ?_ | refine kS1 ?_ ?_ | refine kS2 ?_ ?_) <;> intro hp <;> try simp only [hp] | simp -implicitDefEqProofs (disch := omega) only [go_sem, Nat.reduceAdd, Nat.reduceSub, reduceCtorEq, Nat.reduceLT, Nat.reduceLeDiff, Nat.reduceEqDiff, Nat.reduceMul, Int.reduceToNat, ↓reduceIte, List.take_of_length_le, if_pos, if_neg, List.getElem?_set_self, List.set_set, getD_exs, cnE, cnV, Tryz.ntmps106, Tryz.results106,  hC.cn, c1, c2, hl, ho, q1, hw, h0, opQ_none])
      refine InlK_intro rfl rfl can_pick ((isp_pick hS (hC.app _) hb _ (by omega) 6 (by omega)).mono ?_)
      rintro r L1 ⟨x, rfl, lx, ux, rfl⟩
      have bx : -100 ≤ x ∧ x ≤ 100 := by omega
      repeat' (first | with_reducible first | refine kI (by kernel_rfl) ?_ | refine kN (by kernel_rfl) ?_ | (first | refine kB1 ?_ ?_ | refine kB2 ?_ ?_) <;> intro hp | (first | refine kD1 ?_ ?_ | refine kD2 ?_ ?_ | refine kS1 ?_ ?_ | refine kS2 ?_ ?_) <;> intro hp <;> try simp only [hp] | simp -implicitDefEqProofs (disch := omega) only [go_sem, Nat.reduceAdd, Nat.reduceSub, reduceCtorEq, Nat.reduceLT, Nat.reduceLeDiff, Nat.reduceEqDiff, Nat.reduceMul, Int.reduceToNat, ↓reduceIte, List.take_of_length_le, if_pos, if_neg, List.getElem?_set_self, List.set_set, getD_exs, cnE, cnV, Tryz.ntmps106, Tryz.results106,  hC.cn, c1, c2, hl, ho, q1, hw, h1, opQ_none])
      refine InlK_intro rfl rfl can_one ((isp_one hS h0 (hC.app _) hb _ (by omega) 2 [4, 3, 5, 2, 0] (by decide)).mono ?_)
      rintro r L1 ⟨z, rfl, hz, rfl⟩
      have bz : -100 ≤ z ∧ z ≤ 100 := by simp at hz; omega
      repeat' (first | with_reducible first | refine kI (by kernel_rfl) ?_ | refine kN (by kernel_rfl) ?_ | (first | refine kB1 ?_ ?_ | refine kB2 ?_ ?_) <;> intro hp | (first | refine kD1 ?_ ?_ | refine kD2 ?_ ?_ | refine kS1 ?_ ?_ | refine kS2 ?_ ?_) <;> intro hp <;> try simp only [hp] | simp -implicitDefEqProofs (disch := omega) only [go_sem, Nat.reduceAdd, Nat.reduceSub, reduceCtorEq, Nat.reduceLT, Nat.reduceLeDiff, Nat.reduceEqDiff, Nat.reduceMul, Int.reduceToNat, ↓reduceIte, List.take_of_length_le, if_pos, if_neg, List.getElem?_set_self, List.set_set, getD_exs, cnE, cnV, Tryz.ntmps106, Tryz.results106,  hC.cn, c1, c2, hl, ho, q1, hw, h1, opQ_none])
      refine InlK_intro rfl rfl can_one ((isp_one hS h0 (hC.app _) hb _ (by omega) 2 [1, 2, 3, 0, -1] (by decide)).mono ?_)
      rintro r L1 ⟨w, rfl, hw, rfl⟩
      have bw : -100 ≤ w ∧ w ≤ 100 := by simp at hw; omega
      repeat' (first | with_reducible first | refine kI (by kernel_rfl) ?_ | refine kN (by kernel_rfl) ?_ | (first | refine kB1 ?_ ?_ | refine kB2 ?_ ?_) <;> intro hp | (first | refine kD1 ?_ ?_ | refine kD2 ?_ ?_ | refine kS1 ?_ ?_ | refine kS2 ?_ ?_) <;> intro hp <;> try simp only [hp] | simp -implicitDefEqProofs (disch := omega) only [go_sem, Nat.reduceAdd, Nat.reduceSub, reduceCtorEq, Nat.reduceLT, Nat.reduceLeDiff, Nat.reduceEqDiff, Nat.reduceMul, Int.reduceToNat, ↓reduceIte, List.take_of_length_le, if_pos, if_neg, List.getElem?_set_self, List.set_set, getD_exs, cnE, cnV, Tryz.ntmps106, Tryz.results106,  hC.cn])
      exact hC.ret0 ⟨⟨1, [x, z, w]⟩, _, ⟨⟨⟨show (0 : Int) ≤ 1 by decide, show (1 : Int) ≤ 7 by decide⟩, rfl⟩, by simp; omega⟩, rfl, by omega, by omega, rfl⟩
    by_cases k2 : k = 2
    · subst k2
      repeat' (first | with_reducible first | refine kI (by kernel_rfl) ?_ | refine kN (by kernel_rfl) ?_ | (first | refine kB1 ?_ ?_ | refine kB2 ?_ ?_) <;> intro hp | (first | refine kD1 ?_ ?_ | refine kD2 ?_ ?_ | refine kS1 ?_ ?_ | refine kS2 ?_ ?_) <;> intro hp <;> try simp only [hp] | simp -implicitDefEqProofs (disch := omega) only [go_sem, Nat.reduceAdd, Nat.reduceSub, reduceCtorEq, Nat.reduceLT, Nat.reduceLeDiff, Nat.reduceEqDiff, Nat.reduceMul, Int.reduceToNat, ↓reduceIte, List.take_of_length_le, if_pos, if_neg, List.getElem?_set_self, List.set_set, getD_exs, cnE, cnV, Tryz.ntmps106, Tryz.results106,  hC.cn, c1, c2, hl, ho, q1, hw, h0, opQ_none])
      refine InlK_intro rfl rfl can_pick ((isp_pick hS (hC.app _) hb _ (by omega) 4 (by omega)).mono ?_)
      rintro r L1 ⟨x, rfl, lx, ux, rfl⟩
      have bx : -100 ≤ x ∧ x ≤ 100 := by omega
      repeat' (first | with_reducible first | refine kI (by kernel_rfl) ?_ | refine kN (by kernel_rfl) ?_ | (first | refine kB1 ?_ ?_ | refine kB2 ?_ ?_) <;> intro hp | (first | refine kD1 ?_ ?_ | refine kD2 ?_ ?_ | refine kS1 ?_ ?_ | refine kS2 ?_ ?_) <;> intro hp <;> try simp only [hp] | simp -implicitDefEqProofs (disch := omega) only [go_sem, Nat.reduceAdd, Nat.reduceSub, reduceCtorEq, Nat.reduceLT, Nat.reduceLeDiff, Nat.reduceEqDiff, Nat.reduceMul, Int.reduceToNat, ↓reduceIte, List.take_of_length_le, if_pos, if_neg, List.getElem?_set_self, List.set_set, getD_exs, cnE, cnV, Tryz.ntmps106, Tryz.results106,  hC.cn, c1, c2, hl, ho, q1, hw, h1, opQ_none])
      refine InlK_intro rfl rfl can_one ((isp_one hS h0 (hC.app _) hb _ (by omega) 2 [3, 4, -1, 2] (by decide)).mono ?_)
      rintro r L1 ⟨z, rfl, hz, rfl⟩
      have bz : -100 ≤ z ∧ z ≤ 100 := by simp at hz; omega
      repeat' (first | with_reducible first | refine kI (by kernel_rfl) ?_ | refine kN (by kernel_rfl) ?_ | (first | refine kB1 ?_ ?_ | refine kB2 ?_ ?_) <;> intro hp | (first | refine kD1 ?_ ?_ | refine kD2 ?_ ?_ | refine kS1 ?_ ?_ | refine kS2 ?_ ?_) <;> intro hp <;> try simp only [hp] | simp -implicitDefEqProofs (disch := omega) only [go_sem, Nat.reduceAdd, Nat.reduceSub, reduceCtorEq, Nat.reduceLT, Nat.reduceLeDiff, Nat.reduceEqDiff, Nat.reduceMul, Int.reduceToNat, ↓reduceIte, List.take_of_length_le, if_pos, if_neg, List.getElem?_set_self, List.set_set, getD_exs, cnE, cnV, Tryz.ntmps106, Tryz.results106,  hC.cn, c1, c2, hl, ho, q1, hw, h1, opQ_none])
      refine InlK_intro rfl rfl can_one ((isp_one hS h0 (hC.app _) hb _ (by omega) 2 [1, 2, -1, 1] (by decide)).mono ?_)
      rintro r L1 ⟨w, rfl, hw, rfl⟩
      have bw : -100 ≤ w ∧ w ≤ 100 := by simp at hw; omega
      repeat' (first | with_reducible first | refine kI (by kernel_rfl) ?_ | refine kN (by kernel_rfl) ?_ | (first | refine kB1 ?_ ?_ | refine kB2 ?_ ?_) <;> intro hp | (first | refine kD1 ?_ ?_ | refine kD2 ?_ ?_ | refine kS1 ?_ ?_ | refine kS2 ?_ ?_) <;> intro hp <;> try simp only [hp] | simp -implicitDefEqProofs (disch := omega) only [go_sem, Nat.reduceAdd, Nat.reduceSub, reduceCtorEq, Nat.reduceLT, Nat.reduceLeDiff, Nat.reduceEqDiff, Nat.reduceMul, Int.reduceToNat, ↓reduceIte, List.take_of_length_le, if_pos, if_neg, List.getElem?_set_self, List.set_set, getD_exs, cnE, cnV, Tryz.ntmps106, Tryz.results106,  hC.cn])
      exact hC.ret0 ⟨⟨2, [id0, x, z, w]⟩, _, ⟨⟨⟨show (0 : Int) ≤ 2 by decide, show (2 : Int) ≤ 7 by decide⟩, rfl⟩, by simp; omega⟩, rfl, by omega, by omega, rfl⟩
    by_cases k4 : k = 4
    · subst k4
      repeat' (first | with_reducible first | refine kI (by kernel_rfl) ?_ | refine kN (by kernel_rfl) ?_ | (first | refine kB1 ?_ ?_ | refine kB2 ?_ ?_) <;> intro hp | (first | refine kD1 ?_ ?_ | refine kD2 ?_ ?_ | refine kS1 ?_ ?_ | refine kS2 ?_ ?_) <;> intro hp <;> try simp only [hp] | simp -implicitDefEqProofs (disch := omega) only [go_sem, Nat.reduceAdd, Nat.reduceSub, reduceCtorEq, Nat.reduceLT, Nat.reduceLeDiff, Nat.reduceEqDiff, Nat.reduceMul, Int.reduceToNat, ↓reduceIte, List.take_of_length_le, if_pos, if_neg, List.getElem?_set_self, List.set_set, getD_exs, cnE, cnV, Tryz.ntmps106, Tryz.results106,  hC.cn, c1, c2, hl, ho, q1, hw, h0, opQ_none])
      refine InlK_intro rfl rfl can_pick ((isp_pick hS (hC.app _) hb _ (by omega) 100 (by omega)).mono ?_)
      rintro r L1 ⟨x, rfl, lx, ux, rfl⟩
      have bx : -100 ≤ x ∧ x ≤ 100 := by omega
      repeat' (first | with_reducible first | refine kI (by kernel_rfl) ?_ | refine kN (by kernel_rfl) ?_ | (first | refine kB1 ?_ ?_ | refine kB2 ?_ ?_) <;> intro hp | (first | refine kD1 ?_ ?_ | refine kD2 ?_ ?_ | refine kS1 ?_ ?_ | refine kS2 ?_ ?_) <;> intro hp <;> try simp only [hp] | simp -implicitDefEqProofs (disch := omega) only [go_sem, Nat.reduceAdd, Nat.reduceSub, reduceCtorEq, Nat.reduceLT, Nat.reduceLeDiff, Nat.reduceEqDiff, Nat.reduceMul, Int.reduceToNat, ↓reduceIte, List.take_of_length_le, if_pos, if_neg, List.getElem?_set_self, List.set_set, getD_exs, cnE, cnV, Tryz.ntmps106, Tryz.results106,  hC.cn])
      exact hC.ret0 ⟨⟨4, [id0, x]⟩, _, ⟨⟨⟨show (0 : Int) ≤ 4 by decide, show (4 : Int) ≤ 7 by decide⟩, rfl⟩, by simp; omega⟩, rfl, by omega, by omega, rfl⟩
    by_cases k5 : k = 5
    · subst k5
      repeat' (first | with_reducible first | refine kI (by kernel_rfl) ?_ | refine kN (by kernel_rfl) ?_ | (first | refine kB1 ?_ ?_ | refine kB2 ?_ ?_) <;> intro hp | (first | refine kD1 ?_ ?_ | refine kD2 ?_ ?_ | refine kS1 ?_ ?_ | refine kS2 ?_ ?_) <;> intro hp <;> try simp only [hp] | simp -implicitDefEqProofs (disch := omega) only [go_sem, Nat.reduceAdd, Nat.reduceSub, reduceCtorEq, Nat.reduceLT, Nat.reduceLeDiff, Nat.reduceEqDiff, Nat.reduceMul, Int.reduceToNat, ↓reduceIte, List.take_of_length_le, if_pos, if_neg, List.getElem?_set_self, List.set_set, getD_exs, cnE, cnV, Tryz.ntmps106, Tryz.results106,  hC.cn, c1, c2, hl, ho, q1, hw, h0, opQ_none])
      refine InlK_intro rfl rfl can_pick ((isp_pick hS (hC.app _) hb _ (by omega) ((B.e.length : Int) + 1) (by omega)).mono ?_)
      rintro r L1 ⟨x, rfl, lx, ux, rfl⟩
      have bx : -100 ≤ x ∧ x ≤ 100 := by omega
      repeat' (first | with_reducible first | refine kI (by kernel_rfl) ?_ | refine kN (by kernel_rfl) ?_ | (first | refine kB1 ?_ ?_ | refine kB2 ?_ ?_) <;> intro hp | (first | refine kD1 ?_ ?_ | refine kD2 ?_ ?_ | refine kS1 ?_ ?_ | refine kS2 ?_ ?_) <;> intro hp <;> try simp only [hp] | simp -implicitDefEqProofs (disch := omega) only [go_sem, Nat.reduceAdd, Nat.reduceSub, reduceCtorEq, Nat.reduceLT, Nat.reduceLeDiff, Nat.reduceEqDiff, Nat.reduceMul, Int.reduceToNat, ↓reduceIte, List.take_of_length_le, if_pos, if_neg, List.getElem?_set_self, List.set_set, getD_exs, cnE, cnV, Tryz.ntmps106, Tryz.results106,  hC.cn])
      exact hC.ret0 ⟨⟨5, [id0, x]⟩, _, ⟨⟨⟨show (0 : Int) ≤ 5 by decide, show (5 : Int) ≤ 7 by decide⟩, rfl⟩, by simp; omega⟩, rfl, by omega, by omega, rfl⟩
    have f0 : (k == 0) = false := beq_f k0
    have f1 : (k == 1) = false := beq_f k1
    have f2 : (k == 2) = false := beq_f k2
    have f4 : (k == 4) = false := beq_f k4
    have f5 : (k == 5) = false := beq_f k5
    repeat' (first | with_reducible first | refine kI (by kernel_rfl) ?_ | refine kN (by kernel_rfl) ?_ | (first | refine kB1 ?_ ?_ | refine kB2 ?_ ?_) <;> intro hp | (first | refine kD1 ?_ ?_ | refine kD2 ?_ ?_ | refine kS1 ?_ ?_ | refine kS2 ?_ ?_) <;> intro hp <;> try simp only [hp] | simp -implicitDefEqProofs (disch := omega) only [go_sem, Nat.reduceAdd, Nat.reduceSub, reduceCtorEq, Nat.reduceLT, Nat.reduceLeDiff, Nat.reduceEqDiff, Nat.reduceMul, Int.reduceToNat, ↓reduceIte, List.take_of_length_le, if_pos, if_neg, List.getElem?_set_self, List.set_set, getD_exs, cnE, cnV, Tryz.ntmps106, Tryz.results106,  hC.cn, f0, f1, f2, f4, f5])
    exact hC.ret0 ⟨⟨k, [id0]⟩, _, ⟨⟨by dsimp only; omega, show 1 = nedF k by unfold nedF; rw [if_neg k1, if_neg k2, if_neg (by omega)]⟩, by simp; omega⟩, rfl, by omega, by omega, rfl⟩
  · have hpos : (0 : Int) < ((opF B).length : Int) := by
      have := List.length_pos_iff.2 ho0
      omega
    have hol : (opF B).length ≤ B.e.length := filt_len _ _
    generalize opF B = O at *
    repeat' (first | with_reducible first | refine kI (by kernel_rfl) ?_ | refine kN (by kernel_rfl) ?_ | (first | refine kB1 ?_ ?_ | refine kB2 ?_ ?_) <;> intro hp | (first | refine kD1 ?_ ?_ | refine kD2 ?_ ?_ | refine kS1 ?_ ?_ | refine kS2 ?_ ?_) <;> intro hp <;> try simp only [hp] | simp -implicitDefEqProofs (disch := omega) only [go_sem, Nat.reduceAdd, Nat.reduceSub, reduceCtorEq, Nat.reduceLT, Nat.reduceLeDiff, Nat.reduceEqDiff, Nat.reduceMul, Int.reduceToNat, ↓reduceIte, List.take_of_length_le, if_pos, if_neg, List.getElem?_set_self, List.set_set, getD_exs, cnE, cnV, Tryz.ntmps106, Tryz.results106,  hC.cn, c1, c2, hl, hw, ho, q1, hpos, h0, opQ_none])
    refine InlK_intro rfl rfl can_pick ((isp_pick hS (hC.app _) hb _ (by omega) 4 (by omega)).mono ?_)
    rintro r L1 ⟨yy, rfl, lyy, uyy, rfl⟩
    have byy : -100 ≤ yy ∧ yy ≤ 100 := by omega
    by_cases hy : 0 < yy
    · repeat' (first | with_reducible first | refine kI (by kernel_rfl) ?_ | refine kN (by kernel_rfl) ?_ | (first | refine kB1 ?_ ?_ | refine kB2 ?_ ?_) <;> intro hp | (first | refine kD1 ?_ ?_ | refine kD2 ?_ ?_ | refine kS1 ?_ ?_ | refine kS2 ?_ ?_) <;> intro hp <;> try simp only [hp] | simp -implicitDefEqProofs (disch := omega) only [go_sem, Nat.reduceAdd, Nat.reduceSub, reduceCtorEq, Nat.reduceLT, Nat.reduceLeDiff, Nat.reduceEqDiff, Nat.reduceMul, Int.reduceToNat, ↓reduceIte, List.take_of_length_le, if_pos, if_neg, List.getElem?_set_self, List.set_set, getD_exs, cnE, cnV, Tryz.ntmps106, Tryz.results106,  hC.cn, c1, c2, hl, hw, hpos, hy, h0, opQ_none])
      refine InlK_intro rfl rfl can_pick ((isp_pick hS (hC.app _) hb _ (by omega) (O.length : Int) (by omega)).mono ?_)
      rintro r L1 ⟨ix, rfl, lix, uix, rfl⟩
      obtain ⟨ix, rfl⟩ : ∃ m : Nat, ix = m := ⟨ix.toNat, by omega⟩
      have hix : ix < O.length := by omega
      have hgo := getD_ints hix
      have bid := hlt _ (gmem hix)
      generalize O.getD ix 0 = id1 at *
      repeat' (first | with_reducible first | refine kI (by kernel_rfl) ?_ | refine kN (by kernel_rfl) ?_ | (first | refine kB1 ?_ ?_ | refine kB2 ?_ ?_) <;> intro hp | (first | refine kD1 ?_ ?_ | refine kD2 ?_ ?_ | refine kS1 ?_ ?_ | refine kS2 ?_ ?_) <;> intro hp <;> try simp only [hp] | simp -implicitDefEqProofs (disch := omega) only [go_sem, Nat.reduceAdd, Nat.reduceSub, reduceCtorEq, Nat.reduceLT, Nat.reduceLeDiff, Nat.reduceEqDiff, Nat.reduceMul, Int.reduceToNat, ↓reduceIte, List.take_of_length_le, if_pos, if_neg, List.getElem?_set_self, List.set_set, getD_exs, cnE, cnV, Tryz.ntmps106, Tryz.results106,  hC.cn, c1, c2, hl, hgo, hw, h1, opQ_none])
      refine InlK_intro rfl rfl can_one ((isp_one hS h0 (hC.app _) hb _ (by omega) 2 [1, 2, 3, 4, 5, 6, 7, 0, 6, 4] (by decide)).mono ?_)
      rintro r L1 ⟨k, rfl, hk, rfl⟩
      have bk : -100 ≤ k ∧ k ≤ 100 := by simp at hk; omega
      have kb : 0 ≤ k ∧ k ≤ 7 := by simp at hk; omega
      by_cases k0 : k = 0
      · subst k0
        repeat' (first | with_reducible first | refine kI (by kernel_rfl) ?_ | refine kN (by kernel_rfl) ?_ | (first | refine kB1 ?_ ?_ | refine kB2 ?_ ?_) <;> intro hp | (first | refine kD1 ?_ ?_ | refine kD2 ?_ ?_ | refine kS1 ?_ ?_ | refine kS2 ?_ ?_) <;> intro hp <;> try simp only [hp] | simp -implicitDefEqProofs (disch := omega) only [go_sem, Nat.reduceAdd, Nat.reduceSub, reduceCtorEq, Nat.reduceLT, Nat.reduceLeDiff, Nat.reduceEqDiff, Nat.reduceMul, Int.reduceToNat, ↓reduceIte, List.take_of_length_le, if_pos, if_neg, List.getElem?_set_self, List.set_set, getD_exs, cnE, cnV, Tryz.ntmps106, Tryz.results106,  hC.cn, c1, c2, hl, hw, h1, opQ_none])
        refine InlK_intro rfl rfl can_one ((isp_one hS h0 (hC.app _) hb _ (by omega) 2 [12, 20, 8, 30, 0] (by decide)).mono ?_)
        rintro r L1 ⟨z, rfl, hz, rfl⟩
        have bz : -100 ≤ z ∧ z ≤ 100 := by simp at hz; omega
        repeat' (first | with_reducible first | refine kI (by kernel_rfl) ?_ | refine kN (by kernel_rfl) ?_ | (first | refine kB1 ?_ ?_ | refine kB2 ?_ ?_) <;> intro hp | (first | refine kD1 ?_ ?_ | refine kD2 ?_ ?_ | refine kS1 ?_ ?_ | refine kS2 ?_ ?_) <;> intro hp <;> try simp only [hp] | simp -implicitDefEqProofs (disch := omega) only [go_sem, Nat.reduceAdd, Nat.reduceSub, reduceCtorEq, Nat.reduceLT, Nat.reduceLeDiff, Nat.reduceEqDiff, Nat.reduceMul, Int.reduceToNat, ↓reduceIte, List.take_of_length_le, if_pos, if_neg, List.getElem?_set_self, List.set_set, getD_exs, cnE, cnV, Tryz.ntmps106, Tryz.results106,  hC.cn])
        exact hC.ret0 ⟨⟨0, [z]⟩, _, ⟨⟨⟨show (0 : Int) ≤ 0 by decide, show (0 : Int) ≤ 7 by decide⟩, rfl⟩, by simp; omega⟩, rfl, by omega, by omega, rfl⟩
      by_cases k1 : k = 1
      · subst k1
        repeat' (first | with_reducible first | refine kI (by kernel_rfl) ?_ | refine kN (by kernel_rfl) ?_ | (first | refine kB1 ?_ ?_ | refine kB2 ?_ ?_) <;> intro hp | (first | refine kD1 ?_ ?_ | refine kD2 ?_ ?_ | refine kS1 ?_ ?_ | refine kS2 ?_ ?_) <;> intro hp <;> try simp only [hp] | simp -implicitDefEqProofs (disch := omega) only [go_sem, Nat.reduceAdd, Nat.reduceSub, reduceCtorEq, Nat.reduceLT, Nat.reduceLeDiff, Nat.reduceEqDiff, Nat.reduceMul, Int.reduceToNat, ↓reduceIte, List.take_of_length_le, if_pos, if_neg, List.getElem?_set_self, List.set_set, getD_exs, cnE, cnV, Tryz.ntmps106, Tryz.results106,  hC.cn, c1, c2, hl, hw, h0, opQ_none])
        refine InlK_intro rfl rfl can_pick ((isp_pick hS (hC.app _) hb _ (by omega) 6 (by omega)).mono ?_)
        rintro r L1 ⟨x, rfl, lx, ux, rfl⟩
        have bx : -100 ≤ x ∧ x ≤ 100 := by omega
        repeat' (first | with_reducible first | refine kI (by kernel_rfl) ?_ | refine kN (by kernel_rfl) ?_ | (first | refine kB1 ?_ ?_ | refine kB2 ?_ ?_) <;> intro hp | (first | refine kD1 ?_ ?_ | refine kD2 ?_ ?_ | refine kS1 ?_ ?_ | refine kS2 ?_ ?_) <;> intro hp <;> try simp only [hp] | simp -implicitDefEqProofs (disch := omega) only [go_sem, Nat.reduceAdd, Nat.reduceSub, reduceCtorEq, Nat.reduceLT, Nat.reduceLeDiff, Nat.reduceEqDiff, Nat.reduceMul, Int.reduceToNat, ↓reduceIte, List.take_of_length_le, if_pos, if_neg, List.getElem?_set_self, List.set_set, getD_exs, cnE, cnV, Tryz.ntmps106, Tryz.results106,  hC.cn, c1, c2, hl, hw, h1, opQ_none])
        refine InlK_intro rfl rfl can_one ((isp_one hS h0 (hC.app _) hb _ (by omega) 2 [4, 3, 5, 2, 0] (by decide)).mono ?_)
        rintro r L1 ⟨z, rfl, hz, rfl⟩
        have bz : -100 ≤ z ∧ z ≤ 100 := by simp at hz; omega
        repeat' (first | with_reducible first | refine kI (by kernel_rfl) ?_ | refine kN (by kernel_rfl) ?_ | (first | refine kB1 ?_ ?_ | refine kB2 ?_ ?_) <;> intro hp | (first | refine kD1 ?_ ?_ | refine kD2 ?_ ?_ | refine kS1 ?_ ?_ | refine kS2 ?_ ?_) <;> intro hp <;> try simp only [hp] | simp -implicitDefEqProofs (disch := omega) only [go_sem, Nat.reduceAdd, Nat.reduceSub, reduceCtorEq, Nat.reduceLT, Nat.reduceLeDiff, Nat.reduceEqDiff, Nat.reduceMul, Int.reduceToNat, ↓reduceIte, List.take_of_length_le, if_pos, if_neg, List.getElem?_set_self, List.set_set, getD_exs, cnE, cnV, Tryz.ntmps106, Tryz.results106,  hC.cn, c1, c2, hl, hw, h1, opQ_none])
        refine InlK_intro rfl rfl can_one ((isp_one hS h0 (hC.app _) hb _ (by omega) 2 [1, 2, 3, 0, -1] (by decide)).mono ?_)
        rintro r L1 ⟨w, rfl, hw, rfl⟩
        have bw : -100 ≤ w ∧ w ≤ 100 := by simp at hw; omega
        repeat' (first | with_reducible first | refine kI (by kernel_rfl) ?_ | refine kN (by kernel_rfl) ?_ | (first | refine kB1 ?_ ?_ | refine kB2 ?_ ?_) <;> intro hp | (first | refine kD1 ?_ ?_ | refine kD2 ?_ ?_ | refine kS1 ?_ ?_ | refine kS2 ?_ ?_) <;> intro hp <;> try simp only [hp] | simp -implicitDefEqProofs (disch := omega) only [go_sem, Nat.reduceAdd, Nat.reduceSub, reduceCtorEq, Nat.reduceLT, Nat.reduceLeDiff, Nat.reduceEqDiff, Nat.reduceMul, Int.reduceToNat, ↓reduceIte, List.take_of_length_le, if_pos, if_neg, List.getElem?_set_self, List.set_set, getD_exs, cnE, cnV, Tryz.ntmps106, Tryz.results106,  hC.cn])
        exact hC.ret0 ⟨⟨1, [x, z, w]⟩, _, ⟨⟨⟨show (0 : Int) ≤ 1 by decide, show (1 : Int) ≤ 7 by decide⟩, rfl⟩, by simp; omega⟩, rfl, by omega, by omega, rfl⟩
      by_cases k2 : k = 2
      · subst k2
        repeat' (first | with_reducible first | refine kI (by kernel_rfl) ?_ | refine kN (by kernel_rfl) ?_ | (first | refine kB1 ?_ ?_ | refine kB2 ?_ ?_) <;> intro hp | (first | refine kD1 ?_ ?_ | refine kD2 ?_ ?_ | refine kS1 ?_ ?_ | refine kS2 ?_ ?_) <;> intro hp <;> try simp only [hp] | simp -implicitDefEqProofs (disch := omega) only [go_sem, Nat.reduceAdd, Nat.reduceSub, reduceCtorEq, Nat.reduceLT, Nat.reduceLeDiff, Nat.reduceEqDiff, Nat.reduceMul, Int.reduceToNat, ↓reduceIte, List.take_of_length_le, if_pos, if_neg, List.getElem?_set_self, List.set_set, getD_exs, cnE, cnV, Tryz.ntmps106, Tryz.results106,  hC.cn, c1, c2, hl, hw, h0, opQ_none])
        refine InlK_intro rfl rfl can_pick ((isp_pick hS (hC.app _) hb _ (by omega) 4 (by omega)).mono ?_)
        rintro r L1 ⟨x, rfl, lx, ux, rfl⟩
        have bx : -100 ≤ x ∧ x ≤ 100 := by omega
        repeat' (first | with_reducible first | refine kI (by kernel_rfl) ?_ | refine kN (by kernel_rfl) ?_ | (first | refine kB1 ?_ ?_ | refine kB2 ?_ ?_) <;> intro hp | (first | refine kD1 ?_ ?_ | refine kD2 ?_ ?_ | refine kS1 ?_ ?_ | refine kS2 ?_ ?_) <;> intro hp <;> try simp only [hp] | simp -implicitDefEqProofs (disch := omega) only [go_sem, Nat.reduceAdd, Nat.reduceSub, reduceCtorEq, Nat.reduceLT, Nat.reduceLeDiff, Nat.reduceEqDiff, Nat.reduceMul, Int.reduceToNat, ↓reduceIte, List.take_of_length_le, if_pos, if_neg, List.getElem?_set_self, List.set_set, getD_exs, cnE, cnV, Tryz.ntmps106, Tryz.results106,  hC.cn, c1, c2, hl, hw, h1, opQ_none])
        refine InlK_intro rfl rfl can_one ((isp_one hS h0 (hC.app _) hb _ (by omega) 2 [3, 4, -1, 2] (by decide)).mono ?_)
        rintro r L1 ⟨z, rfl, hz, rfl⟩
        have bz : -100 ≤ z ∧ z ≤ 100 := by simp at hz; omega
        repeat' (first | with_reducible first | refine kI (by kernel_rfl) ?_ | refine kN (by kernel_rfl) ?_ | (first | refine kB1 ?_ ?_ | refine kB2 ?_ ?_) <;> intro hp | (first | refine kD1 ?_ ?_ | refine kD2 ?_ ?_ | refine kS1 ?_ ?_ | refine kS2 ?_ ?_) <;> intro hp <;> try simp only [hp] | simp -implicitDefEqProofs (disch := omega) only [go_sem, Nat.reduceAdd, Nat.reduceSub, reduceCtorEq, Nat.reduceLT, Nat.reduceLeDiff, Nat.reduceEqDiff, Nat.reduceMul, Int.reduceToNat, ↓reduceIte, List.take_of_length_le, if_pos, if_neg, List.getElem?_set_self, List.set_set, getD_exs, cnE, cnV, Tryz.ntmps106, Tryz.results106,  hC.cn, c1, c2, hl, hw, h1, opQ_none])
        refine InlK_intro rfl rfl can_one ((isp_one hS h0 (hC.app _) hb _ (by omega) 2 [1, 2, -1, 1] (by decide)).mono ?_)
        rintro r L1 ⟨w, rfl, hw, rfl⟩
        have bw : -100 ≤ w ∧ w ≤ 100 := by simp at hw; omega
        repeat' (first | with_reducible first | refine kI (by kernel_rfl) ?_ | refine kN (by kernel_rfl) ?_ | (first | refine kB1 ?_ ?_ | refine kB2 ?_ ?_) <;> intro hp | (first | refine kD1 ?_ ?_ | refine kD2 ?_ ?_ | refine kS1 ?_ ?_ | refine kS2 ?_ ?_) <;> intro hp <;> try simp only [hp] | simp -implicitDefEqProofs (disch := omega) only [go_sem, Nat.reduceAdd, Nat.reduceSub, reduceCtorEq, Nat.reduceLT, Nat.reduceLeDiff, Nat.reduceEqDiff, Nat.reduceMul, Int.reduceToNat, ↓reduceIte, List.take_of_length_le, if_pos, if_neg, List.getElem?_set_self, List.set_set, getD_exs, cnE, cnV, Tryz.ntmps106, Tryz.results106,  hC.cn])
        exact hC.ret0 ⟨⟨2, [id1, x, z, w]⟩, _, ⟨⟨⟨show (0 : Int) ≤ 2 by decide, show (2 : Int) ≤ 7 by decide⟩, rfl⟩, by simp; omega⟩, rfl, by omega, by omega, rfl⟩
      by_cases k4 : k = 4
      · subst k4
        repeat' (first | with_reducible first | refine kI (by kernel_rfl) ?_ | refine kN (by kernel_rfl) ?_ | (first | refine kB1 ?_ ?_ | refine kB2 ?_ ?_) <;> intro hp | (first | refine kD1 ?_ ?_ | refine kD2 ?_ ?_ | refine kS1 ?_ ?_ | refine kS2 ?_ ?_) <;> intro hp <;> try simp only [hp] | simp -implicitDefEqProofs (disch := omega) only [go_sem, Nat.reduceAdd, Nat.reduceSub, reduceCtorEq, Nat.reduceLT, Nat.reduceLeDiff, Nat.reduceEqDiff, Nat.reduceMul, Int.reduceToNat, ↓reduceIte, List.take_of_length_le, if_pos, if_neg, List.getElem?_set_self, List.set_set, getD_exs, cnE, cnV, Tryz.ntmps106, Tryz.results106,  hC.cn, c1, c2, hl, hw, h0, opQ_none])
        refine InlK_intro rfl rfl can_pick ((isp_pick hS (hC.app _) hb _ (by omega) 100 (by omega)).mono ?_)
        rintro r L1 ⟨x, rfl, lx, ux, rfl⟩
        have bx : -100 ≤ x ∧ x ≤ 100 := by omega
        repeat' (first | with_reducible first | refine kI (by kernel_rfl) ?_ | refine kN (by kernel_rfl) ?_ | (first | refine kB1 ?_ ?_ | refine kB2 ?_ ?_) <;> intro hp | (first | refine kD1 ?_ ?_ | refine kD2 ?_ ?_ | refine kS1 ?_ ?_ | refine kS2 ?_ ?_) <;> intro hp <;> try simp only [hp] | simp -implicitDefEqProofs (disch := omega) only [go_sem, Nat.reduceAdd, Nat.reduceSub, reduceCtorEq, Nat.reduceLT, Nat.reduceLeDiff, Nat.reduceEqDiff, Nat.reduceMul, Int.reduceToNat, ↓reduceIte, List.take_of_length_le, if_pos, if_neg, List.getElem?_set_self, List.set_set, getD_exs, cnE, cnV, Tryz.ntmps106, Tryz.results106,  hC.cn])
        exact hC.ret0 ⟨⟨4, [id1, x]⟩, _, ⟨⟨⟨show (0 : Int) ≤ 4 by decide, show (4 : Int) ≤ 7 by decide⟩, rfl⟩, by simp; omega⟩, rfl, by omega, by omega, rfl⟩
      by_cases k5 : k = 5
      · subst k5
        repeat' (first | with_reducible first | refine kI (by kernel_rfl) ?_ | refine kN (by kernel_rfl) ?_ | (first | refine kB1 ?_ ?_ | refine kB2 ?_ ?_) <;> intro hp | (first | refine kD1 ?_ ?_ | refine kD2 ?_ ?_ | refine kS1 ?_ ?_ | refine kS2 ?_ ?_) <;> intro hp <;> try simp only [hp] | simp -implicitDefEqProofs (disch := omega) only [go_sem, Nat.reduceAdd, Nat.reduceSub, reduceCtorEq, Nat.reduceLT, Nat.reduceLeDiff, Nat.reduceEqDiff, Nat.reduceMul, Int.reduceToNat, ↓reduceIte, List.take_of_length_le, if_pos, if_neg, List.getElem?_set_self, List.set_set, getD_exs, cnE, cnV, Tryz.ntmps106, Tryz.results106,  hC.cn, c1, c2, hl, hw, h0, opQ_none])
        refine InlK_intro rfl rfl can_pick ((isp_pick hS (hC.app _) hb _ (by omega) ((B.e.length : Int) + 1) (by omega)).mono ?_)
        rintro r L1 ⟨x, rfl, lx, ux, rfl⟩
        have bx : -100 ≤ x ∧ x ≤ 100 := by omega
        repeat' (first | with_reducible first | refine kI (by kernel_rfl) ?_ | refine kN (by kernel_rfl) ?_ | (first | refine kB1 ?_ ?_ | refine kB2 ?_ ?_) <;> intro hp | (first | refine kD1 ?_ ?_ | refine kD2 ?_ ?_ | refine kS1 ?_ ?_ | refine kS2 ?_ ?_) <;> intro hp <;> try simp only [hp] | simp -implicitDefEqProofs (disch := omega) only [go_sem, Nat.reduceAdd, Nat.reduceSub, reduceCtorEq, Nat.reduceLT, Nat.reduceLeDiff, Nat.reduceEqDiff, Nat.reduceMul, Int.reduceToNat, ↓reduceIte, List.take_of_length_le, if_pos, if_neg, List.getElem?_set_self, List.set_set, getD_exs, cnE, cnV, Tryz.ntmps106, Tryz.results106,  hC.cn])
        exact hC.ret0 ⟨⟨5, [id1, x]⟩, _, ⟨⟨⟨show (0 : Int) ≤ 5 by decide, show (5 : Int) ≤ 7 by decide⟩, rfl⟩, by simp; omega⟩, rfl, by omega, by omega, rfl⟩
      have f0 : (k == 0) = false := beq_f k0
      have f1 : (k == 1) = false := beq_f k1
      have f2 : (k == 2) = false := beq_f k2
      have f4 : (k == 4) = false := beq_f k4
      have f5 : (k == 5) = false := beq_f k5
      repeat' (first | with_reducible first | refine kI (by kernel_rfl) ?_ | refine kN (by kernel_rfl) ?_ | (first | refine kB1 ?_ ?_ | refine kB2 ?_ ?_) <;> intro hp | (first | refine kD1 ?_ ?_ | refine kD2 ?_ ?_ | refine kS1 ?_ ?_ | refine kS2 ?_ ?_) <;> intro hp <;> try simp only [hp] | simp -implicitDefEqProofs (disch := omega) only [go_sem, Nat.reduceAdd, Nat.reduceSub, reduceCtorEq, Nat.reduceLT, Nat.reduceLeDiff, Nat.reduceEqDiff, Nat.reduceMul, Int.reduceToNat, ↓reduceIte, List.take_of_length_le, if_pos, if_neg, List.getElem?_set_self, List.set_set, getD_exs, cnE, cnV, Tryz.ntmps106, Tryz.results106,  hC.cn, f0, f1, f2, f4, f5])
      exact hC.ret0 ⟨⟨k, [id1]⟩, _, ⟨⟨by dsimp only; omega, show 1 = nedF k by unfold nedF; rw [if_neg k1, if_neg k2, if_neg (by omega)]⟩, by simp; omega⟩, rfl, by omega, by omega, rfl⟩
    · repeat' (first | with_reducible first | refine kI (by kernel_rfl) ?_ | refine kN (by kernel_rfl) ?_ | (first | refine kB1 ?_ ?_ | refine kB2 ?_ ?_) <;> intro hp | (first | refine kD1 ?_ ?_ | refine kD2 ?_ ?_ | refine kS1 ?_ ?_ | refine kS2 ?_ ?_) <;> intro hp <;> try simp only [hp] | simp -implicitDefEqProofs (disch := omega) only [go_sem, Nat.reduceAdd, Nat.reduceSub, reduceCtorEq, Nat.reduceLT, Nat.reduceLeDiff, Nat.reduceEqDiff, Nat.reduceMul, Int.reduceToNat, ↓reduceIte, List.take_of_length_le, if_pos, if_neg, List.getElem?_set_self, List.set_set, getD_exs, cnE, cnV, Tryz.ntmps106, Tryz.results106,  hC.cn, c1, c2, hl, hpos, hy, hw, h1, opQ_none])
      refine InlK_intro rfl rfl can_one ((isp_one hS h0 (hC.app _) hb _ (by omega) 2 [1, 2, 3, 4, 5, 6, 7, 0, 6, 4] (by decide)).mono ?_)
      rintro r L1 ⟨k, rfl, hk, rfl⟩
      have bk : -100 ≤ k ∧ k ≤ 100 := by simp at hk; omega
      have kb : 0 ≤ k ∧ k ≤ 7 := by simp at hk; omega
      by_cases k0 : k = 0
      · subst k0
        repeat' (first | with_reducible first | refine kI (by kernel_rfl) ?_ | refine kN (by kernel_rfl) ?_ | (first | refine kB1 ?_ ?_ | refine kB2 ?_ ?_) <;> intro hp | (first | refine kD1 ?_ ?_ | refine kD2 ?_ ?_ | refine kS1 ?_ ?_ | refine kS2 ?_ ?_) <;> intro hp <;> try simp only [hp] | simp -implicitDefEqProofs (disch := omega) only [go_sem, Nat.reduceAdd, Nat.reduceSub, reduceCtorEq, Nat.reduceLT, Nat.reduceLeDiff, Nat.reduceEqDiff, Nat.reduceMul, Int.reduceToNat, ↓reduceIte, List.take_of_length_le, if_pos, if_neg, List.getElem?_set_self, List.set_set, getD_exs, cnE, cnV, Tryz.ntmps106, Tryz.results106,  hC.cn, c1, c2, hl, hw, h1, opQ_none])
        refine InlK_intro rfl rfl can_one ((isp_one hS h0 (hC.app _) hb _ (by omega) 2 [12, 20, 8, 30, 0] (by decide)).mono ?_)
        rintro r L1 ⟨z, rfl, hz, rfl⟩
        have bz : -100 ≤ z ∧ z ≤ 100 := by simp at hz; omega
        repeat' (first | with_reducible first | refine kI (by kernel_rfl) ?_ | refine kN (by kernel_rfl) ?_ | (first | refine kB1 ?_ ?_ | refine kB2 ?_ ?_) <;> intro hp | (first | refine kD1 ?_ ?_ | refine kD2 ?_ ?_ | refine kS1 ?_ ?_ | refine kS2 ?_ ?_) <;> intro hp <;> try simp only [hp] | simp -implicitDefEqProofs (disch := omega) only [go_sem, Nat.reduceAdd, Nat.reduceSub, reduceCtorEq, Nat.reduceLT, Nat.reduceLeDiff, Nat.reduceEqDiff, Nat.reduceMul, Int.reduceToNat, ↓reduceIte, List.take_of_length_le, if_pos, if_neg, List.getElem?_set_self, List.set_set, getD_exs, cnE, cnV, Tryz.ntmps106, Tryz.results106,  hC.cn])
        exact hC.ret0 ⟨⟨0, [z]⟩, _, ⟨⟨⟨show (0 : Int) ≤ 0 by decide, show (0 : Int) ≤ 7 by decide⟩, rfl⟩, by simp; omega⟩, rfl, by omega, by omega, rfl⟩
      by_cases k1 : k = 1
      · subst k1
        repeat' (first | with_reducible first | refine kI (by kernel_rfl) ?_ | refine kN (by kernel_rfl) ?_ | (first | refine kB1 ?_ ?_ | refine kB2 ?_ ?_) <;> intro hp | (first | refine kD1 ?_ ?_ | refine kD2 ?_ ?_ | refine kS1 ?_ ?_ | refine kS2 ?_ ?_) <;> intro hp <;> try simp only [hp] | simp -implicitDefEqProofs (disch := omega) only [go_sem, Nat.reduceAdd, Nat.reduceSub, reduceCtorEq, Nat.reduceLT, Nat.reduceLeDiff, Nat.reduceEqDiff, Nat.reduceMul, Int.reduceToNat, ↓reduceIte, List.take_of_length_le, if_pos, if_neg, List.getElem?_set_self, List.set_set, getD_exs, cnE, cnV, Tryz.ntmps106, Tryz.results106,  hC.cn, c1, c2, hl, hw, h0, opQ_none])
        refine InlK_intro rfl rfl can_pick ((isp_pick hS (hC.app _) hb _ (by omega) 6 (by omega)).mono ?_)
        rintro r L1 ⟨x, rfl, lx, ux, rfl⟩
        have bx : -100 ≤ x ∧ x ≤ 100 := by omega
        repeat' (first | with_reducible first | refine kI (by kernel_rfl) ?_ | refine kN (by kernel_rfl) ?_ | (first | refine kB1 ?_ ?_ | refine kB2 ?_ ?_) <;> intro hp | (first | refine kD1 ?_ ?_ | refine kD2 ?_ ?_ | refine kS1 ?_ ?_ | refine kS2 ?_ ?_) <;> intro hp <;> try simp only [hp] | simp -implicitDefEqProofs (disch := omega) only [go_sem, Nat.reduceAdd, Nat.reduceSub, reduceCtorEq, Nat.reduceLT, Nat.reduceLeDiff, Nat.reduceEqDiff, Nat.reduceMul, Int.reduceToNat, ↓reduceIte, List.take_of_length_le, if_pos, if_neg, List.getElem?_set_self, List.set_set, getD_exs, cnE, cnV, Tryz.ntmps106, Tryz.results106,  hC.cn, c1, c2, hl, hw, h1, opQ_none])
        refine InlK_intro rfl rfl can_one ((isp_one hS h0 (hC.app _) hb _ (by omega) 2 [4, 3, 5, 2, 0] (by decide)).mono ?_)
        rintro r L1 ⟨z, rfl, hz, rfl⟩
        have bz : -100 ≤ z ∧ z ≤ 100 := by simp at hz; omega
        repeat' (first | with_reducible first | refine kI (by kernel_rfl) ?_ | refine kN (by kernel_rfl) ?_ | (first | refine kB1 ?_ ?_ | refine kB2 ?_ ?_) <;> intro hp | (first | refine kD1 ?_ ?_ | refine kD2 ?_ ?_ | refine kS1 ?_ ?_ | refine kS2 ?_ ?_) <;> intro hp <;> try simp only [hp] | simp -implicitDefEqProofs (disch := omega) only [go_sem, Nat.reduceAdd, Nat.reduceSub, reduceCtorEq, Nat.reduceLT, Nat.reduceLeDiff, Nat.reduceEqDiff, Nat.reduceMul, Int.reduceToNat, ↓reduceIte, List.take_of_length_le, if_pos, if_neg, List.getElem?_set_self, List.set_set, getD_exs, cnE, cnV, Tryz.ntmps106, Tryz.results106,  hC.cn, c1, c2, hl, hw, h1, opQ_none])
        refine InlK_intro rfl rfl can_one ((isp_one hS h0 (hC.app _) hb _ (by omega) 2 [1, 2, 3, 0, -1] (by decide)).mono ?_)
        rintro r L1 ⟨w, rfl, hw, rfl⟩
        have bw : -100 ≤ w ∧ w ≤ 100 := by simp at hw; omega
        repeat' (first | with_reducible first | refine kI (by kernel_rfl) ?_ | refine kN (by kernel_rfl) ?_ | (first | refine kB1 ?_ ?_ | refine kB2 ?_ ?_) <;> intro hp | (first | refine kD1 ?_ ?_ | refine kD2 ?_ ?_ | refine kS1 ?_ ?_ | refine kS2 ?_ ?_) <;> intro hp <;> try simp only [hp] | simp -implicitDefEqProofs (disch := omega) only [go_sem, Nat.reduceAdd, Nat.reduceSub, reduceCtorEq, Nat.reduceLT, Nat.reduceLeDiff, Nat.reduceEqDiff, Nat.reduceMul, Int.reduceToNat, ↓reduceIte, List.take_of_length_le, if_pos, if_neg, List.getElem?_set_self, List.set_set, getD_exs, cnE, cnV, Tryz.ntmps106, Tryz.results106,  hC.cn])
        exact hC.ret0 ⟨⟨1, [x, z, w]⟩, _, ⟨⟨⟨show (0 : Int) ≤ 1 by decide, show (1 : Int) ≤ 7 by decide⟩, rfl⟩, by simp; omega⟩, rfl, by omega, by omega, rfl⟩
      by_cases k2 : k = 2
      · subst k2
        repeat' (first | with_reducible first | refine kI (by kernel_rfl) ?_ | refine kN (by kernel_rfl) ?_ | (first | refine kB1 ?_ ?_ | refine kB2 ?_ ?_) <;> intro hp | (first | refine kD1 ?_ ?_ | refine kD2 ?_ ?_ | refine kS1 ?_ ?_ | refine kS2 ?_ ?_) <;> intro hp <;> try simp only [hp] | simp -implicitDefEqProofs (disch := omega) only [go_sem, Nat.reduceAdd, Nat.reduceSub, reduceCtorEq, Nat.reduceLT, Nat.reduceLeDiff, Nat.reduceEqDiff, Nat.reduceMul, Int.reduceToNat, ↓reduceIte, List.take_of_length_le, if_pos, if_neg, List.getElem?_set_self, List.set_set, getD_exs, cnE, cnV, Tryz.ntmps106, Tryz.results106,  hC.cn, c1, c2, hl, hw, h0, opQ_none])
        refine InlK_intro rfl rfl can_pick ((isp_pick hS (hC.app _) hb _ (by omega) 4 (by omega)).mono ?_)
        rintro r L1 ⟨x, rfl, lx, ux, rfl⟩
        have bx : -100 ≤ x ∧ x ≤ 100 := by omega
        repeat' (first | with_reducible first | refine kI (by kernel_rfl) ?_ | refine kN (by kernel_rfl) ?_ | (first | refine kB1 ?_ ?_ | refine kB2 ?_ ?_) <;> intro hp | (first | refine kD1 ?_ ?_ | refine kD2 ?_ ?_ | refine kS1 ?_ ?_ | refine kS2 ?_ ?_) <;> intro hp <;> try simp only [hp] | simp -implicitDefEqProofs (disch := omega) only [go_sem, Nat.reduceAdd, Nat.reduceSub, reduceCtorEq, Nat.reduceLT, Nat.reduceLeDiff, Nat.reduceEqDiff, Nat.reduceMul, Int.reduceToNat, ↓reduceIte, List.take_of_length_le, if_pos, if_neg, List.getElem?_set_self, List.set_set, getD_exs, cnE, cnV, Tryz.ntmps106, Tryz.results106,  hC.cn, c1, c2, hl, hw, h1, opQ_none])
        refine InlK_intro rfl rfl can_one ((isp_one hS h0 (hC.app _) hb _ (by omega) 2 [3, 4, -1, 2] (by decide)).mono ?_)
        rintro r L1 ⟨z, rfl, hz, rfl⟩
        have bz : -100 ≤ z ∧ z ≤ 100 := by simp at hz; omega
        repeat' (first | with_reducible first | refine kI (by kernel_rfl) ?_ | refine kN (by kernel_rfl) ?_ | (first | refine kB1 ?_ ?_ | refine kB2 ?_ ?_) <;> intro hp | (first | refine kD1 ?_ ?_ | refine kD2 ?_ ?_ | refine kS1 ?_ ?_ | refine kS2 ?_ ?_) <;> intro hp <;> try simp only [hp] | simp -implicitDefEqProofs (disch := omega) only [go_sem, Nat.reduceAdd, Nat.reduceSub, reduceCtorEq, Nat.reduceLT, Nat.reduceLeDiff, Nat.reduceEqDiff, Nat.reduceMul, Int.reduceToNat, ↓reduceIte, List.take_of_length_le, if_pos, if_neg, List.getElem?_set_self, List.set_set, getD_exs, cnE, cnV, Tryz.ntmps106, Tryz.results106,  hC.cn, c1, c2, hl, hw, h1, opQ_none])
        refine InlK_intro rfl rfl can_one ((isp_one hS h0 (hC.app _) hb _ (by omega) 2 [1, 2, -1, 1] (by decide)).mono ?_)
        rintro r L1 ⟨w, rfl, hw, rfl⟩
        have bw : -100 ≤ w ∧ w ≤ 100 := by simp at hw; omega
        repeat' (first | with_reducible first | refine kI (by kernel_rfl) ?_ | refine kN (by kernel_rfl) ?_ | (first | refine kB1 ?_ ?_ | refine kB2 ?_ ?_) <;> intro hp | (first | refine kD1 ?_ ?_ | refine kD2 ?_ ?_ | refine kS1 ?_ ?_ | refine kS2 ?_ ?_) <;> intro hp <;> try simp only [hp] | simp -implicitDefEqProofs (disch := omega) only [go_sem, Nat.reduceAdd, Nat.reduceSub, reduceCtorEq, Nat.reduceLT, Nat.reduceLeDiff, Nat.reduceEqDiff, Nat.reduceMul, Int.reduceToNat, ↓reduceIte, List.take_of_length_le, if_pos, if_neg, List.getElem?_set_self, List.set_set, getD_exs, cnE, cnV, Tryz.ntmps106, Tryz.results106,  hC.cn])
        exact hC.ret0 ⟨⟨2, [id0, x, z, w]⟩, _, ⟨⟨⟨show (0 : Int) ≤ 2 by decide, show (2 : Int) ≤ 7 by decide⟩, rfl⟩, by simp; omega⟩, rfl, by omega, by omega, rfl⟩
      by_cases k4 : k = 4
      · subst k4
        repeat' (first | with_reducible first | refine kI (by kernel_rfl) ?_ | refine kN (by kernel_rfl) ?_ | (first | refine kB1 ?_ ?_ | refine kB2 ?_ ?_) <;> intro hp | (first | refine kD1 ?_ ?_ | refine kD2 ?_ ?_ | refine kS1 ?_ ?_ | refine kS2 ?_ ?_) <;> intro hp <;> try simp only [hp] | simp -implicitDefEqProofs (disch := omega) only [go_sem, Nat.reduceAdd, Nat.reduceSub, reduceCtorEq, Nat.reduceLT, Nat.reduceLeDiff, Nat.reduceEqDiff, Nat.reduceMul, Int.reduceToNat, ↓reduceIte, List.take_of_length_le, if_pos, if_neg, List.getElem?_set_self, List.set_set, getD_exs, cnE, cnV, Tryz.ntmps106, Tryz.results106,  hC.cn, c1, c2, hl, hw, h0, opQ_none])
        refine InlK_intro rfl rfl can_pick ((isp_pick hS (hC.app _) hb _ (by omega) 100 (by omega)).mono ?_)
        rintro r L1 ⟨x, rfl, lx, ux, rfl⟩
        have bx : -100 ≤ x ∧ x ≤ 100 := by omega
        repeat' (first | with_reducible first | refine kI (by kernel_rfl) ?_ | refine kN (by kernel_rfl) ?_ | (first | refine kB1 ?_ ?_ | refine kB2 ?_ ?_) <;> intro hp | (first | refine kD1 ?_ ?_ | refine kD2 ?_ ?_ | refine kS1 ?_ ?_ | refine kS2 ?_ ?_) <;> intro hp <;> try simp only [hp] | simp -implicitDefEqProofs (disch := omega) only [go_sem, Nat.reduceAdd, Nat.reduceSub, reduceCtorEq, Nat.reduceLT, Nat.reduceLeDiff, Nat.reduceEqDiff, Nat.reduceMul, Int.reduceToNat, ↓reduceIte, List.take_of_length_le, if_pos, if_neg, List.getElem?_set_self, List.set_set, getD_exs, cnE, cnV, Tryz.ntmps106, Tryz.results106,  hC.cn])
        exact hC.ret0 ⟨⟨4, [id0, x]⟩, _, ⟨⟨⟨show (0 : Int) ≤ 4 by decide, show (4 : Int) ≤ 7 by decide⟩, rfl⟩, by simp; omega⟩, rfl, by omega, by omega, rfl⟩
      by_cases k5 : k = 5
      · subst k5
        repeat' (first | with_reducible first | refine kI (by kernel_rfl) ?_ | refine kN (by kernel_rfl) ?_ | (first | refine kB1 ?_ ?_ | refine kB2 ?_ ?_) <;> intro hp | (first | refine kD1 ?_ ?_ | refine kD2 ?_ ?_ | refine kS1 ?_ ?_ | refine kS2 ?_ ?_) <;> intro hp <;> try simp only [hp] | simp -implicitDefEqProofs (disch := omega) only [go_sem, Nat.reduceAdd, Nat.reduceSub, reduceCtorEq, Nat.reduceLT, Nat.reduceLeDiff, Nat.reduceEqDiff, Nat.reduceMul, Int.reduceToNat, ↓reduceIte, List.take_of_length_le, if_pos, if_neg, List.getElem?_set_self, List.set_set, getD_exs, cnE, cnV, Tryz.ntmps106, Tryz.results106,  hC.cn, c1, c2, hl, hw, h0, opQ_none])
        refine InlK_intro rfl rfl can_pick ((isp_pick hS (hC.app _) hb _ (by omega) ((B.e.length : Int) + 1) (by omega)).mono ?_)
        rintro r L1 ⟨x, rfl, lx, ux, rfl⟩
        have bx : -100 ≤ x ∧ x ≤ 100 := by omega
        repeat' (first | with_reducible first | refine kI (by kernel_rfl) ?_ | refine kN (by kernel_rfl) ?_ | (first | refine kB1 ?_ ?_ | refine kB2 ?_ ?_) <;> intro hp | (first | refine kD1 ?_ ?_ | refine kD2 ?_ ?_ | refine kS1 ?_ ?_ | refine kS2 ?_ ?_) <;> intro hp <;> try simp only [hp] | simp -implicitDefEqProofs (disch := omega) only [go_sem, Nat.reduceAdd, Nat.reduceSub, reduceCtorEq, Nat.reduceLT, Nat.reduceLeDiff, Nat.reduceEqDiff, Nat.reduceMul, Int.reduceToNat, ↓reduceIte, List.take_of_length_le, if_pos, if_neg, List.getElem?_set_self, List.set_set, getD_exs, cnE, cnV, Tryz.ntmps106, Tryz.results106,  hC.cn])
        exact hC.ret0 ⟨⟨5, [id0, x]⟩, _, ⟨⟨⟨show (0 : Int) ≤ 5 by decide, show (5 : Int) ≤ 7 by decide⟩, rfl⟩, by simp; omega⟩, rfl, by omega, by omega, rfl⟩
      have f0 : (k == 0) = false := beq_f k0
      have f1 : (k == 1) = false := beq_f k1
      have f2 : (k == 2) = false := beq_f k2
      have f4 : (k == 4) = false := beq_f k4
      have f5 : (k == 5) = false := beq_f k5
      repeat' (first | with_reducible first | refine kI (by kernel_rfl) ?_ | refine kN (by kernel_rfl) ?_ | (first | refine kB1 ?_ ?_ | refine kB2 ?_ ?_) <;> intro hp | (first | refine kD1 ?_ ?_ | refine kD2 ?_ ?_ | refine kS1 ?_ ?_ | refine kS2 ?_ ?_) <;> intro hp <;> try simp only [hp] | simp -implicitDefEqProofs (disch := omega) only [go_sem, Nat.reduceAdd, Nat.reduceSub, reduceCtorEq, Nat.reduceLT, Nat.reduceLeDiff, Nat.reduceEqDiff, Nat.reduceMul, Int.reduceToNat, ↓reduceIte, List.take_of_length_le, if_pos, if_neg, List.getElem?_set_self, List.set_set, getD_exs, cnE, cnV, Tryz.ntmps106, Tryz.results106,  hC.cn, f0, f1, f2, f4, f5])
      exact hC.ret0 ⟨⟨k, [id0]⟩, _, ⟨⟨by dsimp only; omega, show 1 = nedF k by unfold nedF; rw [if_neg k1, if_neg k2, if_neg (by omega)]⟩, by simp; omega⟩, rfl, by omega, by omega, rfl⟩
theorem can_someAct : CanCall Tryz.prog 106 := ⟨_, Tryz.func106, rfl, rfl⟩
def SomeAct : Prop := ∀ {bs : List UInt8} {b n : Nat} {rL : Int → List Blk} (hC : RC bs b n rL) (hb : bs.length ≤ 2000) (p : Int) (hp : 0 ≤ p ∧ p ≤ 800000000) (B : Bf) (hB : bufOK B = true) (lo : Nat) (v : AV) (hv : BR lo (rL p) v B), ISpec Tryz.prog 106 [.ptr b 1 0 0, v] (rL p) fun r L' => ∃ (a : Ac) (p' : Int), actV a ∧ r = acA 2 a ∧ p ≤ p' ∧ p' ≤ p + 10 ∧ L' = rL p'
end Go.Proofs.YtokpibajolhelaaGreat
namespace Go.Proofs.YtokpibajolhelaaGreat
open Go Go.Ev Go.RowKit Go.Ev.Enc Go.Pl

def ApplyS : Prop := ∀ (B : Bf) (hB : bufOK B = true) (a : Ac) (ha : actN a) (t lo : Nat) (M : List Blk) (hlo : lo ≤ M.length) (v : AV) (hv : BR lo M v B), ISpec Tryz.prog 105 [v, .agg [i64 a.k, ints t a.n]] M (appK lo M B a)
def NewS : Prop := ∀ n : Nat, n ≤ 60 → OSpec Tryz.prog 104 [i64 (n : Nat)] (bfR ⟨List.replicate n 0, []⟩) (bfN ⟨List.replicate n 0, []⟩)
theorem can_NewS : CanCall Tryz.prog 104 := ⟨_, Tryz.func104, rfl, rfl⟩
theorem BR.sub {lo : Nat} {L L' : List Blk} {v : AV} {B : Bf} (h : BR lo L v B) (hs : ∀ (i : Nat) (k : Blk), L[i]? = some k → k.esz ≠ 2 → L'[i]? = some k) : BR lo L' v B := by
  obtain ⟨i, be, h1, h2, h3, hlw⟩ := h
  refine ⟨i, be, h1, hs _ _ h2 (by exact (by decide : (1 : Nat) ≠ 2)), ?_, hlw⟩
  rcases h3 with h3 | ⟨h3, j, h4, h5⟩
  · exact .inl h3
  · exact .inr ⟨h3, j, h4, hs _ _ h5 (by exact (by decide : (5 : Nat) ≠ 2))⟩
theorem BR.put {lo : Nat} {L : List Blk} {v : AV} {B : Bf} (h : BR lo L v B) {q : Nat} {kq : Blk} (hq : L[q]? = some kq) (h2 : kq.esz = 2) (k' : Blk) : BR lo (L.set q k') v B := by
  refine h.sub fun i k hi hk => ?_
  rw [List.getElem?_set_ne]
  · exact hi
  · rintro rfl
    rw [hq] at hi
    cases hi
    exact hk h2
theorem can_goodBuffer : CanCall Tryz.prog 68 := ⟨_, Tryz.func68, rfl, rfl⟩
set_option maxHeartbeats 4000000 in
set_option maxRecDepth 100000 in
theorem isp_goodBuffer {Sg : FuncId → Option (List AV → Option AV)} (hS : Sound Tryz.prog Sg) (h0 : Sg 59 = none) (h1 : Sg 50 = none) (n1 : Sg 104 = none) (n2 : Sg 106 = none) (n3 : Sg 105 = none) {bs : List UInt8} {b n : Nat} {rL : Int → List Blk} (hC : RC bs b n rL) (hb : bs.length ≤ 2000) (p : Int) (hp : 0 ≤ p ∧ p ≤ 700000000) (hnew : NewS) (hact : SomeAct) (hap : ApplyS) : ISpec Tryz.prog 68 [.ptr b 1 0 0] (rL p) (fun r L' => ∃ (B : Bf) (X : List Blk) (p' : Int), bufOK B = true ∧ L' = rL p' ++ X ∧ BR n (rL p' ++ X) r B ∧ p ≤ p' ∧ p' ≤ p + 200) := by
  refine ISpec.intro Tryz.func68 rfl (vc3_sound Tryz.pf hS hS _ _ _ ?_)
  repeat' (first | with_reducible first | refine kI (by kernel_rfl) ?_ | (first | refine kB1 ?_ ?_ | refine kB2 ?_ ?_) <;> intro hp | (first | refine kD1 ?_ ?_ | refine kD2 ?_ ?_ | refine kS1 ?_ ?_ | refine kS2 ?_ ?_) <;> intro hp <;> try simp only [hp] | simp -implicitDefEqProofs (disch := omega) only [go_sem, Nat.reduceAdd, Nat.reduceSub, reduceCtorEq, Nat.reduceLT, Nat.reduceLeDiff, Nat.reduceEqDiff, Nat.reduceMul, Int.reduceToNat, ↓reduceIte, List.take_of_length_le, if_pos, if_neg, List.getElem?_set_self, List.set_set, getD_exs, cnE, cnV, Tryz.ntmps68, Tryz.results68,  hC.cn, h1, opQ_none])
  refine InlK_intro rfl rfl can_one ((isp_one hS h0 (hC.app _) hb _ (by omega) 2 [12, 20, 16, 8, 0] (by decide)).mono ?_)
  rintro r L1 ⟨c, rfl, hc, rfl⟩
  have hcb : 0 ≤ c ∧ c ≤ 60 := by simp at hc; omega
  obtain ⟨c, rfl⟩ : ∃ m : Nat, c = m := ⟨c.toNat, by omega⟩
  repeat' (first | with_reducible first | refine kI (by kernel_rfl) ?_ | (first | refine kB1 ?_ ?_ | refine kB2 ?_ ?_) <;> intro hp | (first | refine kD1 ?_ ?_ | refine kD2 ?_ ?_ | refine kS1 ?_ ?_ | refine kS2 ?_ ?_) <;> intro hp <;> try simp only [hp] | simp -implicitDefEqProofs (disch := omega) only [go_sem, Nat.reduceAdd, Nat.reduceSub, reduceCtorEq, Nat.reduceLT, Nat.reduceLeDiff, Nat.reduceEqDiff, Nat.reduceMul, Int.reduceToNat, ↓reduceIte, List.take_of_length_le, if_pos, if_neg, List.getElem?_set_self, List.set_set, getD_exs, cnE, cnV, Tryz.ntmps68, Tryz.results68,  hC.cn, n1, opQ_none])
  refine InlK_intro rfl rfl can_NewS ((hnew c (by omega)).call (by simp only [go_sem, ints]) ?_)
  simp only [bfN, exN]
  have hok := new_ok (n := c) (by omega)
  generalize List.replicate c (0 : Int) = C0 at *
  repeat' (first | with_reducible first | refine kI (by kernel_rfl) ?_ | (first | refine kB1 ?_ ?_ | refine kB2 ?_ ?_) <;> intro hp | (first | refine kD1 ?_ ?_ | refine kD2 ?_ ?_ | refine kS1 ?_ ?_ | refine kS2 ?_ ?_) <;> intro hp <;> try simp only [hp] | simp -implicitDefEqProofs (disch := omega) only [go_sem, Nat.reduceAdd, Nat.reduceSub, reduceCtorEq, Nat.reduceLT, Nat.reduceLeDiff, Nat.reduceEqDiff, Nat.reduceMul, Int.reduceToNat, ↓reduceIte, List.take_of_length_le, if_pos, if_neg, List.getElem?_set_self, List.set_set, getD_exs, cnE, cnV, Tryz.ntmps68, Tryz.results68,  hC.cn, exR, h1, opQ_none])
  refine InlK_intro rfl rfl can_one ((isp_one hS h0 (hC.app _) hb _ (by omega) 2 [5, 4, 6, 3, 8, 0] (by decide)).mono ?_)
  rintro r L1 ⟨m, rfl, hm, rfl⟩
  have hmb : 0 ≤ m ∧ m ≤ 8 := by simp at hm; omega
  repeat' (first | with_reducible first | refine kI (by kernel_rfl) ?_ | (first | refine kB1 ?_ ?_ | refine kB2 ?_ ?_) <;> intro hp | (first | refine kD1 ?_ ?_ | refine kD2 ?_ ?_ | refine kS1 ?_ ?_ | refine kS2 ?_ ?_) <;> intro hp <;> try simp only [hp] | simp -implicitDefEqProofs (disch := omega) only [go_sem, Nat.reduceAdd, Nat.reduceSub, reduceCtorEq, Nat.reduceLT, Nat.reduceLeDiff, Nat.reduceEqDiff, Nat.reduceMul, Int.reduceToNat, ↓reduceIte, List.take_of_length_le, if_pos, if_neg, List.getElem?_set_self, List.set_set, getD_exs, cnE, cnV, Tryz.ntmps68, Tryz.results68,  hC.cn])
  refine LoopQ.mix (fun t0 L0 nn ss => ∃ (j : Nat) (p1 : Int) (B : Bf) (v : AV) (J : List Blk) (_ : Unit), (∃ x : Nat → AV, ss = ⟨mixL 0 (.k :: .k :: .k :: .k :: .v (i64 (j : Nat)) :: .k :: .k :: .k :: .k :: .k :: .k :: .k :: .s :: .s :: .s :: .s :: .s :: .s :: .s :: .s :: .s :: .s :: .s :: .s :: .k :: []) t0 x, rL p1 ++ (⟨2, [.agg [.nilS, .nilS]]⟩ :: stB C0 :: ⟨2, [v]⟩ :: J)⟩) ∧ (bufOK B = true) ∧ (BR n (rL p1 ++ (⟨2, [.agg [.nilS, .nilS]]⟩ :: stB C0 :: ⟨2, [v]⟩ :: J)) v B) ∧ (p ≤ p1) ∧ (p1 + 20 * j ≤ p + 200) ∧ nn = j + 1) ?_ ?_
  · exact ⟨_, m.toNat, p + 1 + 1, ⟨C0, []⟩, _, [], (), mixJ (by rw [show ((m.toNat : Nat) : Int) = m by omega]; rfl) rfl, hok, ⟨n + 1, .nilS, rfl, by rw [hC.at']; rfl, .inl ⟨rfl, rfl⟩, by omega, fun j a o n c hj => by cases hj⟩, by omega, by omega, rfl⟩
  · rintro I0 hI0 nn ss ⟨j, p1, B, v, J, _, ⟨y, rfl⟩, hB, hbr, f1, f2, rfl⟩
    obtain ⟨x1, x2, rfl, hx1, hx2⟩ := BR_cells hbr
    match j with
    | 0 =>
      have h00 : ¬ (0 : Int) < ((0 : Nat) : Int) := by decide
      repeat' (first | with_reducible first | refine kI (by kernel_rfl) ?_ | (first | refine kB1 ?_ ?_ | refine kB2 ?_ ?_) <;> intro hp | (first | refine kD1 ?_ ?_ | refine kD2 ?_ ?_ | refine kS1 ?_ ?_ | refine kS2 ?_ ?_) <;> intro hp <;> try simp only [hp] | simp -implicitDefEqProofs (disch := omega) only [go_sem, Nat.reduceAdd, Nat.reduceSub, reduceCtorEq, Nat.reduceLT, Nat.reduceLeDiff, Nat.reduceEqDiff, Nat.reduceMul, Int.reduceToNat, ↓reduceIte, List.take_of_length_le, if_pos, if_neg, List.getElem?_set_self, List.set_set, getD_exs, cnE, cnV, Tryz.ntmps68, Tryz.results68,  hC.cn, hx1, hx2, h00])
      have hbp := hbr.put (q := n) (kq := ⟨2, [.agg [.nilS, .nilS]]⟩) (by rw [hC.at0]; rfl) rfl ⟨2, [.agg [x1, x2]]⟩
      rw [hC.sat0] at hbp
      exact ⟨B, _, p1, hB, rfl, hbp, f1, by omega⟩
    | j + 1 =>
      have hw : IntKind.i64.wrap (((j + 1 : Nat) : Int) - 1) = (j : Int) := by rw [wrap_in (by omega)]; omega
      have hpos : (0 : Int) < ((j + 1 : Nat) : Int) := by omega
      repeat' (first | with_reducible first | refine kI (by kernel_rfl) ?_ | (first | refine kB1 ?_ ?_ | refine kB2 ?_ ?_) <;> intro hp | (first | refine kD1 ?_ ?_ | refine kD2 ?_ ?_ | refine kS1 ?_ ?_ | refine kS2 ?_ ?_) <;> intro hp <;> try simp only [hp] | simp -implicitDefEqProofs (disch := omega) only [go_sem, Nat.reduceAdd, Nat.reduceSub, reduceCtorEq, Nat.reduceLT, Nat.reduceLeDiff, Nat.reduceEqDiff, Nat.reduceMul, Int.reduceToNat, ↓reduceIte, List.take_of_length_le, if_pos, if_neg, List.getElem?_set_self, List.set_set, getD_exs, cnE, cnV, Tryz.ntmps68, Tryz.results68,  hC.cn, hx1, hx2, hpos])
      refine DrawQ.any2 [([0, 1, 2], 3, [0]), ([], 4, []), ([5, 6, 7], 8, [7])] [] [0, 7] (by kernel_rfl) ?_
      repeat' (first | with_reducible first | refine kI (by kernel_rfl) ?_ | (first | refine kB1 ?_ ?_ | refine kB2 ?_ ?_) <;> intro hp | (first | refine kD1 ?_ ?_ | refine kD2 ?_ ?_ | refine kS1 ?_ ?_ | refine kS2 ?_ ?_) <;> intro hp <;> try simp only [hp] | simp -implicitDefEqProofs (disch := omega) only [go_sem, Nat.reduceAdd, Nat.reduceSub, reduceCtorEq, Nat.reduceLT, Nat.reduceLeDiff, Nat.reduceEqDiff, Nat.reduceMul, Int.reduceToNat, ↓reduceIte, List.take_of_length_le, if_pos, if_neg, List.getElem?_set_self, List.set_set, getD_exs, cnE, cnV, Tryz.ntmps68, Tryz.results68,  hC.cn, hx1, hx2, n2, opQ_none])
      refine InlK_intro rfl rfl can_someAct ((hact (hC.app _) hb p1 (by omega) B hB _ _ hbr).mono ?_)
      rintro r L1 ⟨a, p2, ha, rfl, g1, g2, rfl⟩
      repeat' (first | with_reducible first | refine kI (by kernel_rfl) ?_ | (first | refine kB1 ?_ ?_ | refine kB2 ?_ ?_) <;> intro hp | (first | refine kD1 ?_ ?_ | refine kD2 ?_ ?_ | refine kS1 ?_ ?_ | refine kS2 ?_ ?_) <;> intro hp <;> try simp only [hp] | simp -implicitDefEqProofs (disch := omega) only [go_sem, Nat.reduceAdd, Nat.reduceSub, reduceCtorEq, Nat.reduceLT, Nat.reduceLeDiff, Nat.reduceEqDiff, Nat.reduceMul, Int.reduceToNat, ↓reduceIte, List.take_of_length_le, if_pos, if_neg, List.getElem?_set_self, List.set_set, getD_exs, cnE, cnV, Tryz.ntmps68, Tryz.results68,  hC.cn, hx1, hx2, n3, opQ_none])
      refine InlK_intro rfl rfl can_applyS ((hap B hB a ha.1 2 _ _ (by rw [hC.len']; omega) _ (BR.rd (hC.app _) hbr p2)).mono ?_)
      rintro r L1 ⟨x', Y, rfl, rfl, hbr2⟩
      obtain ⟨z1, z2, rfl, hz1, hz2⟩ := BR_cells hbr2
      repeat' (first | with_reducible first | refine kI (by kernel_rfl) ?_ | (first | refine kB1 ?_ ?_ | refine kB2 ?_ ?_) <;> intro hp | (first | refine kD1 ?_ ?_ | refine kD2 ?_ ?_ | refine kS1 ?_ ?_ | refine kS2 ?_ ?_) <;> intro hp <;> try simp only [hp] | simp -implicitDefEqProofs (disch := omega) only [go_sem, Nat.reduceAdd, Nat.reduceSub, reduceCtorEq, Nat.reduceLT, Nat.reduceLeDiff, Nat.reduceEqDiff, Nat.reduceMul, Int.reduceToNat, ↓reduceIte, List.take_of_length_le, if_pos, if_neg, List.getElem?_set_self, List.set_set, getD_exs, cnE, cnV, Tryz.ntmps68, Tryz.results68,  hC.cn, hx1, hx2, hz1, hz2, hw])
      have hbp := hbr2.put (q := n + 2) (kq := ⟨2, [.agg [x1, x2]]⟩) (by rw [List.append_assoc, hC.at']; rfl) rfl ⟨2, [.agg [z1, z2]]⟩
      rw [List.append_assoc, hC.sat'] at hbp
      exact ⟨by omega, j + 1, by omega, hI0 _ _ ⟨j, p2, (appF B a).1, .agg [z1, z2], J ++ Y, (), mixI rfl, app_ok hB, hbp, by omega, by omega, rfl⟩⟩
def GoodB : Prop := ∀ {bs : List UInt8} {b n : Nat} {rL : Int → List Blk} (hC : RC bs b n rL) (hb : bs.length ≤ 2000) (p : Int) (hp : 0 ≤ p ∧ p ≤ 700000000), ISpec Tryz.prog 68 [.ptr b 1 0 0] (rL p) fun r L' => ∃ (B : Bf) (X : List Blk) (p' : Int), bufOK B = true ∧ L' = rL p' ++ X ∧ BR n (rL p' ++ X) r B ∧ p ≤ p' ∧ p' ≤ p + 200
theorem can_someBuffer : CanCall Tryz.prog 34 := ⟨_, Tryz.func34, rfl, rfl⟩
def bfS (B : Bf) : Prop := bfB B ∧ B.c.length ≤ 61 ∧ B.e.length ≤ 9 ∧ ∀ x ∈ B.e, viOK x.v
end Go.Proofs.YtokpibajolhelaaGreat
namespace Go.Proofs.YtokpibajolhelaaGreat
open Go Go.Ev Go.RowKit Go.Ev.Enc Go.Pl

theorem set_ext {X : List Blk} {i : Nat} {k : Blk} (h : X[i]? = some k) (Y : List Blk) (k' : Blk) : (X ++ Y).set i k' = X.set i k' ++ Y := List.set_append_left _ _ (List.getElem?_eq_some_iff.1 h).1
theorem get_set_s {X : List Blk} {i : Nat} {k : Blk} (h : X[i]? = some k) (k' : Blk) : (X.set i k')[i]? = some k' := List.getElem?_set_self (List.getElem?_eq_some_iff.1 h).1
theorem get_set_o {X : List Blk} {i j : Nat} (h : i ≠ j) (k' : Blk) : (X.set i k')[j]? = X[j]? := List.getElem?_set_ne h
theorem selF_len {g : Nat → Option Nat} {L : List Blk} {l : List Int} {m : Nat} (h : l.length = m) : selF g L m 0 m (some ⟨1, l.map fun n => .int .i64 n⟩) = ints 1 l := by subst h; exact selF_ints
theorem selF_exm {g : Nat → Option Nat} {L : List Blk} {l : List Ex} {m : Nat} (h : l.length = m) : selF g L m 0 m (some ⟨5, exL 1 l⟩) = .ds 1 (exL 1 l) := by subst h; exact selF_exs
theorem selF_z {g : Nat → Option Nat} {L : List Blk} {l : List Ex} {a b : Int} {m : Nat} (h : l.length + 1 = m) : selF g L m 0 m (some ⟨5, exL 1 l ++ [.agg [.int .i64 a, .int .i64 b, .nilS, .nilS, .bool true]]⟩) = .ds 1 (exL 1 l ++ [.agg [.int .i64 a, .int .i64 b, .nilS, .nilS, .bool true]]) := by
  subst h
  simp [selF, expE, selStep, Function.comp_def, List.take_of_length_le]
theorem nz_ints {t : Nat} {l : List Int} : nzStep (ints t l) = ints t l := by
  simp [nzStep, nzIn, expE, Function.comp_def]
theorem nz_exs {t : Nat} {l : List Ex} : nzStep (.ds t (exL t l)) = .ds t (exL t l) := by
  simp [nzStep, nzIn, expE, Function.comp_def]
theorem nz_exz {l : List Ex} {a b : Int} : nzStep (.ds 1 (exL 1 l ++ [.agg [.int .i64 a, .int .i64 b, .nilS, .nilS, .bool true]])) = .ds 1 (exL 1 (l ++ [⟨a, ⟨b, [], []⟩, true⟩])) := by
  simp [nzStep, nzIn, expE, Function.comp_def]
theorem selF_z1 {g : Nat → Option Nat} {L : List Blk} {a b : Int} : selF g L 1 0 1 (some ⟨5, [.agg [.int .i64 a, .int .i64 b, .nilS, .nilS, .bool true]]⟩) = .ds 1 [.agg [.int .i64 a, .int .i64 b, .nilS, .nilS, .bool true]] := selF_z (l := []) rfl
theorem nz_exz1 {a b : Int} : nzStep (.ds 1 [.agg [.int .i64 a, .int .i64 b, .nilS, .nilS, .bool true]]) = .ds 1 (exL 1 [⟨a, ⟨b, [], []⟩, true⟩]) := nz_exz (l := [])
theorem nz_nil : nzStep .nilS = .ds 1 [] := rfl
theorem nzW_agg {x y : AV} : nzW (.agg [x, y]) = .agg [nzStep x, nzStep y] := rfl
theorem bfS_of {c : List Int} {e : List Ex} (hc : c.length ≤ 61) (he : e.length ≤ 9) (hv : ∀ x ∈ e, viOK x.v) : bfS ⟨c, e⟩ := by
  refine ⟨⟨by dsimp only; omega, by dsimp only; omega, fun i hi => ?_⟩, hc, he, hv⟩
  show viB (e.getD i ex0).v
  have hi' : i < e.length := hi
  have hm : e.getD i ex0 ∈ e := by simp [hi']
  have := hv _ hm
  exact ⟨by have := this.1; omega, by have := this.2; omega⟩
theorem ok_viOK {B : Bf} (h : bufOK B = true) : ∀ x ∈ B.e, viOK x.v := fun x hx => by
  obtain ⟨i, hi, rfl⟩ := List.mem_iff_getElem.1 hx
  have := (exOK_iff.1 ((bufOK_iff.1 h).2.2 i hi)).2.1
  simp only [List.getD_eq_getElem?_getD, List.getElem?_eq_getElem hi, Option.getD_some] at this
  have s4 := (shape_facts (vOK this).1).1
  have s5 := (vOK this).2
  exact ⟨s4, by omega⟩
theorem bfS_ok {B : Bf} (h : bufOK B = true) : bfS B := ⟨bfB_of h, by have := (memOK_iff.1 (bufOK_iff.1 h).1).1; omega, by have := (bufOK_iff.1 h).2.1; omega, ok_viOK h⟩
set_option maxHeartbeats 4000000 in
set_option maxRecDepth 100000 in
theorem isp_someBuffer {Sg : FuncId → Option (List AV → Option AV)} (hS : Sound Tryz.prog Sg) (h0 : Sg 59 = none) (h1 : Sg 50 = none) (n1 : Sg 68 = none) {bs : List UInt8} {b n : Nat} {rL : Int → List Blk} (hC : RC bs b n rL) (hb : bs.length ≤ 2000) (p : Int) (hp : 0 ≤ p ∧ p ≤ 600000000) (hgb : GoodB) : ISpec Tryz.prog 34 [.ptr b 1 0 0] (rL p) (fun r L' => ∃ (B : Bf) (p' : Int), bfS B ∧ r = bfA 1 B ∧ p ≤ p' ∧ p' ≤ p + 210 ∧ L' = rL p') := by
  refine ISpec.nz2 (ISpec.ret Tryz.func34 rfl (vc3_sound Tryz.pf hS hS _ _ _ ?_))
  repeat' (first | with_reducible first | refine kI (by kernel_rfl) ?_ | (first | refine kB1 ?_ ?_ | refine kB2 ?_ ?_) <;> intro hp | (first | refine kD1 ?_ ?_ | refine kD2 ?_ ?_ | refine kS1 ?_ ?_ | refine kS2 ?_ ?_) <;> intro hp <;> try simp only [hp] | simp -implicitDefEqProofs (disch := omega) only [go_sem, Nat.reduceAdd, Nat.reduceSub, reduceCtorEq, Nat.reduceLT, Nat.reduceLeDiff, Nat.reduceEqDiff, Nat.reduceMul, Int.reduceToNat, ↓reduceIte, List.take_of_length_le, if_pos, if_neg, List.getElem?_set_self, List.set_set, getD_exs, cnE, cnV, Tryz.ntmps34, Tryz.results34,  hC.cn, n1, opQ_none])
  refine InlK_intro rfl rfl can_goodBuffer ((hgb (hC.app _) hb p (by omega)).mono ?_)
  rintro r L1 ⟨B, X, p1, hB, rfl, hbr, f1, f2⟩
  obtain ⟨i, be, rfl, g1, g2, l1, l2⟩ := hbr
  obtain ⟨i, rfl⟩ : ∃ i', i = n + (i' + 1) := ⟨i - n - 1, by simp only [List.length_cons, List.length_nil] at l1; omega⟩
  have h8 := (bufOK_iff.1 hB).2.1
  have h60 := (memOK_iff.1 (bufOK_iff.1 hB).1).1
  have gX : X[i]? = some (stB B.c) := by
    rw [List.append_assoc, hC.at'] at g1; exact g1
  have cX := get_ext gX
  have sX := set_ext gX
  have ssX := get_ext (get_set_s gX ⟨1, (B.c ++ [256]).map fun n => .int .i64 n⟩)
  have gz : ∀ (i : Nat) (k' : Blk) (Y : List Blk), (X.set i k' ++ Y)[X.length]? = Y[0]? := fun i k' Y => by rw [List.getElem?_append_right (by simp), List.length_set, Nat.sub_self]
  have sz : ∀ (i : Nat) (k' w : Blk) (Y : List Blk), (X.set i k' ++ Y).set X.length w = X.set i k' ++ Y.set 0 w := fun i k' w Y => by rw [List.set_append_right _ _ (by simp), List.length_set, Nat.sub_self]
  have gzX : ∀ (k : Nat) (Y : List Blk), (X ++ Y)[X.length + k]? = Y[k]? := fun k Y => get_app_add X Y k
  rcases g2 with ⟨he, rfl⟩ | ⟨he, j, rfl, g3⟩
  · repeat' (first | with_reducible first | refine kI (by kernel_rfl) ?_ | (first | refine kB1 ?_ ?_ | refine kB2 ?_ ?_) <;> intro hp | (first | refine kD1 ?_ ?_ | refine kD2 ?_ ?_ | refine kS1 ?_ ?_ | refine kS2 ?_ ?_) <;> intro hp <;> try simp only [hp] | simp -implicitDefEqProofs (disch := omega) only [go_sem, Nat.reduceAdd, Nat.reduceSub, reduceCtorEq, Nat.reduceLT, Nat.reduceLeDiff, Nat.reduceEqDiff, Nat.reduceMul, Int.reduceToNat, ↓reduceIte, List.take_of_length_le, if_pos, if_neg, List.getElem?_set_self, List.set_set, getD_exs, cnE, cnV, Tryz.ntmps34, Tryz.results34,  hC.cn, h0, opQ_none])
    refine InlK_intro rfl rfl can_pick ((isp_pick hS (hC.app _) hb _ (by omega) 20 (by omega)).mono ?_)
    rintro r L1 ⟨ch, rfl, -, -, rfl⟩
    by_cases c0 : ch = 0
    · subst c0
      have ea := fun (q : Int) (A D : Blk) => evApp_int (L := rL q ++ (A :: (X ++ [D]))) (b := n + (i + 1)) (n := B.c.length) (by' := 8) (q := B.c) (x := 256) (by rw [hC.at']; exact cX _) rfl (by omega) (by omega)
      repeat' (first | with_reducible first | refine kI (by kernel_rfl) ?_ | (first | refine kB1 ?_ ?_ | refine kB2 ?_ ?_) <;> intro hp | (first | refine kD1 ?_ ?_ | refine kD2 ?_ ?_ | refine kS1 ?_ ?_ | refine kS2 ?_ ?_) <;> intro hp <;> try simp only [hp] | simp -implicitDefEqProofs (disch := omega) only [go_sem, Nat.reduceAdd, Nat.reduceSub, reduceCtorEq, Nat.reduceLT, Nat.reduceLeDiff, Nat.reduceEqDiff, Nat.reduceMul, Int.reduceToNat, ↓reduceIte, List.take_of_length_le, if_pos, if_neg, List.getElem?_set_self, List.set_set, getD_exs, cnE, cnV, Tryz.ntmps34, Tryz.results34,  hC.cn, ea, sX, gz, sz])
      refine hC.ret0 ⟨⟨B.c ++ [256], []⟩, _, ?_, ?_, ?_, ?_, rfl⟩
      · exact bfS_of (by simp; omega) (by simp) (by simp)
      · simp -implicitDefEqProofs only [selV_agg, List.map_cons, List.map_nil, selC_sl, Go.Ev.gR_ge, selSl_none, selC_nil, hC.at', List.getElem?_cons_succ, nzW_agg, nz_ints, nz_exs, nz_nil, ssX, selF_len (show (B.c ++ [256]).length = B.c.length + 1 by simp)]
        try rfl
      · omega
      · omega
    · have c0' : (ch == 0) = false := beq_f c0
      by_cases c1 : ch = 1
      · have c1' : (ch == 1) = true := beq_t c1
        repeat' (first | with_reducible first | refine kI (by kernel_rfl) ?_ | (first | refine kB1 ?_ ?_ | refine kB2 ?_ ?_) <;> intro hp | (first | refine kD1 ?_ ?_ | refine kD2 ?_ ?_ | refine kS1 ?_ ?_ | refine kS2 ?_ ?_) <;> intro hp <;> try simp only [hp] | simp -implicitDefEqProofs (disch := omega) only [go_sem, Nat.reduceAdd, Nat.reduceSub, reduceCtorEq, Nat.reduceLT, Nat.reduceLeDiff, Nat.reduceEqDiff, Nat.reduceMul, Int.reduceToNat, ↓reduceIte, List.take_of_length_le, if_pos, if_neg, List.getElem?_set_self, List.set_set, getD_exs, cnE, cnV, Tryz.ntmps34, Tryz.results34,  hC.cn, c0', c1'])
        refine DrawQ.any2 [([0, 1, 2, 3], 4, [0, 1]), ([5, 6], 7, []), ([8], 9, [])] [] [0, 1] (by kernel_rfl) ?_
        repeat' (first | with_reducible first | refine kI (by kernel_rfl) ?_ | (first | refine kB1 ?_ ?_ | refine kB2 ?_ ?_) <;> intro hp | (first | refine kD1 ?_ ?_ | refine kD2 ?_ ?_ | refine kS1 ?_ ?_ | refine kS2 ?_ ?_) <;> intro hp <;> try simp only [hp] | simp -implicitDefEqProofs (disch := omega) only [go_sem, Nat.reduceAdd, Nat.reduceSub, reduceCtorEq, Nat.reduceLT, Nat.reduceLeDiff, Nat.reduceEqDiff, Nat.reduceMul, Int.reduceToNat, ↓reduceIte, List.take_of_length_le, if_pos, if_neg, List.getElem?_set_self, List.set_set, getD_exs, cnE, cnV, Tryz.ntmps34, Tryz.results34,  hC.cn, h1, opQ_none])
        refine InlK_intro rfl rfl can_one ((isp_one hS h0 (hC.app _) hb _ (by omega) 2 [-2, 8] (by decide)).mono ?_)
        rintro r L1 ⟨z, rfl, hz, rfl⟩
        repeat' (first | with_reducible first | refine kI (by kernel_rfl) ?_ | (first | refine kB1 ?_ ?_ | refine kB2 ?_ ?_) <;> intro hp | (first | refine kD1 ?_ ?_ | refine kD2 ?_ ?_ | refine kS1 ?_ ?_ | refine kS2 ?_ ?_) <;> intro hp <;> try simp only [hp] | simp -implicitDefEqProofs (disch := omega) only [go_sem, Nat.reduceAdd, Nat.reduceSub, reduceCtorEq, Nat.reduceLT, Nat.reduceLeDiff, Nat.reduceEqDiff, Nat.reduceMul, Int.reduceToNat, ↓reduceIte, List.take_of_length_le, if_pos, if_neg, List.getElem?_set_self, List.set_set, getD_exs, cnE, cnV, Tryz.ntmps34, Tryz.results34,  hC.cn])
        refine ⟨by omega, ?_⟩
        refine hC.ret0 ⟨⟨B.c, [⟨z, ⟨0, [], []⟩, true⟩]⟩, _, ?_, ?_, ?_, ?_, rfl⟩
        · exact bfS_of (by omega) (by simp) (by simp [viOK])
        · simp -implicitDefEqProofs only [selV_agg, List.map_cons, List.map_nil, selC_sl, Go.Ev.gR_ge, selSl_none, selC_nil, hC.at', List.getElem?_cons_succ, nzW_agg, nz_ints, nz_exs, nz_nil, cX, gzX, selF_len rfl, List.getElem?_cons_succ, List.getElem?_cons_zero, selF_z1, nz_exz1]
          try rfl
        · omega
        · omega
      · have c1' : (ch == 1) = false := beq_f c1
        by_cases c2 : ch = 2
        · have c2' : (ch == 2) = true := beq_t c2
          repeat' (first | with_reducible first | refine kI (by kernel_rfl) ?_ | (first | refine kB1 ?_ ?_ | refine kB2 ?_ ?_) <;> intro hp | (first | refine kD1 ?_ ?_ | refine kD2 ?_ ?_ | refine kS1 ?_ ?_ | refine kS2 ?_ ?_) <;> intro hp <;> try simp only [hp] | simp -implicitDefEqProofs (disch := omega) only [go_sem, Nat.reduceAdd, Nat.reduceSub, reduceCtorEq, Nat.reduceLT, Nat.reduceLeDiff, Nat.reduceEqDiff, Nat.reduceMul, Int.reduceToNat, ↓reduceIte, List.take_of_length_le, if_pos, if_neg, List.getElem?_set_self, List.set_set, getD_exs, cnE, cnV, Tryz.ntmps34, Tryz.results34,  hC.cn, c0', c1', c2'])
          refine hC.ret0 ⟨⟨B.c, [⟨-1, ⟨59, [], []⟩, true⟩]⟩, _, ?_, ?_, ?_, ?_, rfl⟩
          · exact bfS_of (by omega) (by simp) (by simp [viOK])
          · simp -implicitDefEqProofs only [selV_agg, List.map_cons, List.map_nil, selC_sl, Go.Ev.gR_ge, selSl_none, selC_nil, hC.at', List.getElem?_cons_succ, nzW_agg, nz_ints, nz_exs, nz_nil, cX, gzX, selF_len rfl, List.getElem?_cons_succ, List.getElem?_cons_zero, selF_z1, nz_exz1]
            try rfl
          · omega
          · omega
        · have c2' : (ch == 2) = false := beq_f c2
          repeat' (first | with_reducible first | refine kI (by kernel_rfl) ?_ | (first | refine kB1 ?_ ?_ | refine kB2 ?_ ?_) <;> intro hp | (first | refine kD1 ?_ ?_ | refine kD2 ?_ ?_ | refine kS1 ?_ ?_ | refine kS2 ?_ ?_) <;> intro hp <;> try simp only [hp] | simp -implicitDefEqProofs (disch := omega) only [go_sem, Nat.reduceAdd, Nat.reduceSub, reduceCtorEq, Nat.reduceLT, Nat.reduceLeDiff, Nat.reduceEqDiff, Nat.reduceMul, Int.reduceToNat, ↓reduceIte, List.take_of_length_le, if_pos, if_neg, List.getElem?_set_self, List.set_set, getD_exs, cnE, cnV, Tryz.ntmps34, Tryz.results34,  hC.cn, c0', c1', c2'])
          refine hC.ret0 ⟨B, _, ?_, ?_, ?_, ?_, rfl⟩
          · exact bfS_ok hB
          · simp -implicitDefEqProofs only [selV_agg, List.map_cons, List.map_nil, selC_sl, Go.Ev.gR_ge, selSl_none, selC_nil, hC.at', List.getElem?_cons_succ, nzW_agg, nz_ints, nz_exs, nz_nil, cX, selF_len rfl, bfA, he, List.map_nil]
            try rfl
          · omega
          · omega
  · have hln := l2 j _ _ _ _ rfl
    obtain ⟨j, rfl⟩ : ∃ j', j = n + (j' + 1) := ⟨j - n - 1, by simp only [List.length_cons, List.length_nil] at hln; omega⟩
    have gJ : X[j]? = some (exB 1 B.e) := by
      rw [List.append_assoc, hC.at'] at g3; exact g3
    have cJ := get_ext gJ
    have sJ := set_ext gJ
    have hij : i ≠ j := by
      rintro rfl
      rw [gX] at gJ
      have := congrArg Blk.esz (Option.some.inj gJ)
      exact absurd this (by exact (by decide : ¬ (1 : Nat) = 5))
    have oJ : ∀ (k' : Blk) (Y : List Blk), (X.set i k' ++ Y)[j]? = some (exB 1 B.e) := fun k' Y => get_ext (by rw [get_set_o hij]; exact gJ) Y
    have oI : ∀ (k' : Blk) (Y : List Blk), (X.set j k' ++ Y)[i]? = some (stB B.c) := fun k' Y => get_ext (by rw [get_set_o (Ne.symm hij)]; exact gX) Y
    have ssJ := fun (a b : Int) => get_ext (get_set_s gJ ⟨5, exL 1 B.e ++ [.agg [.int .i64 a, .int .i64 b, .nilS, .nilS, .bool true]]⟩)
    have eb := fun (q : Int) (A D : Blk) (z : AV) => evApp_gen (L := rL q ++ (A :: (X ++ [D]))) (b := n + (j + 1)) (n := B.e.length) (by' := 72) (q := exL 1 B.e) (new := [z]) (by rw [hC.at']; exact cJ _) (len_exs 1 B.e) (by simp; omega) (by simp; omega)
    repeat' (first | with_reducible first | refine kI (by kernel_rfl) ?_ | (first | refine kB1 ?_ ?_ | refine kB2 ?_ ?_) <;> intro hp | (first | refine kD1 ?_ ?_ | refine kD2 ?_ ?_ | refine kS1 ?_ ?_ | refine kS2 ?_ ?_) <;> intro hp <;> try simp only [hp] | simp -implicitDefEqProofs (disch := omega) only [go_sem, Nat.reduceAdd, Nat.reduceSub, reduceCtorEq, Nat.reduceLT, Nat.reduceLeDiff, Nat.reduceEqDiff, Nat.reduceMul, Int.reduceToNat, ↓reduceIte, List.take_of_length_le, if_pos, if_neg, List.getElem?_set_self, List.set_set, getD_exs, cnE, cnV, Tryz.ntmps34, Tryz.results34,  hC.cn, h0, opQ_none])
    refine InlK_intro rfl rfl can_pick ((isp_pick hS (hC.app _) hb _ (by omega) 20 (by omega)).mono ?_)
    rintro r L1 ⟨ch, rfl, -, -, rfl⟩
    by_cases c0 : ch = 0
    · subst c0
      have ea := fun (q : Int) (A D : Blk) => evApp_int (L := rL q ++ (A :: (X ++ [D]))) (b := n + (i + 1)) (n := B.c.length) (by' := 8) (q := B.c) (x := 256) (by rw [hC.at']; exact cX _) rfl (by omega) (by omega)
      repeat' (first | with_reducible first | refine kI (by kernel_rfl) ?_ | (first | refine kB1 ?_ ?_ | refine kB2 ?_ ?_) <;> intro hp | (first | refine kD1 ?_ ?_ | refine kD2 ?_ ?_ | refine kS1 ?_ ?_ | refine kS2 ?_ ?_) <;> intro hp <;> try simp only [hp] | simp -implicitDefEqProofs (disch := omega) only [go_sem, Nat.reduceAdd, Nat.reduceSub, reduceCtorEq, Nat.reduceLT, Nat.reduceLeDiff, Nat.reduceEqDiff, Nat.reduceMul, Int.reduceToNat, ↓reduceIte, List.take_of_length_le, if_pos, if_neg, List.getElem?_set_self, List.set_set, getD_exs, cnE, cnV, Tryz.ntmps34, Tryz.results34,  hC.cn, ea, sX, gz, sz])
      refine hC.ret0 ⟨⟨B.c ++ [256], B.e⟩, _, ?_, ?_, ?_, ?_, rfl⟩
      · exact bfS_of (by simp; omega) (by omega) (ok_viOK hB)
      · simp -implicitDefEqProofs only [selV_agg, List.map_cons, List.map_nil, selC_sl, Go.Ev.gR_ge, selSl_none, selC_nil, hC.at', List.getElem?_cons_succ, nzW_agg, nz_ints, nz_exs, nz_nil, ssX, oJ, selF_len (show (B.c ++ [256]).length = B.c.length + 1 by simp), selF_exm rfl]
        try rfl
      · omega
      · omega
    · have c0' : (ch == 0) = false := beq_f c0
      by_cases c1 : ch = 1
      · have c1' : (ch == 1) = true := beq_t c1
        repeat' (first | with_reducible first | refine kI (by kernel_rfl) ?_ | (first | refine kB1 ?_ ?_ | refine kB2 ?_ ?_) <;> intro hp | (first | refine kD1 ?_ ?_ | refine kD2 ?_ ?_ | refine kS1 ?_ ?_ | refine kS2 ?_ ?_) <;> intro hp <;> try simp only [hp] | simp -implicitDefEqProofs (disch := omega) only [go_sem, Nat.reduceAdd, Nat.reduceSub, reduceCtorEq, Nat.reduceLT, Nat.reduceLeDiff, Nat.reduceEqDiff, Nat.reduceMul, Int.reduceToNat, ↓reduceIte, List.take_of_length_le, if_pos, if_neg, List.getElem?_set_self, List.set_set, getD_exs, cnE, cnV, Tryz.ntmps34, Tryz.results34,  hC.cn, c0', c1'])
        refine DrawQ.any2 [([0, 1, 2, 3], 4, [0, 1]), ([5, 6], 7, []), ([8], 9, [])] [] [0, 1] (by kernel_rfl) ?_
        repeat' (first | with_reducible first | refine kI (by kernel_rfl) ?_ | (first | refine kB1 ?_ ?_ | refine kB2 ?_ ?_) <;> intro hp | (first | refine kD1 ?_ ?_ | refine kD2 ?_ ?_ | refine kS1 ?_ ?_ | refine kS2 ?_ ?_) <;> intro hp <;> try simp only [hp] | simp -implicitDefEqProofs (disch := omega) only [go_sem, Nat.reduceAdd, Nat.reduceSub, reduceCtorEq, Nat.reduceLT, Nat.reduceLeDiff, Nat.reduceEqDiff, Nat.reduceMul, Int.reduceToNat, ↓reduceIte, List.take_of_length_le, if_pos, if_neg, List.getElem?_set_self, List.set_set, getD_exs, cnE, cnV, Tryz.ntmps34, Tryz.results34,  hC.cn, h1, opQ_none])
        refine InlK_intro rfl rfl can_one ((isp_one hS h0 (hC.app _) hb _ (by omega) 2 [-2, 8] (by decide)).mono ?_)
        rintro r L1 ⟨z, rfl, hz, rfl⟩
        repeat' (first | with_reducible first | refine kI (by kernel_rfl) ?_ | (first | refine kB1 ?_ ?_ | refine kB2 ?_ ?_) <;> intro hp | (first | refine kD1 ?_ ?_ | refine kD2 ?_ ?_ | refine kS1 ?_ ?_ | refine kS2 ?_ ?_) <;> intro hp <;> try simp only [hp] | simp -implicitDefEqProofs (disch := omega) only [go_sem, Nat.reduceAdd, Nat.reduceSub, reduceCtorEq, Nat.reduceLT, Nat.reduceLeDiff, Nat.reduceEqDiff, Nat.reduceMul, Int.reduceToNat, ↓reduceIte, List.take_of_length_le, if_pos, if_neg, List.getElem?_set_self, List.set_set, getD_exs, cnE, cnV, Tryz.ntmps34, Tryz.results34,  hC.cn, eb, sJ, gz, sz])
        refine hC.ret0 ⟨⟨B.c, B.e ++ [⟨z, ⟨0, [], []⟩, true⟩]⟩, _, ?_, ?_, ?_, ?_, rfl⟩
        · exact bfS_of (by omega) (by simp; omega) (fun x hx => by rcases List.mem_append.1 hx with hx | hx; exact ok_viOK hB x hx; simp at hx; subst hx; simp [viOK])
        · simp -implicitDefEqProofs only [selV_agg, List.map_cons, List.map_nil, selC_sl, Go.Ev.gR_ge, selSl_none, selC_nil, hC.at', List.getElem?_cons_succ, nzW_agg, nz_ints, nz_exs, nz_nil, ssJ, oI, selF_len rfl, selF_z rfl, nz_exz]
          try rfl
        · omega
        · omega
      · have c1' : (ch == 1) = false := beq_f c1
        by_cases c2 : ch = 2
        · have c2' : (ch == 2) = true := beq_t c2
          repeat' (first | with_reducible first | refine kI (by kernel_rfl) ?_ | (first | refine kB1 ?_ ?_ | refine kB2 ?_ ?_) <;> intro hp | (first | refine kD1 ?_ ?_ | refine kD2 ?_ ?_ | refine kS1 ?_ ?_ | refine kS2 ?_ ?_) <;> intro hp <;> try simp only [hp] | simp -implicitDefEqProofs (disch := omega) only [go_sem, Nat.reduceAdd, Nat.reduceSub, reduceCtorEq, Nat.reduceLT, Nat.reduceLeDiff, Nat.reduceEqDiff, Nat.reduceMul, Int.reduceToNat, ↓reduceIte, List.take_of_length_le, if_pos, if_neg, List.getElem?_set_self, List.set_set, getD_exs, cnE, cnV, Tryz.ntmps34, Tryz.results34,  hC.cn, c0', c1', c2', eb, sJ, gz, sz])
          refine hC.ret0 ⟨⟨B.c, B.e ++ [⟨-1, ⟨59, [], []⟩, true⟩]⟩, _, ?_, ?_, ?_, ?_, rfl⟩
          · exact bfS_of (by omega) (by simp; omega) (fun x hx => by rcases List.mem_append.1 hx with hx | hx; exact ok_viOK hB x hx; simp at hx; subst hx; simp [viOK])
          · simp -implicitDefEqProofs only [selV_agg, List.map_cons, List.map_nil, selC_sl, Go.Ev.gR_ge, selSl_none, selC_nil, hC.at', List.getElem?_cons_succ, nzW_agg, nz_ints, nz_exs, nz_nil, ssJ, oI, selF_len rfl, selF_z rfl, nz_exz]
            try rfl
          · omega
          · omega
        · have c2' : (ch == 2) = false := beq_f c2
          repeat' (first | with_reducible first | refine kI (by kernel_rfl) ?_ | (first | refine kB1 ?_ ?_ | refine kB2 ?_ ?_) <;> intro hp | (first | refine kD1 ?_ ?_ | refine kD2 ?_ ?_ | refine kS1 ?_ ?_ | refine kS2 ?_ ?_) <;> intro hp <;> try simp only [hp] | simp -implicitDefEqProofs (disch := omega) only [go_sem, Nat.reduceAdd, Nat.reduceSub, reduceCtorEq, Nat.reduceLT, Nat.reduceLeDiff, Nat.reduceEqDiff, Nat.reduceMul, Int.reduceToNat, ↓reduceIte, List.take_of_length_le, if_pos, if_neg, List.getElem?_set_self, List.set_set, getD_exs, cnE, cnV, Tryz.ntmps34, Tryz.results34,  hC.cn, c0', c1', c2'])
          refine hC.ret0 ⟨B, _, ?_, ?_, ?_, ?_, rfl⟩
          · exact bfS_ok hB
          · simp -implicitDefEqProofs only [selV_agg, List.map_cons, List.map_nil, selC_sl, Go.Ev.gR_ge, selSl_none, selC_nil, hC.at', List.getElem?_cons_succ, nzW_agg, nz_ints, nz_exs, nz_nil, cX, cJ, selF_len rfl, selF_exm rfl]
            try rfl
          · omega
          · omega
def SomeB : Prop := ∀ {bs : List UInt8} {b n : Nat} {rL : Int → List Blk} (hC : RC bs b n rL) (hb : bs.length ≤ 2000) (p : Int) (hp : 0 ≤ p ∧ p ≤ 600000000), ISpec Tryz.prog 34 [.ptr b 1 0 0] (rL p) fun r L' => ∃ (B : Bf) (p' : Int), bfS B ∧ r = bfA 1 B ∧ p ≤ p' ∧ p' ≤ p + 210 ∧ L' = rL p'
end Go.Proofs.YtokpibajolhelaaGreat
namespace Go.Proofs.YtokpibajolhelaaGreat
open Go Go.Ev Go.RowKit Go.Ev.Enc Go.Pl

theorem addB_at {B : Bf} {x : Ex} : (addB B x).e.getD B.e.length ex0 = x := getD_app_r
theorem opF_mem {B : Bf} {k : Nat} : (k : Int) ∈ opF B ↔ k < B.e.length ∧ (B.e.getD k ex0).o = true := by
  unfold opF
  rw [List.mem_map]
  constructor
  · rintro ⟨i, hi, he⟩
    have : i = k := by omega
    subst this
    simpa using List.mem_filter.1 hi
  · rintro ⟨h1, h2⟩
    exact ⟨k, by rw [List.mem_filter]; exact ⟨by simpa using h1, h2⟩, rfl⟩
theorem opF_len (B : Bf) : (opF B).length ≤ B.e.length := filt_len _ _
end Go.Proofs.YtokpibajolhelaaGreat
namespace Go.Proofs.YtokpibajolhelaaGreat
open Go Go.Ev Go.RowKit Go.Ev.Enc Go.Pl

theorem can_idOf : CanCall Tryz.prog 49 := ⟨_, Tryz.func49, rfl, rfl⟩
theorem can_DrawFillExport : CanCall Tryz.prog 17 := ⟨_, Tryz.func17, rfl, rfl⟩
theorem can_DrawCopyExport : CanCall Tryz.prog 22 := ⟨_, Tryz.func22, rfl, rfl⟩
theorem can_DrawExportPart : CanCall Tryz.prog 28 := ⟨_, Tryz.func28, rfl, rfl⟩
set_option maxHeartbeats 4000000 in
set_option maxRecDepth 100000 in
theorem isp_idOf {Sg : FuncId → Option (List AV → Option AV)} (hS : Sound Tryz.prog Sg) (h0 : Sg 59 = none) (h1 : Sg 50 = none) (n1 : Sg 34 = none) {bs : List UInt8} {b n : Nat} {rL : Int → List Blk} (hC : RC bs b n rL) (hb : bs.length ≤ 2000) (p : Int) (hp : 0 ≤ p ∧ p ≤ 500000000) (hsb : SomeB) : ISpec Tryz.prog 49 [.ptr b 1 0 0] (rL p) (fun r L' => ∃ (B : Bf) (id p' : Int), bfS B ∧ r = .tup [bfA 1 B, i64 id] ∧ p ≤ p' ∧ p' ≤ p + 250 ∧ L' = rL p') := by
  refine ISpec.ret Tryz.func49 rfl (vc3_sound Tryz.pf hS hS _ _ _ ?_)
  repeat' (first | with_reducible first | refine kI (by kernel_rfl) ?_ | (first | refine kB1 ?_ ?_ | refine kB2 ?_ ?_) <;> intro hp | (first | refine kD1 ?_ ?_ | refine kD2 ?_ ?_ | refine kS1 ?_ ?_ | refine kS2 ?_ ?_) <;> intro hp <;> try simp only [hp] | simp -implicitDefEqProofs (disch := omega) only [go_sem, Nat.reduceAdd, Nat.reduceSub, reduceCtorEq, Nat.reduceLT, Nat.reduceLeDiff, Nat.reduceEqDiff, Nat.reduceMul, Int.reduceToNat, ↓reduceIte, List.take_of_length_le, if_pos, if_neg, List.getElem?_set_self, List.set_set, getD_exs, cnE, cnV, Tryz.ntmps49, Tryz.results49,  hC.cn, n1, opQ_none])
  refine InlK_intro rfl rfl can_someBuffer ((hsb (hC.app _) hb p (by omega)).mono ?_)
  rintro r L1 ⟨B, p1, hB, rfl, f1, f2, rfl⟩
  have h9 := hB.2.2.1
  repeat' (first | with_reducible first | refine kI (by kernel_rfl) ?_ | (first | refine kB1 ?_ ?_ | refine kB2 ?_ ?_) <;> intro hp | (first | refine kD1 ?_ ?_ | refine kD2 ?_ ?_ | refine kS1 ?_ ?_ | refine kS2 ?_ ?_) <;> intro hp <;> try simp only [hp] | simp -implicitDefEqProofs (disch := omega) only [go_sem, Nat.reduceAdd, Nat.reduceSub, reduceCtorEq, Nat.reduceLT, Nat.reduceLeDiff, Nat.reduceEqDiff, Nat.reduceMul, Int.reduceToNat, ↓reduceIte, List.take_of_length_le, if_pos, if_neg, List.getElem?_set_self, List.set_set, getD_exs, cnE, cnV, Tryz.ntmps49, Tryz.results49,  hC.cn])
  refine LoopQ.mix (fun t0 L0 nn ss => ∃ (i : Nat) (q : List Int) (_ : Unit), (∃ x : Nat → AV, ss = ⟨mixL 0 (.k :: .k :: .k :: .k :: .k :: .v (.sl (n + 2) q.length 0 q.length q.length) :: .v (i64 (i : Nat)) :: .k :: .k :: .k :: .s :: .s :: .s :: .s :: .s :: .s :: .s :: .s :: .s :: .s :: .s :: .s :: .s :: .s :: .s :: .s :: .s :: .k :: .k :: .k :: .k :: .k :: .k :: .k :: .k :: .k :: .k :: .k :: .k :: .k :: .k :: .k :: .k :: .k :: .k :: .k :: .k :: .k :: .k :: .k :: .k :: .k :: .k :: []) t0 x, rL p1 ++ [⟨2, [.agg [.nilS, .nilS]]⟩, ⟨2, [bfA 1 B]⟩, ⟨1, q.map fun n => .int .i64 n⟩]⟩) ∧ (i ≤ B.e.length) ∧ (q.length ≤ i) ∧ nn = B.e.length - i) ?_ ?_
  · exact ⟨_, 0, [], (), mixJ rfl rfl, Nat.zero_le _, Nat.zero_le _, rfl⟩
  · rintro I0 hI0 mm ss ⟨i, q, _, ⟨x, rfl⟩, g1, g2, rfl⟩
    by_cases hi : i < B.e.length
    · have hii : (i : Int) < (B.e.length : Int) := by omega
      have hge := getD_exs (t := 1) hi
      have hA := fun (A D : Blk) => evApp_int (L := rL p1 ++ [A, D, ⟨1, q.map fun n => .int .i64 n⟩]) (b := n + 2) (n := q.length) (by' := 8) (q := q) (x := (i : Int)) (by rw [hC.at']; rfl) rfl (by omega) (by omega)
      cases ho : (B.e.getD i ex0).o with
      | false =>
        repeat' (first | with_reducible first | refine kI (by kernel_rfl) ?_ | (first | refine kB1 ?_ ?_ | refine kB2 ?_ ?_) <;> intro hp | (first | refine kD1 ?_ ?_ | refine kD2 ?_ ?_ | refine kS1 ?_ ?_ | refine kS2 ?_ ?_) <;> intro hp <;> try simp only [hp] | simp -implicitDefEqProofs (disch := omega) only [go_sem, Nat.reduceAdd, Nat.reduceSub, reduceCtorEq, Nat.reduceLT, Nat.reduceLeDiff, Nat.reduceEqDiff, Nat.reduceMul, Int.reduceToNat, ↓reduceIte, List.take_of_length_le, if_pos, if_neg, List.getElem?_set_self, List.set_set, getD_exs, cnE, cnV, Tryz.ntmps49, Tryz.results49,  hC.cn, hii, hge, ho])
        exact ⟨B.e.length - (i + 1), by omega, hI0 _ _ ⟨i + 1, q, (), mixI rfl, hi, by omega, rfl⟩⟩
      | true =>
        repeat' (first | with_reducible first | refine kI (by kernel_rfl) ?_ | (first | refine kB1 ?_ ?_ | refine kB2 ?_ ?_) <;> intro hp | (first | refine kD1 ?_ ?_ | refine kD2 ?_ ?_ | refine kS1 ?_ ?_ | refine kS2 ?_ ?_) <;> intro hp <;> try simp only [hp] | simp -implicitDefEqProofs (disch := omega) only [go_sem, Nat.reduceAdd, Nat.reduceSub, reduceCtorEq, Nat.reduceLT, Nat.reduceLeDiff, Nat.reduceEqDiff, Nat.reduceMul, Int.reduceToNat, ↓reduceIte, List.take_of_length_le, if_pos, if_neg, List.getElem?_set_self, List.set_set, getD_exs, cnE, cnV, Tryz.ntmps49, Tryz.results49,  hC.cn, hii, hge, ho, hA])
        exact ⟨B.e.length - (i + 1), by omega, hI0 _ _ ⟨i + 1, q ++ [(i : Int)], (), mixI (by rw [List.length_append]; rfl), hi, by simp; omega, rfl⟩⟩
    · obtain rfl : i = B.e.length := by omega
      by_cases hq : (0 : Int) < (q.length : Int)
      · repeat' (first | with_reducible first | refine kI (by kernel_rfl) ?_ | (first | refine kB1 ?_ ?_ | refine kB2 ?_ ?_) <;> intro hp | (first | refine kD1 ?_ ?_ | refine kD2 ?_ ?_ | refine kS1 ?_ ?_ | refine kS2 ?_ ?_) <;> intro hp <;> try simp only [hp] | simp -implicitDefEqProofs (disch := omega) only [go_sem, Nat.reduceAdd, Nat.reduceSub, reduceCtorEq, Nat.reduceLT, Nat.reduceLeDiff, Nat.reduceEqDiff, Nat.reduceMul, Int.reduceToNat, ↓reduceIte, List.take_of_length_le, if_pos, if_neg, List.getElem?_set_self, List.set_set, getD_exs, cnE, cnV, Tryz.ntmps49, Tryz.results49,  hC.cn, hq, h0, opQ_none])
        refine InlK_intro rfl rfl can_pick ((isp_pick hS (hC.app _) hb p1 (by omega) 4 (by omega)).mono ?_)
        rintro r L1 ⟨ch, rfl, -, -, rfl⟩
        by_cases hc : (0 : Int) < ch
        · repeat' (first | with_reducible first | refine kI (by kernel_rfl) ?_ | (first | refine kB1 ?_ ?_ | refine kB2 ?_ ?_) <;> intro hp | (first | refine kD1 ?_ ?_ | refine kD2 ?_ ?_ | refine kS1 ?_ ?_ | refine kS2 ?_ ?_) <;> intro hp <;> try simp only [hp] | simp -implicitDefEqProofs (disch := omega) only [go_sem, Nat.reduceAdd, Nat.reduceSub, reduceCtorEq, Nat.reduceLT, Nat.reduceLeDiff, Nat.reduceEqDiff, Nat.reduceMul, Int.reduceToNat, ↓reduceIte, List.take_of_length_le, if_pos, if_neg, List.getElem?_set_self, List.set_set, getD_exs, cnE, cnV, Tryz.ntmps49, Tryz.results49,  hC.cn, hq, hc])
          refine DrawQ.any2 [([0, 1, 2, 3, 4], 5, [0, 1]), ([6, 7], 8, [1, 6, 7])] [9] [0, 1, 6, 7] (by kernel_rfl) ?_
          repeat' (first | with_reducible first | refine kI (by kernel_rfl) ?_ | (first | refine kB1 ?_ ?_ | refine kB2 ?_ ?_) <;> intro hp | (first | refine kD1 ?_ ?_ | refine kD2 ?_ ?_ | refine kS1 ?_ ?_ | refine kS2 ?_ ?_) <;> intro hp <;> try simp only [hp] | simp -implicitDefEqProofs (disch := omega) only [go_sem, Nat.reduceAdd, Nat.reduceSub, reduceCtorEq, Nat.reduceLT, Nat.reduceLeDiff, Nat.reduceEqDiff, Nat.reduceMul, Int.reduceToNat, ↓reduceIte, List.take_of_length_le, if_pos, if_neg, List.getElem?_set_self, List.set_set, getD_exs, cnE, cnV, Tryz.ntmps49, Tryz.results49,  hC.cn, h0, opQ_none])
          refine InlK_intro rfl rfl can_pick ((isp_pick hS (hC.app _) hb _ (by omega) q.length (by omega)).mono ?_)
          rintro r L1 ⟨w, rfl, w1, w2, rfl⟩
          obtain ⟨k, rfl⟩ : ∃ k : Nat, w = k := ⟨w.toNat, by omega⟩
          have hk : k < q.length := by omega
          repeat' (first | with_reducible first | refine kI (by kernel_rfl) ?_ | (first | refine kB1 ?_ ?_ | refine kB2 ?_ ?_) <;> intro hp | (first | refine kD1 ?_ ?_ | refine kD2 ?_ ?_ | refine kS1 ?_ ?_ | refine kS2 ?_ ?_) <;> intro hp <;> try simp only [hp] | simp -implicitDefEqProofs (disch := omega) only [go_sem, Nat.reduceAdd, Nat.reduceSub, reduceCtorEq, Nat.reduceLT, Nat.reduceLeDiff, Nat.reduceEqDiff, Nat.reduceMul, Int.reduceToNat, ↓reduceIte, List.take_of_length_le, if_pos, if_neg, List.getElem?_set_self, List.set_set, getD_exs, cnE, cnV, Tryz.ntmps49, Tryz.results49,  hC.cn])
          exact hC.ret0 ⟨B, _, _, hB, by rw [selV_tup]; simp only [List.map_cons, List.map_nil, selE_agg, selC_d, selC_int, selC_exs]; rfl, by omega, by omega, rfl⟩
        · repeat' (first | with_reducible first | refine kI (by kernel_rfl) ?_ | (first | refine kB1 ?_ ?_ | refine kB2 ?_ ?_) <;> intro hp | (first | refine kD1 ?_ ?_ | refine kD2 ?_ ?_ | refine kS1 ?_ ?_ | refine kS2 ?_ ?_) <;> intro hp <;> try simp only [hp] | simp -implicitDefEqProofs (disch := omega) only [go_sem, Nat.reduceAdd, Nat.reduceSub, reduceCtorEq, Nat.reduceLT, Nat.reduceLeDiff, Nat.reduceEqDiff, Nat.reduceMul, Int.reduceToNat, ↓reduceIte, List.take_of_length_le, if_pos, if_neg, List.getElem?_set_self, List.set_set, getD_exs, cnE, cnV, Tryz.ntmps49, Tryz.results49,  hC.cn, hq, hc])
          refine DrawQ.any2 [([0, 1, 2, 3, 4, 5, 6], 7, [0, 1]), ([8], 9, [0]), ([], 10, [])] [11] [0, 1] (by kernel_rfl) ?_
          repeat' (first | with_reducible first | refine kI (by kernel_rfl) ?_ | (first | refine kB1 ?_ ?_ | refine kB2 ?_ ?_) <;> intro hp | (first | refine kD1 ?_ ?_ | refine kD2 ?_ ?_ | refine kS1 ?_ ?_ | refine kS2 ?_ ?_) <;> intro hp <;> try simp only [hp] | simp -implicitDefEqProofs (disch := omega) only [go_sem, Nat.reduceAdd, Nat.reduceSub, reduceCtorEq, Nat.reduceLT, Nat.reduceLeDiff, Nat.reduceEqDiff, Nat.reduceMul, Int.reduceToNat, ↓reduceIte, List.take_of_length_le, if_pos, if_neg, List.getElem?_set_self, List.set_set, getD_exs, cnE, cnV, Tryz.ntmps49, Tryz.results49,  hC.cn, h0, opQ_none])
          refine InlK_intro rfl rfl can_pick ((isp_pick hS (hC.app _) hb _ (by omega) (B.e.length + 1) (by omega)).mono ?_)
          rintro r L1 ⟨w, rfl, w1, w2, rfl⟩
          repeat' (first | with_reducible first | refine kI (by kernel_rfl) ?_ | (first | refine kB1 ?_ ?_ | refine kB2 ?_ ?_) <;> intro hp | (first | refine kD1 ?_ ?_ | refine kD2 ?_ ?_ | refine kS1 ?_ ?_ | refine kS2 ?_ ?_) <;> intro hp <;> try simp only [hp] | simp -implicitDefEqProofs (disch := omega) only [go_sem, Nat.reduceAdd, Nat.reduceSub, reduceCtorEq, Nat.reduceLT, Nat.reduceLeDiff, Nat.reduceEqDiff, Nat.reduceMul, Int.reduceToNat, ↓reduceIte, List.take_of_length_le, if_pos, if_neg, List.getElem?_set_self, List.set_set, getD_exs, cnE, cnV, Tryz.ntmps49, Tryz.results49,  hC.cn, h1, opQ_none])
          refine InlK_intro rfl rfl can_one ((isp_one hS h0 (hC.app _) hb _ (by omega) 2 [w, -1] (by simp)).mono ?_)
          rintro r L1 ⟨z, rfl, hz, rfl⟩
          repeat' (first | with_reducible first | refine kI (by kernel_rfl) ?_ | (first | refine kB1 ?_ ?_ | refine kB2 ?_ ?_) <;> intro hp | (first | refine kD1 ?_ ?_ | refine kD2 ?_ ?_ | refine kS1 ?_ ?_ | refine kS2 ?_ ?_) <;> intro hp <;> try simp only [hp] | simp -implicitDefEqProofs (disch := omega) only [go_sem, Nat.reduceAdd, Nat.reduceSub, reduceCtorEq, Nat.reduceLT, Nat.reduceLeDiff, Nat.reduceEqDiff, Nat.reduceMul, Int.reduceToNat, ↓reduceIte, List.take_of_length_le, if_pos, if_neg, List.getElem?_set_self, List.set_set, getD_exs, cnE, cnV, Tryz.ntmps49, Tryz.results49,  hC.cn])
          exact hC.ret0 ⟨B, _, _, hB, by rw [selV_tup]; simp only [List.map_cons, List.map_nil, selE_agg, selC_d, selC_int, selC_exs]; rfl, by omega, by omega, rfl⟩
      · repeat' (first | with_reducible first | refine kI (by kernel_rfl) ?_ | (first | refine kB1 ?_ ?_ | refine kB2 ?_ ?_) <;> intro hp | (first | refine kD1 ?_ ?_ | refine kD2 ?_ ?_ | refine kS1 ?_ ?_ | refine kS2 ?_ ?_) <;> intro hp <;> try simp only [hp] | simp -implicitDefEqProofs (disch := omega) only [go_sem, Nat.reduceAdd, Nat.reduceSub, reduceCtorEq, Nat.reduceLT, Nat.reduceLeDiff, Nat.reduceEqDiff, Nat.reduceMul, Int.reduceToNat, ↓reduceIte, List.take_of_length_le, if_pos, if_neg, List.getElem?_set_self, List.set_set, getD_exs, cnE, cnV, Tryz.ntmps49, Tryz.results49,  hC.cn, hq])
        refine DrawQ.any2 [([0, 1, 2, 3, 4, 5, 6], 7, [0, 1]), ([8], 9, [0]), ([], 10, [])] [11] [0, 1] (by kernel_rfl) ?_
        repeat' (first | with_reducible first | refine kI (by kernel_rfl) ?_ | (first | refine kB1 ?_ ?_ | refine kB2 ?_ ?_) <;> intro hp | (first | refine kD1 ?_ ?_ | refine kD2 ?_ ?_ | refine kS1 ?_ ?_ | refine kS2 ?_ ?_) <;> intro hp <;> try simp only [hp] | simp -implicitDefEqProofs (disch := omega) only [go_sem, Nat.reduceAdd, Nat.reduceSub, reduceCtorEq, Nat.reduceLT, Nat.reduceLeDiff, Nat.reduceEqDiff, Nat.reduceMul, Int.reduceToNat, ↓reduceIte, List.take_of_length_le, if_pos, if_neg, List.getElem?_set_self, List.set_set, getD_exs, cnE, cnV, Tryz.ntmps49, Tryz.results49,  hC.cn, h0, opQ_none])
        refine InlK_intro rfl rfl can_pick ((isp_pick hS (hC.app _) hb _ (by omega) (B.e.length + 1) (by omega)).mono ?_)
        rintro r L1 ⟨w, rfl, w1, w2, rfl⟩
        repeat' (first | with_reducible first | refine kI (by kernel_rfl) ?_ | (first | refine kB1 ?_ ?_ | refine kB2 ?_ ?_) <;> intro hp | (first | refine kD1 ?_ ?_ | refine kD2 ?_ ?_ | refine kS1 ?_ ?_ | refine kS2 ?_ ?_) <;> intro hp <;> try simp only [hp] | simp -implicitDefEqProofs (disch := omega) only [go_sem, Nat.reduceAdd, Nat.reduceSub, reduceCtorEq, Nat.reduceLT, Nat.reduceLeDiff, Nat.reduceEqDiff, Nat.reduceMul, Int.reduceToNat, ↓reduceIte, List.take_of_length_le, if_pos, if_neg, List.getElem?_set_self, List.set_set, getD_exs, cnE, cnV, Tryz.ntmps49, Tryz.results49,  hC.cn, h1, opQ_none])
        refine InlK_intro rfl rfl can_one ((isp_one hS h0 (hC.app _) hb _ (by omega) 2 [w, -1] (by simp)).mono ?_)
        rintro r L1 ⟨z, rfl, hz, rfl⟩
        repeat' (first | with_reducible first | refine kI (by kernel_rfl) ?_ | (first | refine kB1 ?_ ?_ | refine kB2 ?_ ?_) <;> intro hp | (first | refine kD1 ?_ ?_ | refine kD2 ?_ ?_ | refine kS1 ?_ ?_ | refine kS2 ?_ ?_) <;> intro hp <;> try simp only [hp] | simp -implicitDefEqProofs (disch := omega) only [go_sem, Nat.reduceAdd, Nat.reduceSub, reduceCtorEq, Nat.reduceLT, Nat.reduceLeDiff, Nat.reduceEqDiff, Nat.reduceMul, Int.reduceToNat, ↓reduceIte, List.take_of_length_le, if_pos, if_neg, List.getElem?_set_self, List.set_set, getD_exs, cnE, cnV, Tryz.ntmps49, Tryz.results49,  hC.cn])
        exact hC.ret0 ⟨B, _, _, hB, by rw [selV_tup]; simp only [List.map_cons, List.map_nil, selE_agg, selC_d, selC_int, selC_exs]; rfl, by omega, by omega, rfl⟩
def IdOf : Prop := ∀ {bs : List UInt8} {b n : Nat} {rL : Int → List Blk} (hC : RC bs b n rL) (hb : bs.length ≤ 2000) (p : Int) (hp : 0 ≤ p ∧ p ≤ 500000000), ISpec Tryz.prog 49 [.ptr b 1 0 0] (rL p) fun r L' => ∃ (B : Bf) (id p' : Int), bfS B ∧ r = .tup [bfA 1 B, i64 id] ∧ p ≤ p' ∧ p' ≤ p + 250 ∧ L' = rL p'
set_option maxHeartbeats 4000000 in
set_option maxRecDepth 100000 in
theorem isp_DrawFillExport {Sg : FuncId → Option (List AV → Option AV)} (hS : Sound Tryz.prog Sg) (h0 : Sg 59 = none) (h1 : Sg 50 = none) (n1 : Sg 33 = none) (n2 : Sg 49 = none) (bs : List UInt8) (hb : bs.length ≤ 1048576) (L : List Blk) (hid : IdOf) : ISpec Tryz.prog 17 [bytesA 0 bs] (L) (fun r L' => ∃ (B : Bf) (id x : Int), bfS B ∧ r = .tup [bfA 1 B, i64 id, i64 x] ∧ L' = L) := by
  refine ISpec.ret Tryz.func17 rfl (vc3_sound Tryz.pf hS hS _ _ _ ?_)
  repeat' (first | with_reducible first | refine kI (by kernel_rfl) ?_ | (first | refine kB1 ?_ ?_ | refine kB2 ?_ ?_) <;> intro hp | (first | refine kD1 ?_ ?_ | refine kD2 ?_ ?_ | refine kS1 ?_ ?_ | refine kS2 ?_ ?_) <;> intro hp <;> try simp only [hp] | simp -implicitDefEqProofs (disch := omega) only [go_sem, Nat.reduceAdd, Nat.reduceSub, reduceCtorEq, Nat.reduceLT, Nat.reduceLeDiff, Nat.reduceEqDiff, Nat.reduceMul, Int.reduceToNat, ↓reduceIte, List.take_of_length_le, if_pos, if_neg, List.getElem?_set_self, List.set_set, getD_exs, cnE, cnV, Tryz.ntmps17, Tryz.results17,  n1, opQ_none])
  refine InlK_intro rfl rfl can_newRd ((isp_newReader hS bs hb _).mono ?_)
  rintro r L1 ⟨rfl, rfl⟩
  have hb2 : (bs.take 2000).length ≤ 2000 := by simp; omega
  have hC := RC.new1 (bs.take 2000) L ⟨2, [.agg [.nilS, .nilS]]⟩
  repeat' (first | with_reducible first | refine kI (by kernel_rfl) ?_ | (first | refine kB1 ?_ ?_ | refine kB2 ?_ ?_) <;> intro hp | (first | refine kD1 ?_ ?_ | refine kD2 ?_ ?_ | refine kS1 ?_ ?_ | refine kS2 ?_ ?_) <;> intro hp <;> try simp only [hp] | simp -implicitDefEqProofs (disch := omega) only [go_sem, Nat.reduceAdd, Nat.reduceSub, reduceCtorEq, Nat.reduceLT, Nat.reduceLeDiff, Nat.reduceEqDiff, Nat.reduceMul, Int.reduceToNat, ↓reduceIte, List.take_of_length_le, if_pos, if_neg, List.getElem?_set_self, List.set_set, getD_exs, cnE, cnV, Tryz.ntmps17, Tryz.results17,  n2, opQ_none])
  refine InlK_intro rfl rfl can_idOf ((hid hC hb2 0 (by omega)).mono ?_)
  rintro r L1 ⟨B, id, p1, hB, rfl, m1, m2, rfl⟩
  have h9 := hB.2.2.1
  have hD := hC.app [⟨2, [bfA 1 B]⟩]
  simp only [List.append_assoc, List.cons_append, List.nil_append, List.length_cons, List.length_nil, Nat.add_assoc] at hD
  repeat' (first | with_reducible first | refine kI (by kernel_rfl) ?_ | (first | refine kB1 ?_ ?_ | refine kB2 ?_ ?_) <;> intro hp | (first | refine kD1 ?_ ?_ | refine kD2 ?_ ?_ | refine kS1 ?_ ?_ | refine kS2 ?_ ?_) <;> intro hp <;> try simp only [hp] | simp -implicitDefEqProofs (disch := omega) only [go_sem, Nat.reduceAdd, Nat.reduceSub, reduceCtorEq, Nat.reduceLT, Nat.reduceLeDiff, Nat.reduceEqDiff, Nat.reduceMul, Int.reduceToNat, ↓reduceIte, List.take_of_length_le, if_pos, if_neg, List.getElem?_set_self, List.set_set, getD_exs, cnE, cnV, Tryz.ntmps17, Tryz.results17])
  refine DrawQ.any2 [([0, 1, 2, 3], 4, [0, 1]), ([], 5, [1])] [6, 7] [0, 1] (by kernel_rfl) ?_
  repeat' (first | with_reducible first | refine kI (by kernel_rfl) ?_ | (first | refine kB1 ?_ ?_ | refine kB2 ?_ ?_) <;> intro hp | (first | refine kD1 ?_ ?_ | refine kD2 ?_ ?_ | refine kS1 ?_ ?_ | refine kS2 ?_ ?_) <;> intro hp <;> try simp only [hp] | simp -implicitDefEqProofs (disch := omega) only [go_sem, Nat.reduceAdd, Nat.reduceSub, reduceCtorEq, Nat.reduceLT, Nat.reduceLeDiff, Nat.reduceEqDiff, Nat.reduceMul, Int.reduceToNat, ↓reduceIte, List.take_of_length_le, if_pos, if_neg, List.getElem?_set_self, List.set_set, getD_exs, cnE, cnV, Tryz.ntmps17, Tryz.results17,  h1, opQ_none])
  refine InlK_intro rfl rfl can_one ((isp_one hS h0 hD hb2 p1 (by omega) 2 [7, 255, 0, 256, -1] (by decide)).mono ?_)
  rintro r L1 ⟨x, rfl, -, rfl⟩
  repeat' (first | with_reducible first | refine kI (by kernel_rfl) ?_ | (first | refine kB1 ?_ ?_ | refine kB2 ?_ ?_) <;> intro hp | (first | refine kD1 ?_ ?_ | refine kD2 ?_ ?_ | refine kS1 ?_ ?_ | refine kS2 ?_ ?_) <;> intro hp <;> try simp only [hp] | simp -implicitDefEqProofs (disch := omega) only [go_sem, Nat.reduceAdd, Nat.reduceSub, reduceCtorEq, Nat.reduceLT, Nat.reduceLeDiff, Nat.reduceEqDiff, Nat.reduceMul, Int.reduceToNat, ↓reduceIte, List.take_of_length_le, if_pos, if_neg, List.getElem?_set_self, List.set_set, getD_exs, cnE, cnV, Tryz.ntmps17, Tryz.results17])
  refine RetQ.top ⟨B, id, x, hB, by rw [selV_tup]; simp only [List.map_cons, List.map_nil, selE_agg, selC_d, selC_int, selC_exs]; rfl, rfl⟩
set_option maxHeartbeats 4000000 in
set_option maxRecDepth 100000 in
theorem isp_DrawCopyExport {Sg : FuncId → Option (List AV → Option AV)} (hS : Sound Tryz.prog Sg) (h0 : Sg 59 = none) (h1 : Sg 50 = none) (n1 : Sg 33 = none) (n2 : Sg 49 = none) (bs : List UInt8) (hb : bs.length ≤ 1048576) (L : List Blk) (hid : IdOf) : ISpec Tryz.prog 22 [bytesA 0 bs] (L) (fun r L' => ∃ (B : Bf) (id x : Int), bfS B ∧ r = .tup [bfA 1 B, i64 id, i64 x] ∧ L' = L) := by
  refine ISpec.ret Tryz.func22 rfl (vc3_sound Tryz.pf hS hS _ _ _ ?_)
  repeat' (first | with_reducible first | refine kI (by kernel_rfl) ?_ | (first | refine kB1 ?_ ?_ | refine kB2 ?_ ?_) <;> intro hp | (first | refine kD1 ?_ ?_ | refine kD2 ?_ ?_ | refine kS1 ?_ ?_ | refine kS2 ?_ ?_) <;> intro hp <;> try simp only [hp] | simp -implicitDefEqProofs (disch := omega) only [go_sem, Nat.reduceAdd, Nat.reduceSub, reduceCtorEq, Nat.reduceLT, Nat.reduceLeDiff, Nat.reduceEqDiff, Nat.reduceMul, Int.reduceToNat, ↓reduceIte, List.take_of_length_le, if_pos, if_neg, List.getElem?_set_self, List.set_set, getD_exs, cnE, cnV, Tryz.ntmps22, Tryz.results22,  n1, opQ_none])
  refine InlK_intro rfl rfl can_newRd ((isp_newReader hS bs hb _).mono ?_)
  rintro r L1 ⟨rfl, rfl⟩
  have hb2 : (bs.take 2000).length ≤ 2000 := by simp; omega
  have hC := RC.new1 (bs.take 2000) L ⟨2, [.agg [.nilS, .nilS]]⟩
  repeat' (first | with_reducible first | refine kI (by kernel_rfl) ?_ | (first | refine kB1 ?_ ?_ | refine kB2 ?_ ?_) <;> intro hp | (first | refine kD1 ?_ ?_ | refine kD2 ?_ ?_ | refine kS1 ?_ ?_ | refine kS2 ?_ ?_) <;> intro hp <;> try simp only [hp] | simp -implicitDefEqProofs (disch := omega) only [go_sem, Nat.reduceAdd, Nat.reduceSub, reduceCtorEq, Nat.reduceLT, Nat.reduceLeDiff, Nat.reduceEqDiff, Nat.reduceMul, Int.reduceToNat, ↓reduceIte, List.take_of_length_le, if_pos, if_neg, List.getElem?_set_self, List.set_set, getD_exs, cnE, cnV, Tryz.ntmps22, Tryz.results22,  n2, opQ_none])
  refine InlK_intro rfl rfl can_idOf ((hid hC hb2 0 (by omega)).mono ?_)
  rintro r L1 ⟨B, id, p1, hB, rfl, m1, m2, rfl⟩
  have h9 := hB.2.2.1
  have hD := hC.app [⟨2, [bfA 1 B]⟩]
  simp only [List.append_assoc, List.cons_append, List.nil_append, List.length_cons, List.length_nil, Nat.add_assoc] at hD
  repeat' (first | with_reducible first | refine kI (by kernel_rfl) ?_ | (first | refine kB1 ?_ ?_ | refine kB2 ?_ ?_) <;> intro hp | (first | refine kD1 ?_ ?_ | refine kD2 ?_ ?_ | refine kS1 ?_ ?_ | refine kS2 ?_ ?_) <;> intro hp <;> try simp only [hp] | simp -implicitDefEqProofs (disch := omega) only [go_sem, Nat.reduceAdd, Nat.reduceSub, reduceCtorEq, Nat.reduceLT, Nat.reduceLeDiff, Nat.reduceEqDiff, Nat.reduceMul, Int.reduceToNat, ↓reduceIte, List.take_of_length_le, if_pos, if_neg, List.getElem?_set_self, List.set_set, getD_exs, cnE, cnV, Tryz.ntmps22, Tryz.results22])
  refine DrawQ.any2 [([0, 1, 2, 3, 4, 5, 6], 7, [0, 1]), ([], 8, [1])] [9, 10] [0, 1] (by kernel_rfl) ?_
  repeat' (first | with_reducible first | refine kI (by kernel_rfl) ?_ | (first | refine kB1 ?_ ?_ | refine kB2 ?_ ?_) <;> intro hp | (first | refine kD1 ?_ ?_ | refine kD2 ?_ ?_ | refine kS1 ?_ ?_ | refine kS2 ?_ ?_) <;> intro hp <;> try simp only [hp] | simp -implicitDefEqProofs (disch := omega) only [go_sem, Nat.reduceAdd, Nat.reduceSub, reduceCtorEq, Nat.reduceLT, Nat.reduceLeDiff, Nat.reduceEqDiff, Nat.reduceMul, Int.reduceToNat, ↓reduceIte, List.take_of_length_le, if_pos, if_neg, List.getElem?_set_self, List.set_set, getD_exs, cnE, cnV, Tryz.ntmps22, Tryz.results22,  h0, opQ_none])
  refine InlK_intro rfl rfl can_pick ((isp_pick hS hD hb2 p1 (by omega) (B.e.length + 1) (by omega)).mono ?_)
  rintro r L1 ⟨x, rfl, -, -, rfl⟩
  repeat' (first | with_reducible first | refine kI (by kernel_rfl) ?_ | (first | refine kB1 ?_ ?_ | refine kB2 ?_ ?_) <;> intro hp | (first | refine kD1 ?_ ?_ | refine kD2 ?_ ?_ | refine kS1 ?_ ?_ | refine kS2 ?_ ?_) <;> intro hp <;> try simp only [hp] | simp -implicitDefEqProofs (disch := omega) only [go_sem, Nat.reduceAdd, Nat.reduceSub, reduceCtorEq, Nat.reduceLT, Nat.reduceLeDiff, Nat.reduceEqDiff, Nat.reduceMul, Int.reduceToNat, ↓reduceIte, List.take_of_length_le, if_pos, if_neg, List.getElem?_set_self, List.set_set, getD_exs, cnE, cnV, Tryz.ntmps22, Tryz.results22])
  refine RetQ.top ⟨B, id, x, hB, by rw [selV_tup]; simp only [List.map_cons, List.map_nil, selE_agg, selC_d, selC_int, selC_exs]; rfl, rfl⟩
set_option maxHeartbeats 4000000 in
set_option maxRecDepth 100000 in
theorem isp_DrawExportPart {Sg : FuncId → Option (List AV → Option AV)} (hS : Sound Tryz.prog Sg) (h0 : Sg 59 = none) (h1 : Sg 50 = none) (n1 : Sg 33 = none) (n2 : Sg 49 = none) (n3 : Sg 64 = none) (bs : List UInt8) (hb : bs.length ≤ 1048576) (L : List Blk) (hid : IdOf) : ISpec Tryz.prog 28 [bytesA 0 bs] (L) (fun r L' => ∃ (B : Bf) (id x : Int) (s : Sl), bfS B ∧ slB s ∧ r = .tup [bfA 1 B, i64 id, i64 x, slA s] ∧ L' = L) := by
  refine ISpec.ret Tryz.func28 rfl (vc3_sound Tryz.pf hS hS _ _ _ ?_)
  repeat' (first | with_reducible first | refine kI (by kernel_rfl) ?_ | (first | refine kB1 ?_ ?_ | refine kB2 ?_ ?_) <;> intro hp | (first | refine kD1 ?_ ?_ | refine kD2 ?_ ?_ | refine kS1 ?_ ?_ | refine kS2 ?_ ?_) <;> intro hp <;> try simp only [hp] | simp -implicitDefEqProofs (disch := omega) only [go_sem, Nat.reduceAdd, Nat.reduceSub, reduceCtorEq, Nat.reduceLT, Nat.reduceLeDiff, Nat.reduceEqDiff, Nat.reduceMul, Int.reduceToNat, ↓reduceIte, List.take_of_length_le, if_pos, if_neg, List.getElem?_set_self, List.set_set, getD_exs, cnE, cnV, Tryz.ntmps28, Tryz.results28,  n1, opQ_none])
  refine InlK_intro rfl rfl can_newRd ((isp_newReader hS bs hb _).mono ?_)
  rintro r L1 ⟨rfl, rfl⟩
  have hb2 : (bs.take 2000).length ≤ 2000 := by simp; omega
  have hC := RC.new2 (bs.take 2000) L ⟨2, [.agg [.nilS, .nilS]]⟩ ⟨5, [.agg [.int .i64 0, .int .i64 0, .int .i64 0, .bool false, .bool false]]⟩
  repeat' (first | with_reducible first | refine kI (by kernel_rfl) ?_ | (first | refine kB1 ?_ ?_ | refine kB2 ?_ ?_) <;> intro hp | (first | refine kD1 ?_ ?_ | refine kD2 ?_ ?_ | refine kS1 ?_ ?_ | refine kS2 ?_ ?_) <;> intro hp <;> try simp only [hp] | simp -implicitDefEqProofs (disch := omega) only [go_sem, Nat.reduceAdd, Nat.reduceSub, reduceCtorEq, Nat.reduceLT, Nat.reduceLeDiff, Nat.reduceEqDiff, Nat.reduceMul, Int.reduceToNat, ↓reduceIte, List.take_of_length_le, if_pos, if_neg, List.getElem?_set_self, List.set_set, getD_exs, cnE, cnV, Tryz.ntmps28, Tryz.results28,  n2, opQ_none])
  refine InlK_intro rfl rfl can_idOf ((hid hC hb2 0 (by omega)).mono ?_)
  rintro r L1 ⟨B, id, p1, hB, rfl, m1, m2, rfl⟩
  have h9 := hB.2.2.1
  have hD := hC.app [⟨2, [bfA 1 B]⟩]
  simp only [List.append_assoc, List.cons_append, List.nil_append, List.length_cons, List.length_nil, Nat.add_assoc] at hD
  repeat' (first | with_reducible first | refine kI (by kernel_rfl) ?_ | (first | refine kB1 ?_ ?_ | refine kB2 ?_ ?_) <;> intro hp | (first | refine kD1 ?_ ?_ | refine kD2 ?_ ?_ | refine kS1 ?_ ?_ | refine kS2 ?_ ?_) <;> intro hp <;> try simp only [hp] | simp -implicitDefEqProofs (disch := omega) only [go_sem, Nat.reduceAdd, Nat.reduceSub, reduceCtorEq, Nat.reduceLT, Nat.reduceLeDiff, Nat.reduceEqDiff, Nat.reduceMul, Int.reduceToNat, ↓reduceIte, List.take_of_length_le, if_pos, if_neg, List.getElem?_set_self, List.set_set, getD_exs, cnE, cnV, Tryz.ntmps28, Tryz.results28])
  refine DrawQ.any2 [([0, 1, 2, 3, 5], 4, [0, 1, 5]), ([], 6, [0, 1]), ([], 7, [1]), ([8, 9], 10, [])] [] [0, 1, 5] (by kernel_rfl) ?_
  repeat' (first | with_reducible first | refine kI (by kernel_rfl) ?_ | (first | refine kB1 ?_ ?_ | refine kB2 ?_ ?_) <;> intro hp | (first | refine kD1 ?_ ?_ | refine kD2 ?_ ?_ | refine kS1 ?_ ?_ | refine kS2 ?_ ?_) <;> intro hp <;> try simp only [hp] | simp -implicitDefEqProofs (disch := omega) only [go_sem, Nat.reduceAdd, Nat.reduceSub, reduceCtorEq, Nat.reduceLT, Nat.reduceLeDiff, Nat.reduceEqDiff, Nat.reduceMul, Int.reduceToNat, ↓reduceIte, List.take_of_length_le, if_pos, if_neg, List.getElem?_set_self, List.set_set, getD_exs, cnE, cnV, Tryz.ntmps28, Tryz.results28,  h1, opQ_none])
  refine InlK_intro rfl rfl can_one ((isp_one hS h0 hD hb2 p1 (by omega) 2 [0, 0, 1, -1] (by decide)).mono ?_)
  rintro r L1 ⟨x, rfl, -, rfl⟩
  repeat' (first | with_reducible first | refine kI (by kernel_rfl) ?_ | (first | refine kB1 ?_ ?_ | refine kB2 ?_ ?_) <;> intro hp | (first | refine kD1 ?_ ?_ | refine kD2 ?_ ?_ | refine kS1 ?_ ?_ | refine kS2 ?_ ?_) <;> intro hp <;> try simp only [hp] | simp -implicitDefEqProofs (disch := omega) only [go_sem, Nat.reduceAdd, Nat.reduceSub, reduceCtorEq, Nat.reduceLT, Nat.reduceLeDiff, Nat.reduceEqDiff, Nat.reduceMul, Int.reduceToNat, ↓reduceIte, List.take_of_length_le, if_pos, if_neg, List.getElem?_set_self, List.set_set, getD_exs, cnE, cnV, Tryz.ntmps28, Tryz.results28,  n3, opQ_none])
  refine InlK_intro rfl rfl can_someSlice ((isp_someSlice hS h0 h1 hD hb2 (p1 + 1) (by omega)).mono ?_)
  rintro r L1 ⟨w, p2, rfl, hw, k1, k2, rfl⟩
  repeat' (first | with_reducible first | refine kI (by kernel_rfl) ?_ | (first | refine kB1 ?_ ?_ | refine kB2 ?_ ?_) <;> intro hp | (first | refine kD1 ?_ ?_ | refine kD2 ?_ ?_ | refine kS1 ?_ ?_ | refine kS2 ?_ ?_) <;> intro hp <;> try simp only [hp] | simp -implicitDefEqProofs (disch := omega) only [go_sem, Nat.reduceAdd, Nat.reduceSub, reduceCtorEq, Nat.reduceLT, Nat.reduceLeDiff, Nat.reduceEqDiff, Nat.reduceMul, Int.reduceToNat, ↓reduceIte, List.take_of_length_le, if_pos, if_neg, List.getElem?_set_self, List.set_set, getD_exs, cnE, cnV, Tryz.ntmps28, Tryz.results28])
  refine RetQ.top ⟨B, id, x, w, hB, hw, by rw [selV_tup]; simp only [List.map_cons, List.map_nil, selE_agg, selC_d, selC_int, selC_exs]; rfl, rfl⟩
end Go.Proofs.YtokpibajolhelaaGreat
namespace Go.Proofs.YtokpibajolhelaaGreat
open Go Go.Ev Go.RowKit Go.Ev.Enc Go.Pl

theorem repV_at {v : Vi} {x : Int} {k : Nat} (hk : k < (offF v).length) : (repV v x).getD k 0 = x := by simp [repV, hk]
theorem opnHold {B : Bf} (h1 : bufOK B = true) {k : Nat} (hk : k < B.e.length) (ho : (B.e.getD k ex0).o = true) : holdB B.c (B.e.getD k ex0).v = true := by
  have hx := exOK_iff.1 ((bufOK_iff.1 h1).2.2 k hk)
  unfold holdB
  rw [(bufOK_iff.1 h1).1, hx.2.1, (hx.2.2 ho).1]; rfl
theorem loa_of {B : Bf} (h1 : bufOK B = true) {k : Nat} (hk : k < B.e.length) (ho : (B.e.getD k ex0).o = true) : loaR B (k : Int) = tkn B.c (offF (B.e.getD k ex0).v) := by
  unfold loaR vwB
  rw [if_pos ⟨h1, opnB_iff.2 ⟨k, rfl, hk, ho⟩⟩, Int.toNat_natCast]
theorem opF_ex {B : Bf} {y : Int} (hm : y ∈ opF B) : ∃ k : Nat, y = k ∧ k < B.e.length ∧ (B.e.getD k ex0).o = true := by
  have h2 := hm
  unfold opF at h2
  obtain ⟨k, -, rfl⟩ := List.mem_map.1 h2
  exact ⟨k, rfl, opF_mem.1 hm⟩
theorem opF_ix {B : Bf} {i : Nat} (hi : i < (opF B).length) : ∃ k : Nat, (opF B).getD i 0 = k ∧ k < B.e.length ∧ (B.e.getD k ex0).o = true := opF_ex (by simp [hi])
theorem getD_mem {A : List Int} {j : Nat} (h : j < A.length) : A.getD j 0 ∈ A := by simp [h]
theorem mem_ix {A : List Int} {y : Int} (h : y ∈ A) : ∃ t, t < A.length ∧ A.getD t 0 = y := by
  obtain ⟨t, ht, rfl⟩ := List.mem_iff_getElem.1 h
  exact ⟨t, ht, by simp [ht]⟩
theorem sto_off {m A V S : List Int} {n : Nat} (hA : inM A n) (hS : inM S n) {j : Nat} (hj : j < S.length) (h : S.getD j 0 ∉ A) : (tkn (stoT m A V A.length) S).getD j 0 = (tkn m S).getD j 0 := by
  rw [tkn_atI hj, tkn_atI hj]
  refine stoT_out _ fun t ht he => h ?_
  obtain ⟨a, ha, -⟩ := in_at hA ht
  obtain ⟨b, hb, -⟩ := in_at hS hj
  rw [ha, hb] at he
  have : a = b := by omega
  rw [hb, ← this, ← ha]
  exact getD_mem ht
theorem filX_load {B B' : Bf} {id x : Int} (h : filXO B id x = some B') {k : Nat} (hk : k < B.e.length) (ho : (B.e.getD k ex0).o = true) {j : Nat} (hj : j < (offF (B.e.getD k ex0).v).length) :
    ((offF (vwB B id)).contains ((offF (B.e.getD k ex0).v).getD j 0) = true → (tkn B'.c (offF (B.e.getD k ex0).v)).getD j 0 = x) ∧
    ((offF (vwB B id)).contains ((offF (B.e.getD k ex0).v).getD j 0) = false → (tkn B'.c (offF (B.e.getD k ex0).v)).getD j 0 = (tkn B.c (offF (B.e.getD k ex0).v)).getD j 0) := by
  obtain ⟨⟨h1, h2, h3⟩, rfl⟩ := opt_some h
  obtain ⟨m, rfl, hm, hmo⟩ := opnB_iff.1 h2
  have i1 := (fit_in (opnHold h1 hk ho)).2.2
  have i2 := (fit_in (opnHold h1 hm hmo)).2.2
  have hv : vwB B (m : Int) = (B.e.getD m ex0).v := by unfold vwB; rw [Int.toNat_natCast]
  dsimp only [filC]
  rw [hv]
  constructor
  · intro hc
    obtain ⟨t, ht, he⟩ := mem_ix (List.contains_iff_mem.1 hc)
    rw [tkn_atI hj, ← he]
    exact fill_at (fun k hk => repV_at hk) i2 _ (Nat.le_refl _) t ht
  · intro hc
    refine sto_off i2 i1 hj fun hm => ?_
    rw [List.contains_iff_mem.2 hm] at hc
    exact absurd hc (by simp)
def DrFilX : Prop := ∀ (bs : List UInt8), bs.length ≤ 1048576 → ∀ L : List Blk, ISpec Tryz.prog 17 [bytesA 0 bs] L fun r L' => ∃ (B : Bf) (id x : Int), bfS B ∧ r = .tup [bfA 1 B, i64 id, i64 x] ∧ L' = L
theorem eqB_nil : gEqB ⟨[], []⟩ ⟨[], []⟩ = some true := (gEqB_eq (A := ⟨[], []⟩) (B := ⟨[], []⟩) ⟨by decide, by decide, fun i hi => absurd hi (Nat.not_lt_zero _)⟩ ⟨by decide, by decide, fun i hi => absurd hi (Nat.not_lt_zero _)⟩).trans (by rw [decide_eq_true rfl])
set_option maxHeartbeats 8000000 in
set_option maxRecDepth 100000 in
theorem law_FillExport {Sg Sd : FuncId → Option (List AV → Option AV)} (hS : Sound Tryz.prog Sg) (hD : Sound Tryz.prog Sd) (n1 : Sg 17 = none) (h1 : Sg 18 = some (F3 gFilX)) (h2 : Sg 19 = some (F3 gFilX)) (h3 : Sg 10 = some (F2 gEqB)) (h4 : Sg 16 = some (F1 gOpF)) (h5 : Sg 20 = some (F1 gCellsT)) (d6 : Sd 21 = some (F1 gOffT)) (d7 : Sd 12 = some (F2 gLoadX)) (d8 : Sd 15 = some (F2 gIsIn)) (h9 : Sg 14 = some (F1 gBuf)) (hDr : DrFilX) : ∀ a r, F1 gTrueW a = some r → CSpec Tryz.prog 4 a r := by
  refine F1_spec ?_
  intro bs r hr
  obtain ⟨g1, rfl⟩ := gd_some hr
  refine law3 Tryz.func4 rfl Tryz.pf hS hD ?_
  by_cases hb : 1048576 < bs.length
  · repeat' (first | with_reducible first | refine kI (by kernel_rfl) ?_ | refine kN (by kernel_rfl) ?_ | (first | refine kB1 ?_ ?_ | refine kB2 ?_ ?_) <;> intro hp | (first | refine kD1 ?_ ?_ | refine kD2 ?_ ?_ | refine kS1 ?_ ?_ | refine kS2 ?_ ?_) <;> intro hp <;> try simp only [hp] | simp -implicitDefEqProofs (disch := omega) only [go_sem, Nat.reduceAdd, Nat.reduceSub, reduceCtorEq, Nat.reduceLT, Nat.reduceLeDiff, Nat.reduceEqDiff, Nat.reduceMul, Int.reduceToNat, ↓reduceIte, List.take_of_length_le, if_pos, if_neg, List.getElem?_set_self, List.set_set, getD_exs, cnE, cnV, Tryz.ntmps4, Tryz.results4])
  · repeat' (first | with_reducible first | refine kI (by kernel_rfl) ?_ | refine kN (by kernel_rfl) ?_ | (first | refine kB1 ?_ ?_ | refine kB2 ?_ ?_) <;> intro hp | (first | refine kD1 ?_ ?_ | refine kD2 ?_ ?_ | refine kS1 ?_ ?_ | refine kS2 ?_ ?_) <;> intro hp <;> try simp only [hp] | simp -implicitDefEqProofs (disch := omega) only [go_sem, Nat.reduceAdd, Nat.reduceSub, reduceCtorEq, Nat.reduceLT, Nat.reduceLeDiff, Nat.reduceEqDiff, Nat.reduceMul, Int.reduceToNat, ↓reduceIte, List.take_of_length_le, if_pos, if_neg, List.getElem?_set_self, List.set_set, getD_exs, cnE, cnV, Tryz.ntmps4, Tryz.results4,  n1, opQ_none])
    refine InlK_intro rfl rfl can_DrawFillExport ((hDr bs (by omega) _).mono ?_)
    rintro r L1 ⟨B, id, w, hB, rfl, rfl⟩
    have q1 := gFilX_eq hB.1 id w
    have q3 := eqB_nil
    cases e : filXO B id w with
    | none =>
      rw [e] at q1
      simp only [bbP] at q1
      repeat' (first | with_reducible first | refine kI (by kernel_rfl) ?_ | refine kN (by kernel_rfl) ?_ | (first | refine kB1 ?_ ?_ | refine kB2 ?_ ?_) <;> intro hp | (first | refine kD1 ?_ ?_ | refine kD2 ?_ ?_ | refine kS1 ?_ ?_ | refine kS2 ?_ ?_) <;> intro hp <;> try simp only [hp] | simp -implicitDefEqProofs (disch := omega) only [go_sem, Nat.reduceAdd, Nat.reduceSub, reduceCtorEq, Nat.reduceLT, Nat.reduceLeDiff, Nat.reduceEqDiff, Nat.reduceMul, Int.reduceToNat, ↓reduceIte, List.take_of_length_le, if_pos, if_neg, List.getElem?_set_self, List.set_set, getD_exs, cnE, cnV, Tryz.ntmps4, Tryz.results4,  h1, q1, h2, h3, q3])
    | some B' =>
      have hok := ok_filX e
      have hfl := fun (k : Nat) hk ho (j : Nat) hj => filX_load e (k := k) hk ho (j := j) hj
      obtain ⟨⟨c1, c2, c3⟩, he'⟩ := opt_some e
      have hE : B'.e = B.e := by rw [← he']
      rw [e] at q1
      simp only [bbP] at q1
      clear e
      have q3 := gEqB_eq (bfB_of hok) (bfB_of hok)
      rw [decide_eq_true rfl] at q3
      obtain ⟨k, rfl, hk, ho⟩ := opnB_iff.1 c2
      have hki : (k : Int) < (B.e.length : Int) := by omega
      have hge := getD_exs (t := 1) hk
      have q4 := gOpF_eq hB.1
      rw [if_pos c1] at q4
      have hix := fun i hi => opF_ix (B := B) (i := i) hi
      have hol := opF_len B
      have hb8 := (bufOK_iff.1 c1).2.1
      have hv : vwB B (k : Int) = (B.e.getD k ex0).v := by unfold vwB; rw [Int.toNat_natCast]
      rw [hv] at hfl
      have hvw := (exOK_iff.1 ((bufOK_iff.1 c1).2.2 k hk)).2.1
      have q5 := gCellsT_eq (v := (B.e.getD k ex0).v) (hB.1.2.2 k hk)
      rw [hvw, if_pos rfl] at q5
      have h60 := offF_60 (vOK hvw).1
      have hsl := srt_len (offF (B.e.getD k ex0).v)
      have hcc : ∀ y, (srt (offF (B.e.getD k ex0).v)).contains y = (offF (B.e.getD k ex0).v).contains y := fun y => by
        rw [Bool.eq_iff_iff, List.contains_iff_mem, List.contains_iff_mem, srt_mem]
      have q9 := gBuf_eq (bfB_of hok)
      rw [hok] at q9
      generalize opF B = O at *
      generalize srt (offF (B.e.getD k ex0).v) = C at *
      generalize offF (B.e.getD k ex0).v = A at *
      repeat' (first | with_reducible first | refine kI (by kernel_rfl) ?_ | refine kN (by kernel_rfl) ?_ | (first | refine kB1 ?_ ?_ | refine kB2 ?_ ?_) <;> intro hp | (first | refine kD1 ?_ ?_ | refine kD2 ?_ ?_ | refine kS1 ?_ ?_ | refine kS2 ?_ ?_) <;> intro hp <;> try simp only [hp] | simp -implicitDefEqProofs (disch := omega) only [go_sem, Nat.reduceAdd, Nat.reduceSub, reduceCtorEq, Nat.reduceLT, Nat.reduceLeDiff, Nat.reduceEqDiff, Nat.reduceMul, Int.reduceToNat, ↓reduceIte, List.take_of_length_le, if_pos, if_neg, List.getElem?_set_self, List.set_set, getD_exs, cnE, cnV, Tryz.ntmps4, Tryz.results4,  h1, q1, h2, h3, q3, h4, q4, hki, hge, h5, q5])
      refine LoopQ.mix (fun t0 L0 nn ss => ∃ (i : Nat) (_ : Unit), (∃ x : Nat → AV, ss = ⟨mixL 0 (.k :: .k :: .s :: .k :: .k :: .k :: .k :: .k :: .k :: .k :: .k :: .k :: .v (i64 (i : Nat)) :: .s :: .s :: .s :: .s :: .k :: .k :: .k :: .k :: .k :: .k :: .k :: .k :: .k :: .k :: .k :: .k :: .k :: .k :: .k :: .k :: .k :: .k :: .k :: .k :: .k :: .k :: .k :: .k :: .k :: .k :: .k :: .k :: .k :: .k :: .k :: .k :: .k :: .k :: .k :: .k :: .k :: .k :: .k :: .k :: .k :: .k :: .k :: .k :: .k :: .k :: .k :: .k :: .k :: .k :: .k :: .k :: .k :: .s :: .s :: .s :: .s :: .s :: .s :: .s :: .s :: .s :: .s :: .s :: .s :: .s :: .s :: .s :: .s :: .s :: .s :: .s :: .s :: .s :: .s :: .s :: .s :: .s :: .s :: .s :: .s :: .s :: .s :: .s :: .s :: .s :: .s :: .s :: .s :: .s :: .s :: .s :: .s :: .s :: .s :: .s :: .s :: .s :: .s :: .s :: .s :: .s :: .s :: .s :: .s :: .s :: .s :: .s :: .s :: .s :: .s :: .s :: .s :: .s :: .s :: .s :: .s :: .s :: .s :: .s :: .s :: .k :: .k :: []) t0 x, L0⟩) ∧ (i ≤ O.length) ∧ nn = O.length - i) ?_ ?_
      · exact ⟨_, ⟨0, (), mixI rfl, Nat.zero_le _, rfl⟩⟩
      · rintro I0 hI0 nn s ⟨i, _, ⟨x, rfl⟩, m1, rfl⟩
        by_cases hi : i < O.length
        · have hii : (i : Int) < (O.length : Int) := by omega
          obtain ⟨u, hu, hul, huo⟩ := hix i hi
          have hui : (u : Int) < (B.e.length : Int) := by omega
          have hgu := getD_exs (t := 1) hul
          have hvu := (exOK_iff.1 ((bufOK_iff.1 c1).2.2 u hul)).2.1
          have q6 := gOffT_eq (v := (B.e.getD u ex0).v) (hB.1.2.2 u hul)
          rw [hvu, if_pos rfl] at q6
          have q7 := gLoadX_eq hB.1 (u : Int)
          rw [loa_of c1 hul huo] at q7
          have q8 := gLoadX_eq (bfB_of hok) (u : Int)
          rw [loa_of hok (by rw [hE]; exact hul) (by rw [hE]; exact huo), hE] at q8
          have hfu := hfl u hul huo
          have h6 := offF_60 (vOK hvu).1
          have hl1 := tkn_len B.c (offF (B.e.getD u ex0).v)
          have hl2 := tkn_len B'.c (offF (B.e.getD u ex0).v)
          generalize tkn B.c (offF (B.e.getD u ex0).v) = T1 at *
          generalize tkn B'.c (offF (B.e.getD u ex0).v) = T2 at *
          generalize offF (B.e.getD u ex0).v = S at *
          repeat' (first | with_reducible first | refine kI (by kernel_rfl) ?_ | refine kN (by kernel_rfl) ?_ | (first | refine kB1 ?_ ?_ | refine kB2 ?_ ?_) <;> intro hp | (first | refine kD1 ?_ ?_ | refine kD2 ?_ ?_ | refine kS1 ?_ ?_ | refine kS2 ?_ ?_) <;> intro hp <;> try simp only [hp] | simp -implicitDefEqProofs (disch := omega) only [go_sem, Nat.reduceAdd, Nat.reduceSub, reduceCtorEq, Nat.reduceLT, Nat.reduceLeDiff, Nat.reduceEqDiff, Nat.reduceMul, Int.reduceToNat, ↓reduceIte, List.take_of_length_le, if_pos, if_neg, List.getElem?_set_self, List.set_set, getD_exs, cnE, cnV, Tryz.ntmps4, Tryz.results4,  hii, getD_ints hi, hu, hui, hgu, d6, q6, d7, q7, q8])
          refine LoopQ.mix (fun t0 L0 nn ss => ∃ (j : Nat) (_ : Unit), (∃ x : Nat → AV, ss = ⟨mixL 0 (.k :: .k :: .s :: .k :: .k :: .k :: .k :: .k :: .k :: .k :: .k :: .k :: .k :: .k :: .k :: .k :: .v (i64 (j : Nat)) :: .k :: .k :: .k :: .k :: .k :: .k :: .k :: .k :: .k :: .k :: .k :: .k :: .k :: .k :: .k :: .k :: .k :: .k :: .k :: .k :: .k :: .k :: .k :: .k :: .k :: .k :: .k :: .k :: .k :: .k :: .k :: .k :: .k :: .k :: .k :: .k :: .k :: .k :: .k :: .k :: .k :: .k :: .k :: .k :: .k :: .k :: .k :: .k :: .k :: .k :: .k :: .k :: .k :: .k :: .k :: .k :: .k :: .k :: .k :: .k :: .k :: .k :: .k :: .k :: .k :: .k :: .k :: .k :: .k :: .k :: .k :: .k :: .k :: .k :: .k :: .k :: .k :: .k :: .k :: .k :: .k :: .s :: .s :: .s :: .s :: .s :: .s :: .s :: .s :: .s :: .s :: .s :: .s :: .s :: .s :: .s :: .s :: .s :: .s :: .s :: .s :: .s :: .s :: .s :: .s :: .s :: .s :: .s :: .s :: .s :: .s :: .s :: .s :: .s :: .s :: .s :: .s :: .s :: .s :: .s :: .s :: .k :: .k :: []) t0 x, L0⟩) ∧ (j ≤ S.length) ∧ nn = S.length - j) ?_ ?_
          · exact ⟨_, ⟨0, (), mixI rfl, Nat.zero_le _, rfl⟩⟩
          · rintro I1 hI1 nn1 s1 ⟨j, _, ⟨x1, rfl⟩, m2, rfl⟩
            by_cases hj : j < S.length
            · have hji : (j : Int) < (S.length : Int) := by omega
              have p := gIsIn_eq (l := C) (by omega) (S.getD j 0)
              rw [hcc] at p
              obtain ⟨p1, p2⟩ := hfu j hj
              cases hz : A.contains (S.getD j 0) with
              | true =>
                rw [hz] at p
                have he := p1 hz
                repeat' (first | with_reducible first | refine kI (by kernel_rfl) ?_ | refine kN (by kernel_rfl) ?_ | (first | refine kB1 ?_ ?_ | refine kB2 ?_ ?_) <;> intro hp | (first | refine kD1 ?_ ?_ | refine kD2 ?_ ?_ | refine kS1 ?_ ?_ | refine kS2 ?_ ?_) <;> intro hp <;> try simp only [hp] | simp -implicitDefEqProofs (disch := omega) only [go_sem, Nat.reduceAdd, Nat.reduceSub, reduceCtorEq, Nat.reduceLT, Nat.reduceLeDiff, Nat.reduceEqDiff, Nat.reduceMul, Int.reduceToNat, ↓reduceIte, List.take_of_length_le, if_pos, if_neg, List.getElem?_set_self, List.set_set, getD_exs, cnE, cnV, Tryz.ntmps4, Tryz.results4,  hji, getD_ints hj, getD_ints (show j < T2.length by omega), show (j : Int) < (T2.length : Int) by omega, d8, p, he])
                exact ⟨S.length - (j + 1), by omega, hI1 _ _ ⟨j + 1, (), mixI rfl, hj, rfl⟩⟩
              | false =>
                rw [hz] at p
                have he := p2 hz
                repeat' (first | with_reducible first | refine kI (by kernel_rfl) ?_ | refine kN (by kernel_rfl) ?_ | (first | refine kB1 ?_ ?_ | refine kB2 ?_ ?_) <;> intro hp | (first | refine kD1 ?_ ?_ | refine kD2 ?_ ?_ | refine kS1 ?_ ?_ | refine kS2 ?_ ?_) <;> intro hp <;> try simp only [hp] | simp -implicitDefEqProofs (disch := omega) only [go_sem, Nat.reduceAdd, Nat.reduceSub, reduceCtorEq, Nat.reduceLT, Nat.reduceLeDiff, Nat.reduceEqDiff, Nat.reduceMul, Int.reduceToNat, ↓reduceIte, List.take_of_length_le, if_pos, if_neg, List.getElem?_set_self, List.set_set, getD_exs, cnE, cnV, Tryz.ntmps4, Tryz.results4,  hji, getD_ints hj, getD_ints (show j < T2.length by omega), getD_ints (show j < T1.length by omega), show (j : Int) < (T2.length : Int) by omega, show (j : Int) < (T1.length : Int) by omega, d8, p, he])
                exact ⟨S.length - (j + 1), by omega, hI1 _ _ ⟨j + 1, (), mixI rfl, hj, rfl⟩⟩
            · obtain rfl : j = S.length := by omega
              repeat' (first | with_reducible first | refine kI (by kernel_rfl) ?_ | refine kN (by kernel_rfl) ?_ | (first | refine kB1 ?_ ?_ | refine kB2 ?_ ?_) <;> intro hp | (first | refine kD1 ?_ ?_ | refine kD2 ?_ ?_ | refine kS1 ?_ ?_ | refine kS2 ?_ ?_) <;> intro hp <;> try simp only [hp] | simp -implicitDefEqProofs (disch := omega) only [go_sem, Nat.reduceAdd, Nat.reduceSub, reduceCtorEq, Nat.reduceLT, Nat.reduceLeDiff, Nat.reduceEqDiff, Nat.reduceMul, Int.reduceToNat, ↓reduceIte, List.take_of_length_le, if_pos, if_neg, List.getElem?_set_self, List.set_set, getD_exs, cnE, cnV, Tryz.ntmps4, Tryz.results4])
              exact ⟨O.length - (i + 1), by omega, hI0 _ _ ⟨i + 1, (), mixI rfl, hi, rfl⟩⟩
        · obtain rfl : i = O.length := by omega
          repeat' (first | with_reducible first | refine kI (by kernel_rfl) ?_ | refine kN (by kernel_rfl) ?_ | (first | refine kB1 ?_ ?_ | refine kB2 ?_ ?_) <;> intro hp | (first | refine kD1 ?_ ?_ | refine kD2 ?_ ?_ | refine kS1 ?_ ?_ | refine kS2 ?_ ?_) <;> intro hp <;> try simp only [hp] | simp -implicitDefEqProofs (disch := omega) only [go_sem, Nat.reduceAdd, Nat.reduceSub, reduceCtorEq, Nat.reduceLT, Nat.reduceLeDiff, Nat.reduceEqDiff, Nat.reduceMul, Int.reduceToNat, ↓reduceIte, List.take_of_length_le, if_pos, if_neg, List.getElem?_set_self, List.set_set, getD_exs, cnE, cnV, Tryz.ntmps4, Tryz.results4,  h9, q9])
end Go.Proofs.YtokpibajolhelaaGreat
namespace Go.Proofs.YtokpibajolhelaaGreat
open Go Go.Ev Go.RowKit Go.Ev.Enc Go.Pl

def DrCpyX : Prop := ∀ (bs : List UInt8), bs.length ≤ 1048576 → ∀ L : List Blk, ISpec Tryz.prog 22 [bytesA 0 bs] L fun r L' => ∃ (B : Bf) (id x : Int), bfS B ∧ r = .tup [bfA 1 B, i64 id, i64 x] ∧ L' = L
set_option maxHeartbeats 8000000 in
set_option maxRecDepth 100000 in
theorem law_CopyExport {Sg Sd : FuncId → Option (List AV → Option AV)} (hS : Sound Tryz.prog Sg) (hD : Sound Tryz.prog Sd) (n1 : Sg 22 = none) (h1 : Sg 23 = some (F3 gCpyX)) (h2 : Sg 24 = some (F3 gCpyX)) (h3 : Sg 10 = some (F2 gEqB)) (d1 : Sd 25 = some (F1 gOneT)) (d2 : Sd 12 = some (F2 gLoadX)) (d3 : Sd 11 = some (F2 gEqInts)) (d4 : Sd 27 = some (F2 gChg)) (d5 : Sd 20 = some (F1 gCellsT)) (d6 : Sd 26 = some (F2 gWithin)) (d7 : Sd 14 = some (F1 gBuf)) (hDr : DrCpyX) : ∀ a r, F1 gTrueW a = some r → CSpec Tryz.prog 5 a r := by
  refine F1_spec ?_
  intro bs r hr
  obtain ⟨g1, rfl⟩ := gd_some hr
  refine law3 Tryz.func5 rfl Tryz.pf hS hD ?_
  by_cases hb : 1048576 < bs.length
  · repeat' (first | with_reducible first | refine kI (by kernel_rfl) ?_ | refine kN (by kernel_rfl) ?_ | (first | refine kB1 ?_ ?_ | refine kB2 ?_ ?_) <;> intro hp | (first | refine kD1 ?_ ?_ | refine kD2 ?_ ?_ | refine kS1 ?_ ?_ | refine kS2 ?_ ?_) <;> intro hp <;> try simp only [hp] | simp -implicitDefEqProofs (disch := omega) only [go_sem, Nat.reduceAdd, Nat.reduceSub, reduceCtorEq, Nat.reduceLT, Nat.reduceLeDiff, Nat.reduceEqDiff, Nat.reduceMul, Int.reduceToNat, ↓reduceIte, List.take_of_length_le, if_pos, if_neg, List.getElem?_set_self, List.set_set, getD_exs, cnE, cnV, Tryz.ntmps5, Tryz.results5])
  · repeat' (first | with_reducible first | refine kI (by kernel_rfl) ?_ | refine kN (by kernel_rfl) ?_ | (first | refine kB1 ?_ ?_ | refine kB2 ?_ ?_) <;> intro hp | (first | refine kD1 ?_ ?_ | refine kD2 ?_ ?_ | refine kS1 ?_ ?_ | refine kS2 ?_ ?_) <;> intro hp <;> try simp only [hp] | simp -implicitDefEqProofs (disch := omega) only [go_sem, Nat.reduceAdd, Nat.reduceSub, reduceCtorEq, Nat.reduceLT, Nat.reduceLeDiff, Nat.reduceEqDiff, Nat.reduceMul, Int.reduceToNat, ↓reduceIte, List.take_of_length_le, if_pos, if_neg, List.getElem?_set_self, List.set_set, getD_exs, cnE, cnV, Tryz.ntmps5, Tryz.results5,  n1, opQ_none])
    refine InlK_intro rfl rfl can_DrawCopyExport ((hDr bs (by omega) _).mono ?_)
    rintro r L1 ⟨B, id, w, hB, rfl, rfl⟩
    have q1 := gCpyX_eq hB.1 id w
    have q3 := eqB_nil
    cases e : cpyXO B id w with
    | none =>
      rw [e] at q1
      simp only [bbP] at q1
      repeat' (first | with_reducible first | refine kI (by kernel_rfl) ?_ | refine kN (by kernel_rfl) ?_ | (first | refine kB1 ?_ ?_ | refine kB2 ?_ ?_) <;> intro hp | (first | refine kD1 ?_ ?_ | refine kD2 ?_ ?_ | refine kS1 ?_ ?_ | refine kS2 ?_ ?_) <;> intro hp <;> try simp only [hp] | simp -implicitDefEqProofs (disch := omega) only [go_sem, Nat.reduceAdd, Nat.reduceSub, reduceCtorEq, Nat.reduceLT, Nat.reduceLeDiff, Nat.reduceEqDiff, Nat.reduceMul, Int.reduceToNat, ↓reduceIte, List.take_of_length_le, if_pos, if_neg, List.getElem?_set_self, List.set_set, getD_exs, cnE, cnV, Tryz.ntmps5, Tryz.results5,  h1, q1, h2, h3, q3])
    | some B' =>
      have hok := ok_cpyX e
      obtain ⟨⟨c1, c2, c3, c4⟩, he'⟩ := opt_some e
      have hE : B'.e = B.e := by rw [← he']
      have hC : B'.c = stoV B.c (vwB B id) (tkn B.c (offF (vwB B w))) := by rw [← he']
      rw [e] at q1
      simp only [bbP] at q1
      clear e
      have q3 := gEqB_eq (bfB_of hok) (bfB_of hok)
      rw [decide_eq_true rfl] at q3
      obtain ⟨k, rfl, hk, ho⟩ := opnB_iff.1 c2
      obtain ⟨u, rfl, hu, huo⟩ := opnB_iff.1 c3
      have hki : (k : Int) < (B.e.length : Int) := by omega
      have hge := getD_exs (t := 1) hk
      have hv : vwB B (k : Int) = (B.e.getD k ex0).v := by unfold vwB; rw [Int.toNat_natCast]
      have hv2 : vwB B (u : Int) = (B.e.getD u ex0).v := by unfold vwB; rw [Int.toNat_natCast]
      rw [hv, hv2] at hC c4
      obtain ⟨e1, e2, e3⟩ := cpyB_iff.1 c4
      obtain ⟨f1, f2, f3⟩ := fit_in e1
      have hle : (tkn B.c (offF (B.e.getD u ex0).v)).length = (offF (B.e.getD k ex0).v).length := by rw [tkn_len, len_off e3]
      have hvb := hB.1.2.2 k hk
      have q4 := gOneT_eq (v := (B.e.getD k ex0).v) hvb
      rw [f2, Bool.true_and] at q4
      have q5 := gLoadX_eq (bfB_of hok) (k : Int)
      rw [loa_of hok (by rw [hE]; exact hk) (by rw [hE]; exact ho), hE] at q5
      have q6 := gLoadX_eq hB.1 (u : Int)
      rw [loa_of c1 hu huo] at q6
      have q10 := gCellsT_eq (v := (B.e.getD k ex0).v) hvb
      rw [f2, if_pos rfl] at q10
      have h60 := offF_60 (vOK f2).1
      have hsl := srt_len (offF (B.e.getD k ex0).v)
      have hts : diffF (offF (B.e.getD k ex0).v) = true → tkn B'.c (offF (B.e.getD k ex0).v) = tkn B.c (offF (B.e.getD u ex0).v) := fun hd => by
        rw [hC]; exact tkn_sto f3 hd hle
      have hln : B'.c.length = B.c.length := by rw [hC]; exact stoT_len _ _ _ _
      have hm60 := (memOK_iff.1 f1).1
      have hch : (chgF B.c B'.c).all (fun x => (srt (offF (B.e.getD k ex0).v)).contains x) = true := by
        rw [hC]; exact within_srt (chg_sto f3 (Nat.le_refl _))
      have hcl2 : (chgF B.c B'.c).length ≤ 60 := by
        have := chgT_len B.c B'.c B.c.length
        unfold chgF
        split
        · omega
        · simp
      have hl1 := tkn_len B'.c (offF (B.e.getD k ex0).v)
      have q8 := gChg_eq (a := B.c) (b := B'.c) ⟨by omega, by omega⟩
      have q9 := (gWithin_eq (a := chgF B.c B'.c) (b := srt (offF (B.e.getD k ex0).v)) ⟨by omega, by omega⟩).trans (by rw [hch])
      have q11 := gBuf_eq (bfB_of hok)
      rw [hok] at q11
      generalize chgF B.c B'.c = D at *
      generalize srt (offF (B.e.getD k ex0).v) = C at *
      cases hd : diffF (offF (B.e.getD k ex0).v) with
      | false =>
        rw [hd] at q4
        repeat' (first | with_reducible first | refine kI (by kernel_rfl) ?_ | refine kN (by kernel_rfl) ?_ | (first | refine kB1 ?_ ?_ | refine kB2 ?_ ?_) <;> intro hp | (first | refine kD1 ?_ ?_ | refine kD2 ?_ ?_ | refine kS1 ?_ ?_ | refine kS2 ?_ ?_) <;> intro hp <;> try simp only [hp] | simp -implicitDefEqProofs (disch := omega) only [go_sem, Nat.reduceAdd, Nat.reduceSub, reduceCtorEq, Nat.reduceLT, Nat.reduceLeDiff, Nat.reduceEqDiff, Nat.reduceMul, Int.reduceToNat, ↓reduceIte, List.take_of_length_le, if_pos, if_neg, List.getElem?_set_self, List.set_set, getD_exs, cnE, cnV, Tryz.ntmps5, Tryz.results5,  h1, q1, h2, h3, q3, hki, hge, d1, q4, d4, q8, d5, q10, d6, q9, d7, q11])
      | true =>
        rw [hd] at q4
        rw [hts hd] at q5
        have q7 := gEqInts_eq (a := tkn B.c (offF (B.e.getD u ex0).v)) (b := tkn B.c (offF (B.e.getD u ex0).v)) ⟨by omega, by omega⟩
        rw [decide_eq_true rfl] at q7
        generalize tkn B.c (offF (B.e.getD u ex0).v) = T at *
        repeat' (first | with_reducible first | refine kI (by kernel_rfl) ?_ | refine kN (by kernel_rfl) ?_ | (first | refine kB1 ?_ ?_ | refine kB2 ?_ ?_) <;> intro hp | (first | refine kD1 ?_ ?_ | refine kD2 ?_ ?_ | refine kS1 ?_ ?_ | refine kS2 ?_ ?_) <;> intro hp <;> try simp only [hp] | simp -implicitDefEqProofs (disch := omega) only [go_sem, Nat.reduceAdd, Nat.reduceSub, reduceCtorEq, Nat.reduceLT, Nat.reduceLeDiff, Nat.reduceEqDiff, Nat.reduceMul, Int.reduceToNat, ↓reduceIte, List.take_of_length_le, if_pos, if_neg, List.getElem?_set_self, List.set_set, getD_exs, cnE, cnV, Tryz.ntmps5, Tryz.results5,  h1, q1, h2, h3, q3, hki, hge, d1, q4, d2, q5, q6, d3, q7, d4, q8, d5, q10, d6, q9, d7, q11])
end Go.Proofs.YtokpibajolhelaaGreat
namespace Go.Proofs.YtokpibajolhelaaGreat
open Go Go.Ev Go.RowKit Go.Ev.Enc Go.Pl

theorem addB_lt {B : Bf} {x : Ex} {k : Nat} (h : k < B.e.length) : (addB B x).e.getD k ex0 = B.e.getD k ex0 := by
  simp [addB, List.getElem?_append_left h]
theorem kid_new {B : Bf} {v : Vi} {k : Nat} : (B.e.length : Int) ∈ kidF (addB B ⟨k, v, true⟩) k := by
  unfold kidF
  rw [List.mem_map]
  refine ⟨B.e.length, ?_, rfl⟩
  rw [List.mem_filter]
  exact ⟨by simp [addB], by rw [addB_at]; simp⟩
def DrExP : Prop := ∀ (bs : List UInt8), bs.length ≤ 1048576 → ∀ L : List Blk, ISpec Tryz.prog 28 [bytesA 0 bs] L fun r L' => ∃ (B : Bf) (id x : Int) (s : Sl), bfS B ∧ slB s ∧ r = .tup [bfA 1 B, i64 id, i64 x, slA s] ∧ L' = L
set_option maxHeartbeats 8000000 in
set_option maxRecDepth 100000 in
theorem law_ExportPart {Sg Sd : FuncId → Option (List AV → Option AV)} (hS : Sound Tryz.prog Sg) (hD : Sound Tryz.prog Sd) (n1 : Sg 28 = none) (h1 : Sg 29 = some (F4 gExpP)) (h2 : Sg 30 = some (F4 gExpP)) (h3 : Sg 10 = some (F2 gEqB)) (d1 : Sd 31 = some (F2 gCov)) (d2 : Sd 32 = some (F2 gKidT)) (d3 : Sd 15 = some (F2 gIsIn)) (d4 : Sd 14 = some (F1 gBuf)) (hDr : DrExP) : ∀ a r, F1 gTrueW a = some r → CSpec Tryz.prog 6 a r := by
  refine F1_spec ?_
  intro bs r hr
  obtain ⟨g1, rfl⟩ := gd_some hr
  refine law3 Tryz.func6 rfl Tryz.pf hS hD ?_
  by_cases hb : 1048576 < bs.length
  · repeat' (first | with_reducible first | refine kI (by kernel_rfl) ?_ | refine kN (by kernel_rfl) ?_ | (first | refine kB1 ?_ ?_ | refine kB2 ?_ ?_) <;> intro hp | (first | refine kD1 ?_ ?_ | refine kD2 ?_ ?_ | refine kS1 ?_ ?_ | refine kS2 ?_ ?_) <;> intro hp <;> try simp only [hp] | simp -implicitDefEqProofs (disch := omega) only [go_sem, Nat.reduceAdd, Nat.reduceSub, reduceCtorEq, Nat.reduceLT, Nat.reduceLeDiff, Nat.reduceEqDiff, Nat.reduceMul, Int.reduceToNat, ↓reduceIte, List.take_of_length_le, if_pos, if_neg, List.getElem?_set_self, List.set_set, getD_exs, cnE, cnV, Tryz.ntmps6, Tryz.results6])
  · repeat' (first | with_reducible first | refine kI (by kernel_rfl) ?_ | refine kN (by kernel_rfl) ?_ | (first | refine kB1 ?_ ?_ | refine kB2 ?_ ?_) <;> intro hp | (first | refine kD1 ?_ ?_ | refine kD2 ?_ ?_ | refine kS1 ?_ ?_ | refine kS2 ?_ ?_) <;> intro hp <;> try simp only [hp] | simp -implicitDefEqProofs (disch := omega) only [go_sem, Nat.reduceAdd, Nat.reduceSub, reduceCtorEq, Nat.reduceLT, Nat.reduceLeDiff, Nat.reduceEqDiff, Nat.reduceMul, Int.reduceToNat, ↓reduceIte, List.take_of_length_le, if_pos, if_neg, List.getElem?_set_self, List.set_set, getD_exs, cnE, cnV, Tryz.ntmps6, Tryz.results6,  n1, opQ_none])
    refine InlK_intro rfl rfl can_DrawExportPart ((hDr bs (by omega) _).mono ?_)
    rintro r L1 ⟨B, id, d, s, hB, hs, rfl, rfl⟩
    have q1 := gExpP_eq hB.1 id d s
    have q3 := eqB_nil
    cases e : expPO B id d s with
    | none =>
      rw [e] at q1
      simp only [bbP] at q1
      repeat' (first | with_reducible first | refine kI (by kernel_rfl) ?_ | refine kN (by kernel_rfl) ?_ | (first | refine kB1 ?_ ?_ | refine kB2 ?_ ?_) <;> intro hp | (first | refine kD1 ?_ ?_ | refine kD2 ?_ ?_ | refine kS1 ?_ ?_ | refine kS2 ?_ ?_) <;> intro hp <;> try simp only [hp] | simp -implicitDefEqProofs (disch := omega) only [go_sem, Nat.reduceAdd, Nat.reduceSub, reduceCtorEq, Nat.reduceLT, Nat.reduceLeDiff, Nat.reduceEqDiff, Nat.reduceMul, Int.reduceToNat, ↓reduceIte, List.take_of_length_le, if_pos, if_neg, List.getElem?_set_self, List.set_set, getD_exs, cnE, cnV, Tryz.ntmps6, Tryz.results6,  h1, q1, h2, h3, q3])
    | some B' =>
      have hok := ok_expP e
      obtain ⟨⟨c1, c2, c3, c4⟩, he'⟩ := opt_some e
      rw [e] at q1
      simp only [bbP] at q1
      clear e
      have q3 := gEqB_eq (bfB_of hok) (bfB_of hok)
      rw [decide_eq_true rfl] at q3
      obtain ⟨k, rfl, hk, ho⟩ := opnB_iff.1 c2
      have hv : vwB B (k : Int) = (B.e.getD k ex0).v := by unfold vwB; rw [Int.toNat_natCast]
      rw [hv] at he' c4
      have hln : B'.e.length = B.e.length + 1 := by rw [← he']; simp [addB]
      have hka : B'.e.getD k ex0 = B.e.getD k ex0 := by rw [← he']; exact addB_lt hk
      have hkn : (B'.e.getD B.e.length ex0).v = (sliR (B.e.getD k ex0).v d s).1 := by rw [← he', addB_at]
      have hki : (k : Int) < (B'.e.length : Int) := by omega
      have hni : (B.e.length : Int) < (B'.e.length : Int) := by omega
      have hge := getD_exs (t := 1) (show k < B'.e.length by omega)
      have hgn := getD_exs (t := 1) (show B.e.length < B'.e.length by omega)
      have hw := bfB_of hok
      have q4 := gCov_eq (a := (B'.e.getD k ex0).v) (b := (B'.e.getD B.e.length ex0).v) ⟨hw.2.2 k (by omega), hw.2.2 B.e.length (by omega)⟩
      have hcv : (okk (B'.e.getD k ex0).v (B'.e.getD B.e.length ex0).v && (offF (B'.e.getD B.e.length ex0).v).all fun x => (offF (B'.e.getD k ex0).v).contains x) = true := by
        rw [hkn, hka]
        have hvk := (exOK_iff.1 ((bufOK_iff.1 c1).2.2 k hk)).2.1
        rw [Bool.and_eq_true]
        refine ⟨by unfold okk; rw [hvk, sliR_ok c4]; rfl, within_mem fun x hx => part_mem c4 hx⟩
      rw [hcv] at q4
      have hb8 := (bufOK_iff.1 hok).2.1
      have q5 := gKidT_eq hw (k : Int)
      rw [if_pos ⟨hok, by unfold inR; simp; omega⟩] at q5
      have hkl : (kidF B' (k : Int)).length ≤ B'.e.length := by
        unfold kidF; exact filt_len _ _
      have q6 := gIsIn_eq (l := kidF B' (k : Int)) (by omega) (B.e.length : Int)
      have hme : (B.e.length : Int) ∈ kidF B' (k : Int) := by rw [← he']; exact kid_new
      rw [List.contains_iff_mem.2 hme] at q6
      have q7 := gBuf_eq hw
      rw [hok] at q7
      generalize kidF B' (k : Int) = D at *
      repeat' (first | with_reducible first | refine kI (by kernel_rfl) ?_ | refine kN (by kernel_rfl) ?_ | (first | refine kB1 ?_ ?_ | refine kB2 ?_ ?_) <;> intro hp | (first | refine kD1 ?_ ?_ | refine kD2 ?_ ?_ | refine kS1 ?_ ?_ | refine kS2 ?_ ?_) <;> intro hp <;> try simp only [hp] | simp -implicitDefEqProofs (disch := omega) only [go_sem, Nat.reduceAdd, Nat.reduceSub, reduceCtorEq, Nat.reduceLT, Nat.reduceLeDiff, Nat.reduceEqDiff, Nat.reduceMul, Int.reduceToNat, ↓reduceIte, List.take_of_length_le, if_pos, if_neg, List.getElem?_set_self, List.set_set, getD_exs, cnE, cnV, Tryz.ntmps6, Tryz.results6,  h1, q1, h2, h3, q3, hki, hni, hge, hgn, d1, q4, d2, q5, d3, q6, d4, q7])
end Go.Proofs.YtokpibajolhelaaGreat
