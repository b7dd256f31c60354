/- Contracts of functions on views and memories that the laws of this seat call. -/
import Derived.Test.YtkmnepmnjpdpkaaGreatDoorZB
import Derived.Test.YtkmnepmnjpdpkaaGreatDoorEvC
set_option linter.all false
namespace Go.Proofs.YtkmnepmnjpdpkaaGreatDoor
open Go Go.Ev Go.RowKit Go.Ev.Enc Go.Pl

set_option maxHeartbeats 4000000 in
set_option maxRecDepth 100000 in
theorem o_NewBufferS {Sg : FuncId → Option (List AV → Option AV)} (hS : Sound Tryz.prog Sg) (hr : Sg 100 = some (F3 gInRange)) (n : Nat) (h : n ≤ 60) : OSpec Tryz.prog 56 [i64 (n : Nat)] (bfR ⟨List.replicate n 0, []⟩) (bfN ⟨List.replicate n 0, []⟩) := by
  refine OSpec.ofR Tryz.func56 rfl (vc3_sound Tryz.pf hS hS _ _ _ ?_)
  have q1 := gInRange_eq (n : Int) 0 60
  have e : inR (n : Int) 0 60 = true := by unfold inR; simp; omega
  rw [e] at q1
  repeat' (first | with_reducible first | refine kI (by kernel_rfl) ?_ | refine kN (by kernel_rfl) ?_ | simp -implicitDefEqProofs (disch := omega) only [go_sem, Nat.reduceAdd, Nat.reduceSub, reduceCtorEq, Nat.reduceLT, Nat.reduceLeDiff, Nat.reduceEqDiff, ↓reduceIte, List.take_of_length_le, if_pos, if_neg, getD_exs, cnE, cnV, Tryz.ntmps56, Tryz.results56,  hr, q1])
  have hl : (List.replicate n (0 : Int)).length = n := List.length_replicate
  rw [show (.sl 1 n 0 n n : AV) = .sl 1 (List.replicate n (0 : Int)).length 0 (List.replicate n (0 : Int)).length (List.replicate n (0 : Int)).length by rw [hl]]
  exact ret_B (B := ⟨List.replicate n 0, []⟩) (i := 1) rfl (exAt_e rfl) (by intro j v o n c hj; cases hj)
theorem new_ok {n : Nat} (h : n ≤ 60) : bufOK ⟨List.replicate n 0, []⟩ = true :=
  bufOK_iff.2 ⟨memOK_iff.2 ⟨by simpa using h, fun x hx => by rw [List.eq_of_mem_replicate hx]; decide⟩, by simp, fun i hi => by simp at hi⟩
theorem get_rd {bs : List UInt8} {b n : Nat} {rL : Int → List Blk} (hC : RC bs b n rL) {p : Int} {i : Nat} {k : Blk} (h : (rL p)[i]? = some k) (hk : k.esz ≠ 2) (q : Int) : (rL q)[i]? = some k := by
  rw [← hC.set p q, List.getElem?_set_ne]
  · exact h
  · rintro rfl
    rw [hC.get] at h
    have : rdB bs p = k := by simpa using h
    exact hk (by rw [← this])
theorem BR.rd {bs : List UInt8} {b n : Nat} {rL : Int → List Blk} (hC : RC bs b n rL) {lo : Nat} {p : Int} {v : AV} {B : Bf} (h : BR lo (rL p) v B) (q : Int) : BR lo (rL q) v B := by
  obtain ⟨i, be, h1, h2, h3, hlw⟩ := h
  refine ⟨i, be, h1, get_rd hC h2 (by exact (by decide : (1 : Nat) ≠ 2)) q, ?_, hlw⟩
  rcases h3 with h3 | ⟨h3, j, h4, h5⟩
  · exact .inl h3
  · exact .inr ⟨h3, j, h4, get_rd hC h5 (by exact (by decide : (5 : Nat) ≠ 2)) q⟩
def actV (a : Ac) : Prop := actN a ∧ ∀ x ∈ a.n, -100 ≤ x ∧ x ≤ 100
theorem opF_lt {B : Bf} {x : Int} (h : x ∈ opF B) : 0 ≤ x ∧ x < B.e.length := by
  unfold opF at h
  obtain ⟨i, hi, rfl⟩ := List.mem_map.1 h
  have := (List.mem_filter.1 hi).1
  simp at this
  omega
set_option maxHeartbeats 4000000 in
set_option maxRecDepth 100000 in
theorem isp_someAct0 {Sg : FuncId → Option (List AV → Option AV)} (hS : Sound Tryz.prog Sg) (h0 : Sg 76 = none) (h1 : Sg 89 = none) (ho : Sg 122 = some (F1 gOpF)) {bs : List UInt8} {b n : Nat} {rL : Int → List Blk} (hC : RC bs b n rL) (hb : bs.length ≤ 2000) (p : Int) (hp : 0 ≤ p ∧ p ≤ 800000000) (B : Bf) (hB : bufOK B = true) (i j : Nat) (g1 : (rL p)[i]? = some (stB B.c)) (g2 : B.e = []) : ISpec Tryz.prog 74 [.ptr b 1 0 0, .agg [.sl i B.c.length 0 B.c.length B.c.length, .nilS]] (rL p) (fun r L' => ∃ (a : Ac) (p' : Int), actV a ∧ r = acA 2 a ∧ p ≤ p' ∧ p' ≤ p + 10 ∧ L' = rL p') := by
  refine ISpec.ret Tryz.func74 rfl (vc3_sound Tryz.pf hS hS _ _ _ ?_)
  have h8 := (bufOK_iff.1 hB).2.1
  have c1 : ∀ q Y, (rL q ++ Y)[i]? = some (stB B.c) := fun q Y => get_ext (get_rd hC g1 (by exact (by decide : (1 : Nat) ≠ 2)) q) Y
  have c2 := g2
  have hl := len_exs 1 B.e
  have q1 := gOpF_eq (bfB_of hB)
  rw [hB, if_pos rfl] at q1
  have hlt := fun x => @opF_lt B x
  have hw : IntKind.i64.wrap ((B.e.length : Int) + 1) = (B.e.length : Int) + 1 := wrap_in (by omega)
  repeat' (first | with_reducible first | refine kI (by kernel_rfl) ?_ | refine kN (by kernel_rfl) ?_ | simp -implicitDefEqProofs (disch := omega) only [go_sem, Nat.reduceAdd, Nat.reduceSub, reduceCtorEq, Nat.reduceLT, Nat.reduceLeDiff, Nat.reduceEqDiff, ↓reduceIte, List.take_of_length_le, if_pos, if_neg, getD_exs, cnE, cnV, Tryz.ntmps74, Tryz.results74,  hC.cn, c1, c2, hl, hw, h0, opQ_none])
  refine InlK_intro rfl rfl can_pick ((isp_pick hS (hC.app _) hb p (by omega) (0 + 1) (by omega)).mono ?_)
  rintro r L1 ⟨id0, rfl, l0, u0, rfl⟩
  have bid0 : -100 ≤ id0 ∧ id0 ≤ 100 := by omega
  have e0 : opF B = [] := by unfold opF; rw [g2]; rfl
  rw [e0, show B = ⟨B.c, []⟩ by rw [← g2]] at q1
  repeat' (first | with_reducible first | refine kI (by kernel_rfl) ?_ | refine kN (by kernel_rfl) ?_ | simp -implicitDefEqProofs (disch := omega) only [go_sem, Nat.reduceAdd, Nat.reduceSub, reduceCtorEq, Nat.reduceLT, Nat.reduceLeDiff, Nat.reduceEqDiff, ↓reduceIte, List.take_of_length_le, if_pos, if_neg, getD_exs, cnE, cnV, Tryz.ntmps74, Tryz.results74,  hC.cn, c1, c2, hl, ho, q1, hw, h1, opQ_none])
  refine InlK_intro rfl rfl can_one ((isp_one hS h0 (hC.app _) hb _ (by omega) 2 [1, 2, 3, 4, 5, 6, 7, 0, 6, 4] (by decide)).mono ?_)
  rintro r L1 ⟨k, rfl, hk, rfl⟩
  have bk : -100 ≤ k ∧ k ≤ 100 := by simp at hk; omega
  have kb : 0 ≤ k ∧ k ≤ 7 := by simp at hk; omega
  by_cases k0 : k = 0
  · subst k0
    repeat' (first | with_reducible first | refine kI (by kernel_rfl) ?_ | refine kN (by kernel_rfl) ?_ | simp -implicitDefEqProofs (disch := omega) only [go_sem, Nat.reduceAdd, Nat.reduceSub, reduceCtorEq, Nat.reduceLT, Nat.reduceLeDiff, Nat.reduceEqDiff, ↓reduceIte, if_pos, if_neg, Tryz.ntmps74, Tryz.results74,  hC.cn, c1, c2, hl, ho, q1, hw, h1, opQ_none])
    refine InlK_intro rfl rfl can_one ((isp_one hS h0 (hC.app _) hb _ (by omega) 2 [12, 20, 8, 30, 0] (by decide)).mono ?_)
    rintro r L1 ⟨z, rfl, hz, rfl⟩
    have bz : -100 ≤ z ∧ z ≤ 100 := by simp at hz; omega
    repeat' (first | with_reducible first | refine kI (by kernel_rfl) ?_ | refine kN (by kernel_rfl) ?_ | simp -implicitDefEqProofs (disch := omega) only [go_sem, Nat.reduceAdd, Nat.reduceSub, reduceCtorEq, Nat.reduceLT, Nat.reduceLeDiff, Nat.reduceEqDiff, ↓reduceIte, List.take_of_length_le, if_pos, if_neg, getD_exs, cnE, cnV, Tryz.ntmps74, Tryz.results74,  hC.cn])
    exact hC.ret0 ⟨⟨0, [z]⟩, _, ⟨⟨⟨show (0 : Int) ≤ 0 by decide, show (0 : Int) ≤ 7 by decide⟩, rfl⟩, by simp; omega⟩, rfl, by omega, by omega, rfl⟩
  by_cases k1 : k = 1
  · subst k1
    repeat' (first | with_reducible first | refine kI (by kernel_rfl) ?_ | refine kN (by kernel_rfl) ?_ | simp -implicitDefEqProofs (disch := omega) only [go_sem, Nat.reduceAdd, Nat.reduceSub, reduceCtorEq, Nat.reduceLT, Nat.reduceLeDiff, Nat.reduceEqDiff, ↓reduceIte, List.take_of_length_le, if_pos, if_neg, getD_exs, cnE, cnV, Tryz.ntmps74, Tryz.results74,  hC.cn, c1, c2, hl, ho, q1, hw, h0, opQ_none])
    refine InlK_intro rfl rfl can_pick ((isp_pick hS (hC.app _) hb _ (by omega) 6 (by omega)).mono ?_)
    rintro r L1 ⟨x, rfl, lx, ux, rfl⟩
    have bx : -100 ≤ x ∧ x ≤ 100 := by omega
    repeat' (first | with_reducible first | refine kI (by kernel_rfl) ?_ | refine kN (by kernel_rfl) ?_ | simp -implicitDefEqProofs (disch := omega) only [go_sem, Nat.reduceAdd, Nat.reduceSub, reduceCtorEq, Nat.reduceLT, Nat.reduceLeDiff, Nat.reduceEqDiff, ↓reduceIte, List.take_of_length_le, if_pos, if_neg, getD_exs, cnE, cnV, Tryz.ntmps74, Tryz.results74,  hC.cn, c1, c2, hl, ho, q1, hw, h1, opQ_none])
    refine InlK_intro rfl rfl can_one ((isp_one hS h0 (hC.app _) hb _ (by omega) 2 [4, 3, 5, 2, 0] (by decide)).mono ?_)
    rintro r L1 ⟨z, rfl, hz, rfl⟩
    have bz : -100 ≤ z ∧ z ≤ 100 := by simp at hz; omega
    repeat' (first | with_reducible first | refine kI (by kernel_rfl) ?_ | refine kN (by kernel_rfl) ?_ | simp -implicitDefEqProofs (disch := omega) only [go_sem, Nat.reduceAdd, Nat.reduceSub, reduceCtorEq, Nat.reduceLT, Nat.reduceLeDiff, Nat.reduceEqDiff, ↓reduceIte, if_pos, if_neg, Tryz.ntmps74, Tryz.results74,  hC.cn, c1, c2, hl, ho, q1, hw, h1, opQ_none])
    refine InlK_intro rfl rfl can_one ((isp_one hS h0 (hC.app _) hb _ (by omega) 2 [1, 2, 3, 0, -1] (by decide)).mono ?_)
    rintro r L1 ⟨w, rfl, hw, rfl⟩
    have bw : -100 ≤ w ∧ w ≤ 100 := by simp at hw; omega
    repeat' (first | with_reducible first | refine kI (by kernel_rfl) ?_ | refine kN (by kernel_rfl) ?_ | simp -implicitDefEqProofs (disch := omega) only [go_sem, Nat.reduceAdd, Nat.reduceSub, reduceCtorEq, Nat.reduceLT, Nat.reduceLeDiff, Nat.reduceEqDiff, ↓reduceIte, List.take_of_length_le, if_pos, if_neg, getD_exs, cnE, cnV, Tryz.ntmps74, Tryz.results74,  hC.cn])
    exact hC.ret0 ⟨⟨1, [x, z, w]⟩, _, ⟨⟨⟨show (0 : Int) ≤ 1 by decide, show (1 : Int) ≤ 7 by decide⟩, rfl⟩, by simp; omega⟩, rfl, by omega, by omega, rfl⟩
  by_cases k2 : k = 2
  · subst k2
    repeat' (first | with_reducible first | refine kI (by kernel_rfl) ?_ | refine kN (by kernel_rfl) ?_ | simp -implicitDefEqProofs (disch := omega) only [go_sem, Nat.reduceAdd, Nat.reduceSub, reduceCtorEq, Nat.reduceLT, Nat.reduceLeDiff, Nat.reduceEqDiff, ↓reduceIte, List.take_of_length_le, if_pos, if_neg, getD_exs, cnE, cnV, Tryz.ntmps74, Tryz.results74,  hC.cn, c1, c2, hl, ho, q1, hw, h0, opQ_none])
    refine InlK_intro rfl rfl can_pick ((isp_pick hS (hC.app _) hb _ (by omega) 4 (by omega)).mono ?_)
    rintro r L1 ⟨x, rfl, lx, ux, rfl⟩
    have bx : -100 ≤ x ∧ x ≤ 100 := by omega
    repeat' (first | with_reducible first | refine kI (by kernel_rfl) ?_ | refine kN (by kernel_rfl) ?_ | simp -implicitDefEqProofs (disch := omega) only [go_sem, Nat.reduceAdd, Nat.reduceSub, reduceCtorEq, Nat.reduceLT, Nat.reduceLeDiff, Nat.reduceEqDiff, ↓reduceIte, List.take_of_length_le, if_pos, if_neg, getD_exs, cnE, cnV, Tryz.ntmps74, Tryz.results74,  hC.cn, c1, c2, hl, ho, q1, hw, h1, opQ_none])
    refine InlK_intro rfl rfl can_one ((isp_one hS h0 (hC.app _) hb _ (by omega) 2 [3, 4, -1, 2] (by decide)).mono ?_)
    rintro r L1 ⟨z, rfl, hz, rfl⟩
    have bz : -100 ≤ z ∧ z ≤ 100 := by simp at hz; omega
    repeat' (first | with_reducible first | refine kI (by kernel_rfl) ?_ | refine kN (by kernel_rfl) ?_ | simp -implicitDefEqProofs (disch := omega) only [go_sem, Nat.reduceAdd, Nat.reduceSub, reduceCtorEq, Nat.reduceLT, Nat.reduceLeDiff, Nat.reduceEqDiff, ↓reduceIte, if_pos, if_neg, Tryz.ntmps74, Tryz.results74,  hC.cn, c1, c2, hl, ho, q1, hw, h1, opQ_none])
    refine InlK_intro rfl rfl can_one ((isp_one hS h0 (hC.app _) hb _ (by omega) 2 [1, 2, -1, 1] (by decide)).mono ?_)
    rintro r L1 ⟨w, rfl, hw, rfl⟩
    have bw : -100 ≤ w ∧ w ≤ 100 := by simp at hw; omega
    repeat' (first | with_reducible first | refine kI (by kernel_rfl) ?_ | refine kN (by kernel_rfl) ?_ | simp -implicitDefEqProofs (disch := omega) only [go_sem, Nat.reduceAdd, Nat.reduceSub, reduceCtorEq, Nat.reduceLT, Nat.reduceLeDiff, Nat.reduceEqDiff, ↓reduceIte, List.take_of_length_le, if_pos, if_neg, getD_exs, cnE, cnV, Tryz.ntmps74, Tryz.results74,  hC.cn])
    exact hC.ret0 ⟨⟨2, [id0, x, z, w]⟩, _, ⟨⟨⟨show (0 : Int) ≤ 2 by decide, show (2 : Int) ≤ 7 by decide⟩, rfl⟩, by simp; omega⟩, rfl, by omega, by omega, rfl⟩
  by_cases k4 : k = 4
  · subst k4
    repeat' (first | with_reducible first | refine kI (by kernel_rfl) ?_ | refine kN (by kernel_rfl) ?_ | simp -implicitDefEqProofs (disch := omega) only [go_sem, Nat.reduceAdd, Nat.reduceSub, reduceCtorEq, Nat.reduceLT, Nat.reduceLeDiff, Nat.reduceEqDiff, ↓reduceIte, List.take_of_length_le, if_pos, if_neg, getD_exs, cnE, cnV, Tryz.ntmps74, Tryz.results74,  hC.cn, c1, c2, hl, ho, q1, hw, h0, opQ_none])
    refine InlK_intro rfl rfl can_pick ((isp_pick hS (hC.app _) hb _ (by omega) 100 (by omega)).mono ?_)
    rintro r L1 ⟨x, rfl, lx, ux, rfl⟩
    have bx : -100 ≤ x ∧ x ≤ 100 := by omega
    repeat' (first | with_reducible first | refine kI (by kernel_rfl) ?_ | refine kN (by kernel_rfl) ?_ | simp -implicitDefEqProofs (disch := omega) only [go_sem, Nat.reduceAdd, Nat.reduceSub, reduceCtorEq, Nat.reduceLT, Nat.reduceLeDiff, Nat.reduceEqDiff, ↓reduceIte, List.take_of_length_le, if_pos, if_neg, getD_exs, cnE, cnV, Tryz.ntmps74, Tryz.results74,  hC.cn])
    exact hC.ret0 ⟨⟨4, [id0, x]⟩, _, ⟨⟨⟨show (0 : Int) ≤ 4 by decide, show (4 : Int) ≤ 7 by decide⟩, rfl⟩, by simp; omega⟩, rfl, by omega, by omega, rfl⟩
  by_cases k5 : k = 5
  · subst k5
    repeat' (first | with_reducible first | refine kI (by kernel_rfl) ?_ | refine kN (by kernel_rfl) ?_ | simp -implicitDefEqProofs (disch := omega) only [go_sem, Nat.reduceAdd, Nat.reduceSub, reduceCtorEq, Nat.reduceLT, Nat.reduceLeDiff, Nat.reduceEqDiff, ↓reduceIte, List.take_of_length_le, if_pos, if_neg, getD_exs, cnE, cnV, Tryz.ntmps74, Tryz.results74,  hC.cn, c1, c2, hl, ho, q1, hw, h0, opQ_none])
    refine InlK_intro rfl rfl can_pick ((isp_pick hS (hC.app _) hb _ (by omega) (0 + 1) (by omega)).mono ?_)
    rintro r L1 ⟨x, rfl, lx, ux, rfl⟩
    have bx : -100 ≤ x ∧ x ≤ 100 := by omega
    repeat' (first | with_reducible first | refine kI (by kernel_rfl) ?_ | refine kN (by kernel_rfl) ?_ | simp -implicitDefEqProofs (disch := omega) only [go_sem, Nat.reduceAdd, Nat.reduceSub, reduceCtorEq, Nat.reduceLT, Nat.reduceLeDiff, Nat.reduceEqDiff, ↓reduceIte, List.take_of_length_le, if_pos, if_neg, getD_exs, cnE, cnV, Tryz.ntmps74, Tryz.results74,  hC.cn])
    exact hC.ret0 ⟨⟨5, [id0, x]⟩, _, ⟨⟨⟨show (0 : Int) ≤ 5 by decide, show (5 : Int) ≤ 7 by decide⟩, rfl⟩, by simp; omega⟩, rfl, by omega, by omega, rfl⟩
  have f0 : (k == 0) = false := beq_f k0
  have f1 : (k == 1) = false := beq_f k1
  have f2 : (k == 2) = false := beq_f k2
  have f4 : (k == 4) = false := beq_f k4
  have f5 : (k == 5) = false := beq_f k5
  repeat' (first | with_reducible first | refine kI (by kernel_rfl) ?_ | refine kN (by kernel_rfl) ?_ | simp -implicitDefEqProofs (disch := omega) only [go_sem, Nat.reduceAdd, Nat.reduceSub, reduceCtorEq, Nat.reduceLT, Nat.reduceLeDiff, Nat.reduceEqDiff, ↓reduceIte, if_pos, if_neg, Tryz.ntmps74, Tryz.results74,  hC.cn, f0, f1, f2, f4, f5])
  exact hC.ret0 ⟨⟨k, [id0]⟩, _, ⟨⟨by dsimp only; omega, show 1 = nedF k by unfold nedF; rw [if_neg k1, if_neg k2, if_neg (by omega)]⟩, by simp; omega⟩, rfl, by omega, by omega, rfl⟩
set_option maxHeartbeats 4000000 in
set_option maxRecDepth 100000 in
theorem isp_someAct1 {Sg : FuncId → Option (List AV → Option AV)} (hS : Sound Tryz.prog Sg) (h0 : Sg 76 = none) (h1 : Sg 89 = none) (ho : Sg 122 = some (F1 gOpF)) {bs : List UInt8} {b n : Nat} {rL : Int → List Blk} (hC : RC bs b n rL) (hb : bs.length ≤ 2000) (p : Int) (hp : 0 ≤ p ∧ p ≤ 800000000) (B : Bf) (hB : bufOK B = true) (i j : Nat) (g1 : (rL p)[i]? = some (stB B.c)) (g2 : B.e ≠ [] ∧ (rL p)[j]? = some (exB 1 B.e)) : ISpec Tryz.prog 74 [.ptr b 1 0 0, .agg [.sl i B.c.length 0 B.c.length B.c.length, .sl j B.e.length 0 B.e.length B.e.length]] (rL p) (fun r L' => ∃ (a : Ac) (p' : Int), actV a ∧ r = acA 2 a ∧ p ≤ p' ∧ p' ≤ p + 10 ∧ L' = rL p') := by
  refine ISpec.ret Tryz.func74 rfl (vc3_sound Tryz.pf hS hS _ _ _ ?_)
  have h8 := (bufOK_iff.1 hB).2.1
  have c1 : ∀ q Y, (rL q ++ Y)[i]? = some (stB B.c) := fun q Y => get_ext (get_rd hC g1 (by exact (by decide : (1 : Nat) ≠ 2)) q) Y
  have c2 : ∀ q Y, (rL q ++ Y)[j]? = some (exB 1 B.e) := fun q Y => get_ext (get_rd hC g2.2 (by exact (by decide : (5 : Nat) ≠ 2)) q) Y
  have hl := len_exs 1 B.e
  have q1 := gOpF_eq (bfB_of hB)
  rw [hB, if_pos rfl] at q1
  have hlt := fun x => @opF_lt B x
  have hw : IntKind.i64.wrap ((B.e.length : Int) + 1) = (B.e.length : Int) + 1 := wrap_in (by omega)
  repeat' (first | with_reducible first | refine kI (by kernel_rfl) ?_ | refine kN (by kernel_rfl) ?_ | simp -implicitDefEqProofs (disch := omega) only [go_sem, Nat.reduceAdd, Nat.reduceSub, reduceCtorEq, Nat.reduceLT, Nat.reduceLeDiff, Nat.reduceEqDiff, ↓reduceIte, List.take_of_length_le, if_pos, if_neg, getD_exs, cnE, cnV, Tryz.ntmps74, Tryz.results74,  hC.cn, c1, c2, hl, hw, h0, opQ_none])
  refine InlK_intro rfl rfl can_pick ((isp_pick hS (hC.app _) hb p (by omega) ((B.e.length : Int) + 1) (by omega)).mono ?_)
  rintro r L1 ⟨id0, rfl, l0, u0, rfl⟩
  have bid0 : -100 ≤ id0 ∧ id0 ≤ 100 := by omega
  by_cases ho0 : opF B = []
  · rw [ho0] at q1
    repeat' (first | with_reducible first | refine kI (by kernel_rfl) ?_ | refine kN (by kernel_rfl) ?_ | simp -implicitDefEqProofs (disch := omega) only [go_sem, Nat.reduceAdd, Nat.reduceSub, reduceCtorEq, Nat.reduceLT, Nat.reduceLeDiff, Nat.reduceEqDiff, ↓reduceIte, List.take_of_length_le, if_pos, if_neg, getD_exs, cnE, cnV, Tryz.ntmps74, Tryz.results74,  hC.cn, c1, c2, hl, ho, q1, hw, h1, opQ_none])
    refine InlK_intro rfl rfl can_one ((isp_one hS h0 (hC.app _) hb _ (by omega) 2 [1, 2, 3, 4, 5, 6, 7, 0, 6, 4] (by decide)).mono ?_)
    rintro r L1 ⟨k, rfl, hk, rfl⟩
    have bk : -100 ≤ k ∧ k ≤ 100 := by simp at hk; omega
    have kb : 0 ≤ k ∧ k ≤ 7 := by simp at hk; omega
    by_cases k0 : k = 0
    · subst k0
      repeat' (first | with_reducible first | refine kI (by kernel_rfl) ?_ | refine kN (by kernel_rfl) ?_ | simp -implicitDefEqProofs (disch := omega) only [go_sem, Nat.reduceAdd, Nat.reduceSub, reduceCtorEq, Nat.reduceLT, Nat.reduceLeDiff, Nat.reduceEqDiff, ↓reduceIte, List.take_of_length_le, if_pos, if_neg, getD_exs, cnE, cnV, Tryz.ntmps74, Tryz.results74,  hC.cn, c1, c2, hl, ho, q1, hw, h1, opQ_none])
      refine InlK_intro rfl rfl can_one ((isp_one hS h0 (hC.app _) hb _ (by omega) 2 [12, 20, 8, 30, 0] (by decide)).mono ?_)
      rintro r L1 ⟨z, rfl, hz, rfl⟩
      have bz : -100 ≤ z ∧ z ≤ 100 := by simp at hz; omega
      repeat' (first | with_reducible first | refine kI (by kernel_rfl) ?_ | refine kN (by kernel_rfl) ?_ | simp -implicitDefEqProofs (disch := omega) only [go_sem, Nat.reduceAdd, Nat.reduceSub, reduceCtorEq, Nat.reduceLT, Nat.reduceLeDiff, Nat.reduceEqDiff, ↓reduceIte, List.take_of_length_le, if_pos, if_neg, getD_exs, cnE, cnV, Tryz.ntmps74, Tryz.results74,  hC.cn])
      exact hC.ret0 ⟨⟨0, [z]⟩, _, ⟨⟨⟨show (0 : Int) ≤ 0 by decide, show (0 : Int) ≤ 7 by decide⟩, rfl⟩, by simp; omega⟩, rfl, by omega, by omega, rfl⟩
    by_cases k1 : k = 1
    · subst k1
      repeat' (first | with_reducible first | refine kI (by kernel_rfl) ?_ | refine kN (by kernel_rfl) ?_ | simp -implicitDefEqProofs (disch := omega) only [go_sem, Nat.reduceAdd, Nat.reduceSub, reduceCtorEq, Nat.reduceLT, Nat.reduceLeDiff, Nat.reduceEqDiff, ↓reduceIte, List.take_of_length_le, if_pos, if_neg, getD_exs, cnE, cnV, Tryz.ntmps74, Tryz.results74,  hC.cn, c1, c2, hl, ho, q1, hw, h0, opQ_none])
      refine InlK_intro rfl rfl can_pick ((isp_pick hS (hC.app _) hb _ (by omega) 6 (by omega)).mono ?_)
      rintro r L1 ⟨x, rfl, lx, ux, rfl⟩
      have bx : -100 ≤ x ∧ x ≤ 100 := by omega
      repeat' (first | with_reducible first | refine kI (by kernel_rfl) ?_ | refine kN (by kernel_rfl) ?_ | simp -implicitDefEqProofs (disch := omega) only [go_sem, Nat.reduceAdd, Nat.reduceSub, reduceCtorEq, Nat.reduceLT, Nat.reduceLeDiff, Nat.reduceEqDiff, ↓reduceIte, List.take_of_length_le, if_pos, if_neg, getD_exs, cnE, cnV, Tryz.ntmps74, Tryz.results74,  hC.cn, c1, c2, hl, ho, q1, hw, h1, opQ_none])
      refine InlK_intro rfl rfl can_one ((isp_one hS h0 (hC.app _) hb _ (by omega) 2 [4, 3, 5, 2, 0] (by decide)).mono ?_)
      rintro r L1 ⟨z, rfl, hz, rfl⟩
      have bz : -100 ≤ z ∧ z ≤ 100 := by simp at hz; omega
      repeat' (first | with_reducible first | refine kI (by kernel_rfl) ?_ | refine kN (by kernel_rfl) ?_ | simp -implicitDefEqProofs (disch := omega) only [go_sem, Nat.reduceAdd, Nat.reduceSub, reduceCtorEq, Nat.reduceLT, Nat.reduceLeDiff, Nat.reduceEqDiff, ↓reduceIte, if_pos, if_neg, Tryz.ntmps74, Tryz.results74,  hC.cn, c1, c2, hl, ho, q1, hw, h1, opQ_none])
      refine InlK_intro rfl rfl can_one ((isp_one hS h0 (hC.app _) hb _ (by omega) 2 [1, 2, 3, 0, -1] (by decide)).mono ?_)
      rintro r L1 ⟨w, rfl, hw, rfl⟩
      have bw : -100 ≤ w ∧ w ≤ 100 := by simp at hw; omega
      repeat' (first | with_reducible first | refine kI (by kernel_rfl) ?_ | refine kN (by kernel_rfl) ?_ | simp -implicitDefEqProofs (disch := omega) only [go_sem, Nat.reduceAdd, Nat.reduceSub, reduceCtorEq, Nat.reduceLT, Nat.reduceLeDiff, Nat.reduceEqDiff, ↓reduceIte, List.take_of_length_le, if_pos, if_neg, getD_exs, cnE, cnV, Tryz.ntmps74, Tryz.results74,  hC.cn])
      exact hC.ret0 ⟨⟨1, [x, z, w]⟩, _, ⟨⟨⟨show (0 : Int) ≤ 1 by decide, show (1 : Int) ≤ 7 by decide⟩, rfl⟩, by simp; omega⟩, rfl, by omega, by omega, rfl⟩
    by_cases k2 : k = 2
    · subst k2
      repeat' (first | with_reducible first | refine kI (by kernel_rfl) ?_ | refine kN (by kernel_rfl) ?_ | simp -implicitDefEqProofs (disch := omega) only [go_sem, Nat.reduceAdd, Nat.reduceSub, reduceCtorEq, Nat.reduceLT, Nat.reduceLeDiff, Nat.reduceEqDiff, ↓reduceIte, List.take_of_length_le, if_pos, if_neg, getD_exs, cnE, cnV, Tryz.ntmps74, Tryz.results74,  hC.cn, c1, c2, hl, ho, q1, hw, h0, opQ_none])
      refine InlK_intro rfl rfl can_pick ((isp_pick hS (hC.app _) hb _ (by omega) 4 (by omega)).mono ?_)
      rintro r L1 ⟨x, rfl, lx, ux, rfl⟩
      have bx : -100 ≤ x ∧ x ≤ 100 := by omega
      repeat' (first | with_reducible first | refine kI (by kernel_rfl) ?_ | refine kN (by kernel_rfl) ?_ | simp -implicitDefEqProofs (disch := omega) only [go_sem, Nat.reduceAdd, Nat.reduceSub, reduceCtorEq, Nat.reduceLT, Nat.reduceLeDiff, Nat.reduceEqDiff, ↓reduceIte, List.take_of_length_le, if_pos, if_neg, getD_exs, cnE, cnV, Tryz.ntmps74, Tryz.results74,  hC.cn, c1, c2, hl, ho, q1, hw, h1, opQ_none])
      refine InlK_intro rfl rfl can_one ((isp_one hS h0 (hC.app _) hb _ (by omega) 2 [3, 4, -1, 2] (by decide)).mono ?_)
      rintro r L1 ⟨z, rfl, hz, rfl⟩
      have bz : -100 ≤ z ∧ z ≤ 100 := by simp at hz; omega
      repeat' (first | with_reducible first | refine kI (by kernel_rfl) ?_ | refine kN (by kernel_rfl) ?_ | simp -implicitDefEqProofs (disch := omega) only [go_sem, Nat.reduceAdd, Nat.reduceSub, reduceCtorEq, Nat.reduceLT, Nat.reduceLeDiff, Nat.reduceEqDiff, ↓reduceIte, if_pos, if_neg, Tryz.ntmps74, Tryz.results74,  hC.cn, c1, c2, hl, ho, q1, hw, h1, opQ_none])
      refine InlK_intro rfl rfl can_one ((isp_one hS h0 (hC.app _) hb _ (by omega) 2 [1, 2, -1, 1] (by decide)).mono ?_)
      rintro r L1 ⟨w, rfl, hw, rfl⟩
      have bw : -100 ≤ w ∧ w ≤ 100 := by simp at hw; omega
      repeat' (first | with_reducible first | refine kI (by kernel_rfl) ?_ | refine kN (by kernel_rfl) ?_ | simp -implicitDefEqProofs (disch := omega) only [go_sem, Nat.reduceAdd, Nat.reduceSub, reduceCtorEq, Nat.reduceLT, Nat.reduceLeDiff, Nat.reduceEqDiff, ↓reduceIte, List.take_of_length_le, if_pos, if_neg, getD_exs, cnE, cnV, Tryz.ntmps74, Tryz.results74,  hC.cn])
      exact hC.ret0 ⟨⟨2, [id0, x, z, w]⟩, _, ⟨⟨⟨show (0 : Int) ≤ 2 by decide, show (2 : Int) ≤ 7 by decide⟩, rfl⟩, by simp; omega⟩, rfl, by omega, by omega, rfl⟩
    by_cases k4 : k = 4
    · subst k4
      repeat' (first | with_reducible first | refine kI (by kernel_rfl) ?_ | refine kN (by kernel_rfl) ?_ | simp -implicitDefEqProofs (disch := omega) only [go_sem, Nat.reduceAdd, Nat.reduceSub, reduceCtorEq, Nat.reduceLT, Nat.reduceLeDiff, Nat.reduceEqDiff, ↓reduceIte, List.take_of_length_le, if_pos, if_neg, getD_exs, cnE, cnV, Tryz.ntmps74, Tryz.results74,  hC.cn, c1, c2, hl, ho, q1, hw, h0, opQ_none])
      refine InlK_intro rfl rfl can_pick ((isp_pick hS (hC.app _) hb _ (by omega) 100 (by omega)).mono ?_)
      rintro r L1 ⟨x, rfl, lx, ux, rfl⟩
      have bx : -100 ≤ x ∧ x ≤ 100 := by omega
      repeat' (first | with_reducible first | refine kI (by kernel_rfl) ?_ | refine kN (by kernel_rfl) ?_ | simp -implicitDefEqProofs (disch := omega) only [go_sem, Nat.reduceAdd, Nat.reduceSub, reduceCtorEq, Nat.reduceLT, Nat.reduceLeDiff, Nat.reduceEqDiff, ↓reduceIte, List.take_of_length_le, if_pos, if_neg, getD_exs, cnE, cnV, Tryz.ntmps74, Tryz.results74,  hC.cn])
      exact hC.ret0 ⟨⟨4, [id0, x]⟩, _, ⟨⟨⟨show (0 : Int) ≤ 4 by decide, show (4 : Int) ≤ 7 by decide⟩, rfl⟩, by simp; omega⟩, rfl, by omega, by omega, rfl⟩
    by_cases k5 : k = 5
    · subst k5
      repeat' (first | with_reducible first | refine kI (by kernel_rfl) ?_ | refine kN (by kernel_rfl) ?_ | simp -implicitDefEqProofs (disch := omega) only [go_sem, Nat.reduceAdd, Nat.reduceSub, reduceCtorEq, Nat.reduceLT, Nat.reduceLeDiff, Nat.reduceEqDiff, ↓reduceIte, List.take_of_length_le, if_pos, if_neg, getD_exs, cnE, cnV, Tryz.ntmps74, Tryz.results74,  hC.cn, c1, c2, hl, ho, q1, hw, h0, opQ_none])
      refine InlK_intro rfl rfl can_pick ((isp_pick hS (hC.app _) hb _ (by omega) ((B.e.length : Int) + 1) (by omega)).mono ?_)
      rintro r L1 ⟨x, rfl, lx, ux, rfl⟩
      have bx : -100 ≤ x ∧ x ≤ 100 := by omega
      repeat' (first | with_reducible first | refine kI (by kernel_rfl) ?_ | refine kN (by kernel_rfl) ?_ | simp -implicitDefEqProofs (disch := omega) only [go_sem, Nat.reduceAdd, Nat.reduceSub, reduceCtorEq, Nat.reduceLT, Nat.reduceLeDiff, Nat.reduceEqDiff, ↓reduceIte, List.take_of_length_le, if_pos, if_neg, getD_exs, cnE, cnV, Tryz.ntmps74, Tryz.results74,  hC.cn])
      exact hC.ret0 ⟨⟨5, [id0, x]⟩, _, ⟨⟨⟨show (0 : Int) ≤ 5 by decide, show (5 : Int) ≤ 7 by decide⟩, rfl⟩, by simp; omega⟩, rfl, by omega, by omega, rfl⟩
    have f0 : (k == 0) = false := beq_f k0
    have f1 : (k == 1) = false := beq_f k1
    have f2 : (k == 2) = false := beq_f k2
    have f4 : (k == 4) = false := beq_f k4
    have f5 : (k == 5) = false := beq_f k5
    repeat' (first | with_reducible first | refine kI (by kernel_rfl) ?_ | refine kN (by kernel_rfl) ?_ | simp -implicitDefEqProofs (disch := omega) only [go_sem, Nat.reduceAdd, Nat.reduceSub, reduceCtorEq, Nat.reduceLT, Nat.reduceLeDiff, Nat.reduceEqDiff, ↓reduceIte, if_pos, if_neg, Tryz.ntmps74, Tryz.results74,  hC.cn, f0, f1, f2, f4, f5])
    exact hC.ret0 ⟨⟨k, [id0]⟩, _, ⟨⟨by dsimp only; omega, show 1 = nedF k by unfold nedF; rw [if_neg k1, if_neg k2, if_neg (by omega)]⟩, by simp; omega⟩, rfl, by omega, by omega, rfl⟩
  · have hpos : (0 : Int) < ((opF B).length : Int) := by
      have := List.length_pos_iff.2 ho0
      omega
    have hol : (opF B).length ≤ B.e.length := filt_len _ _
    generalize opF B = O at *
    repeat' (first | with_reducible first | refine kI (by kernel_rfl) ?_ | refine kN (by kernel_rfl) ?_ | simp -implicitDefEqProofs (disch := omega) only [go_sem, Nat.reduceAdd, Nat.reduceSub, reduceCtorEq, Nat.reduceLT, Nat.reduceLeDiff, Nat.reduceEqDiff, ↓reduceIte, if_pos, if_neg, Tryz.ntmps74, Tryz.results74,  hC.cn, c1, c2, hl, hw, ho, q1, hpos, h0, opQ_none])
    refine InlK_intro rfl rfl can_pick ((isp_pick hS (hC.app _) hb _ (by omega) 4 (by omega)).mono ?_)
    rintro r L1 ⟨yy, rfl, lyy, uyy, rfl⟩
    have byy : -100 ≤ yy ∧ yy ≤ 100 := by omega
    by_cases hy : 0 < yy
    · repeat' (first | with_reducible first | refine kI (by kernel_rfl) ?_ | refine kN (by kernel_rfl) ?_ | simp -implicitDefEqProofs (disch := omega) only [go_sem, Nat.reduceAdd, Nat.reduceSub, reduceCtorEq, Nat.reduceLT, Nat.reduceLeDiff, Nat.reduceEqDiff, ↓reduceIte, if_pos, if_neg, Tryz.ntmps74, Tryz.results74,  hC.cn, c1, c2, hl, hw, hpos, hy, h0, opQ_none])
      refine InlK_intro rfl rfl can_pick ((isp_pick hS (hC.app _) hb _ (by omega) (O.length : Int) (by omega)).mono ?_)
      rintro r L1 ⟨ix, rfl, lix, uix, rfl⟩
      obtain ⟨ix, rfl⟩ : ∃ m : Nat, ix = m := ⟨ix.toNat, by omega⟩
      have hix : ix < O.length := by omega
      have hgo := getD_ints hix
      have bid := hlt _ (gmem hix)
      generalize O.getD ix 0 = id1 at *
      repeat' (first | with_reducible first | refine kI (by kernel_rfl) ?_ | refine kN (by kernel_rfl) ?_ | simp -implicitDefEqProofs (disch := omega) only [go_sem, Nat.reduceAdd, Nat.reduceSub, reduceCtorEq, Nat.reduceLT, Nat.reduceLeDiff, Nat.reduceEqDiff, ↓reduceIte, if_pos, if_neg, Tryz.ntmps74, Tryz.results74,  hC.cn, c1, c2, hl, hgo, hw, h1, opQ_none])
      refine InlK_intro rfl rfl can_one ((isp_one hS h0 (hC.app _) hb _ (by omega) 2 [1, 2, 3, 4, 5, 6, 7, 0, 6, 4] (by decide)).mono ?_)
      rintro r L1 ⟨k, rfl, hk, rfl⟩
      have bk : -100 ≤ k ∧ k ≤ 100 := by simp at hk; omega
      have kb : 0 ≤ k ∧ k ≤ 7 := by simp at hk; omega
      by_cases k0 : k = 0
      · subst k0
        repeat' (first | with_reducible first | refine kI (by kernel_rfl) ?_ | refine kN (by kernel_rfl) ?_ | simp -implicitDefEqProofs (disch := omega) only [go_sem, Nat.reduceAdd, Nat.reduceSub, reduceCtorEq, Nat.reduceLT, Nat.reduceLeDiff, Nat.reduceEqDiff, ↓reduceIte, if_pos, if_neg, Tryz.ntmps74, Tryz.results74,  hC.cn, c1, c2, hl, hw, h1, opQ_none])
        refine InlK_intro rfl rfl can_one ((isp_one hS h0 (hC.app _) hb _ (by omega) 2 [12, 20, 8, 30, 0] (by decide)).mono ?_)
        rintro r L1 ⟨z, rfl, hz, rfl⟩
        have bz : -100 ≤ z ∧ z ≤ 100 := by simp at hz; omega
        repeat' (first | with_reducible first | refine kI (by kernel_rfl) ?_ | refine kN (by kernel_rfl) ?_ | simp -implicitDefEqProofs (disch := omega) only [go_sem, Nat.reduceAdd, Nat.reduceSub, reduceCtorEq, Nat.reduceLT, Nat.reduceLeDiff, Nat.reduceEqDiff, ↓reduceIte, List.take_of_length_le, if_pos, if_neg, getD_exs, cnE, cnV, Tryz.ntmps74, Tryz.results74,  hC.cn])
        exact hC.ret0 ⟨⟨0, [z]⟩, _, ⟨⟨⟨show (0 : Int) ≤ 0 by decide, show (0 : Int) ≤ 7 by decide⟩, rfl⟩, by simp; omega⟩, rfl, by omega, by omega, rfl⟩
      by_cases k1 : k = 1
      · subst k1
        repeat' (first | with_reducible first | refine kI (by kernel_rfl) ?_ | refine kN (by kernel_rfl) ?_ | simp -implicitDefEqProofs (disch := omega) only [go_sem, Nat.reduceAdd, Nat.reduceSub, reduceCtorEq, Nat.reduceLT, Nat.reduceLeDiff, Nat.reduceEqDiff, ↓reduceIte, List.take_of_length_le, if_pos, if_neg, getD_exs, cnE, cnV, Tryz.ntmps74, Tryz.results74,  hC.cn, c1, c2, hl, hw, h0, opQ_none])
        refine InlK_intro rfl rfl can_pick ((isp_pick hS (hC.app _) hb _ (by omega) 6 (by omega)).mono ?_)
        rintro r L1 ⟨x, rfl, lx, ux, rfl⟩
        have bx : -100 ≤ x ∧ x ≤ 100 := by omega
        repeat' (first | with_reducible first | refine kI (by kernel_rfl) ?_ | refine kN (by kernel_rfl) ?_ | simp -implicitDefEqProofs (disch := omega) only [go_sem, Nat.reduceAdd, Nat.reduceSub, reduceCtorEq, Nat.reduceLT, Nat.reduceLeDiff, Nat.reduceEqDiff, ↓reduceIte, List.take_of_length_le, if_pos, if_neg, getD_exs, cnE, cnV, Tryz.ntmps74, Tryz.results74,  hC.cn, c1, c2, hl, hw, h1, opQ_none])
        refine InlK_intro rfl rfl can_one ((isp_one hS h0 (hC.app _) hb _ (by omega) 2 [4, 3, 5, 2, 0] (by decide)).mono ?_)
        rintro r L1 ⟨z, rfl, hz, rfl⟩
        have bz : -100 ≤ z ∧ z ≤ 100 := by simp at hz; omega
        repeat' (first | with_reducible first | refine kI (by kernel_rfl) ?_ | refine kN (by kernel_rfl) ?_ | simp -implicitDefEqProofs (disch := omega) only [go_sem, Nat.reduceAdd, Nat.reduceSub, reduceCtorEq, Nat.reduceLT, Nat.reduceLeDiff, Nat.reduceEqDiff, ↓reduceIte, if_pos, if_neg, Tryz.ntmps74, Tryz.results74,  hC.cn, c1, c2, hl, hw, h1, opQ_none])
        refine InlK_intro rfl rfl can_one ((isp_one hS h0 (hC.app _) hb _ (by omega) 2 [1, 2, 3, 0, -1] (by decide)).mono ?_)
        rintro r L1 ⟨w, rfl, hw, rfl⟩
        have bw : -100 ≤ w ∧ w ≤ 100 := by simp at hw; omega
        repeat' (first | with_reducible first | refine kI (by kernel_rfl) ?_ | refine kN (by kernel_rfl) ?_ | simp -implicitDefEqProofs (disch := omega) only [go_sem, Nat.reduceAdd, Nat.reduceSub, reduceCtorEq, Nat.reduceLT, Nat.reduceLeDiff, Nat.reduceEqDiff, ↓reduceIte, List.take_of_length_le, if_pos, if_neg, getD_exs, cnE, cnV, Tryz.ntmps74, Tryz.results74,  hC.cn])
        exact hC.ret0 ⟨⟨1, [x, z, w]⟩, _, ⟨⟨⟨show (0 : Int) ≤ 1 by decide, show (1 : Int) ≤ 7 by decide⟩, rfl⟩, by simp; omega⟩, rfl, by omega, by omega, rfl⟩
      by_cases k2 : k = 2
      · subst k2
        repeat' (first | with_reducible first | refine kI (by kernel_rfl) ?_ | refine kN (by kernel_rfl) ?_ | simp -implicitDefEqProofs (disch := omega) only [go_sem, Nat.reduceAdd, Nat.reduceSub, reduceCtorEq, Nat.reduceLT, Nat.reduceLeDiff, Nat.reduceEqDiff, ↓reduceIte, List.take_of_length_le, if_pos, if_neg, getD_exs, cnE, cnV, Tryz.ntmps74, Tryz.results74,  hC.cn, c1, c2, hl, hw, h0, opQ_none])
        refine InlK_intro rfl rfl can_pick ((isp_pick hS (hC.app _) hb _ (by omega) 4 (by omega)).mono ?_)
        rintro r L1 ⟨x, rfl, lx, ux, rfl⟩
        have bx : -100 ≤ x ∧ x ≤ 100 := by omega
        repeat' (first | with_reducible first | refine kI (by kernel_rfl) ?_ | refine kN (by kernel_rfl) ?_ | simp -implicitDefEqProofs (disch := omega) only [go_sem, Nat.reduceAdd, Nat.reduceSub, reduceCtorEq, Nat.reduceLT, Nat.reduceLeDiff, Nat.reduceEqDiff, ↓reduceIte, List.take_of_length_le, if_pos, if_neg, getD_exs, cnE, cnV, Tryz.ntmps74, Tryz.results74,  hC.cn, c1, c2, hl, hw, h1, opQ_none])
        refine InlK_intro rfl rfl can_one ((isp_one hS h0 (hC.app _) hb _ (by omega) 2 [3, 4, -1, 2] (by decide)).mono ?_)
        rintro r L1 ⟨z, rfl, hz, rfl⟩
        have bz : -100 ≤ z ∧ z ≤ 100 := by simp at hz; omega
        repeat' (first | with_reducible first | refine kI (by kernel_rfl) ?_ | refine kN (by kernel_rfl) ?_ | simp -implicitDefEqProofs (disch := omega) only [go_sem, Nat.reduceAdd, Nat.reduceSub, reduceCtorEq, Nat.reduceLT, Nat.reduceLeDiff, Nat.reduceEqDiff, ↓reduceIte, if_pos, if_neg, Tryz.ntmps74, Tryz.results74,  hC.cn, c1, c2, hl, hw, h1, opQ_none])
        refine InlK_intro rfl rfl can_one ((isp_one hS h0 (hC.app _) hb _ (by omega) 2 [1, 2, -1, 1] (by decide)).mono ?_)
        rintro r L1 ⟨w, rfl, hw, rfl⟩
        have bw : -100 ≤ w ∧ w ≤ 100 := by simp at hw; omega
        repeat' (first | with_reducible first | refine kI (by kernel_rfl) ?_ | refine kN (by kernel_rfl) ?_ | simp -implicitDefEqProofs (disch := omega) only [go_sem, Nat.reduceAdd, Nat.reduceSub, reduceCtorEq, Nat.reduceLT, Nat.reduceLeDiff, Nat.reduceEqDiff, ↓reduceIte, List.take_of_length_le, if_pos, if_neg, getD_exs, cnE, cnV, Tryz.ntmps74, Tryz.results74,  hC.cn])
        exact hC.ret0 ⟨⟨2, [id1, x, z, w]⟩, _, ⟨⟨⟨show (0 : Int) ≤ 2 by decide, show (2 : Int) ≤ 7 by decide⟩, rfl⟩, by simp; omega⟩, rfl, by omega, by omega, rfl⟩
      by_cases k4 : k = 4
      · subst k4
        repeat' (first | with_reducible first | refine kI (by kernel_rfl) ?_ | refine kN (by kernel_rfl) ?_ | simp -implicitDefEqProofs (disch := omega) only [go_sem, Nat.reduceAdd, Nat.reduceSub, reduceCtorEq, Nat.reduceLT, Nat.reduceLeDiff, Nat.reduceEqDiff, ↓reduceIte, List.take_of_length_le, if_pos, if_neg, getD_exs, cnE, cnV, Tryz.ntmps74, Tryz.results74,  hC.cn, c1, c2, hl, hw, h0, opQ_none])
        refine InlK_intro rfl rfl can_pick ((isp_pick hS (hC.app _) hb _ (by omega) 100 (by omega)).mono ?_)
        rintro r L1 ⟨x, rfl, lx, ux, rfl⟩
        have bx : -100 ≤ x ∧ x ≤ 100 := by omega
        repeat' (first | with_reducible first | refine kI (by kernel_rfl) ?_ | refine kN (by kernel_rfl) ?_ | simp -implicitDefEqProofs (disch := omega) only [go_sem, Nat.reduceAdd, Nat.reduceSub, reduceCtorEq, Nat.reduceLT, Nat.reduceLeDiff, Nat.reduceEqDiff, ↓reduceIte, List.take_of_length_le, if_pos, if_neg, getD_exs, cnE, cnV, Tryz.ntmps74, Tryz.results74,  hC.cn])
        exact hC.ret0 ⟨⟨4, [id1, x]⟩, _, ⟨⟨⟨show (0 : Int) ≤ 4 by decide, show (4 : Int) ≤ 7 by decide⟩, rfl⟩, by simp; omega⟩, rfl, by omega, by omega, rfl⟩
      by_cases k5 : k = 5
      · subst k5
        repeat' (first | with_reducible first | refine kI (by kernel_rfl) ?_ | refine kN (by kernel_rfl) ?_ | simp -implicitDefEqProofs (disch := omega) only [go_sem, Nat.reduceAdd, Nat.reduceSub, reduceCtorEq, Nat.reduceLT, Nat.reduceLeDiff, Nat.reduceEqDiff, ↓reduceIte, List.take_of_length_le, if_pos, if_neg, getD_exs, cnE, cnV, Tryz.ntmps74, Tryz.results74,  hC.cn, c1, c2, hl, hw, h0, opQ_none])
        refine InlK_intro rfl rfl can_pick ((isp_pick hS (hC.app _) hb _ (by omega) ((B.e.length : Int) + 1) (by omega)).mono ?_)
        rintro r L1 ⟨x, rfl, lx, ux, rfl⟩
        have bx : -100 ≤ x ∧ x ≤ 100 := by omega
        repeat' (first | with_reducible first | refine kI (by kernel_rfl) ?_ | refine kN (by kernel_rfl) ?_ | simp -implicitDefEqProofs (disch := omega) only [go_sem, Nat.reduceAdd, Nat.reduceSub, reduceCtorEq, Nat.reduceLT, Nat.reduceLeDiff, Nat.reduceEqDiff, ↓reduceIte, List.take_of_length_le, if_pos, if_neg, getD_exs, cnE, cnV, Tryz.ntmps74, Tryz.results74,  hC.cn])
        exact hC.ret0 ⟨⟨5, [id1, x]⟩, _, ⟨⟨⟨show (0 : Int) ≤ 5 by decide, show (5 : Int) ≤ 7 by decide⟩, rfl⟩, by simp; omega⟩, rfl, by omega, by omega, rfl⟩
      have f0 : (k == 0) = false := beq_f k0
      have f1 : (k == 1) = false := beq_f k1
      have f2 : (k == 2) = false := beq_f k2
      have f4 : (k == 4) = false := beq_f k4
      have f5 : (k == 5) = false := beq_f k5
      repeat' (first | with_reducible first | refine kI (by kernel_rfl) ?_ | refine kN (by kernel_rfl) ?_ | simp -implicitDefEqProofs (disch := omega) only [go_sem, Nat.reduceAdd, Nat.reduceSub, reduceCtorEq, Nat.reduceLT, Nat.reduceLeDiff, Nat.reduceEqDiff, ↓reduceIte, if_pos, if_neg, Tryz.ntmps74, Tryz.results74,  hC.cn, f0, f1, f2, f4, f5])
      exact hC.ret0 ⟨⟨k, [id1]⟩, _, ⟨⟨by dsimp only; omega, show 1 = nedF k by unfold nedF; rw [if_neg k1, if_neg k2, if_neg (by omega)]⟩, by simp; omega⟩, rfl, by omega, by omega, rfl⟩
    · repeat' (first | with_reducible first | refine kI (by kernel_rfl) ?_ | refine kN (by kernel_rfl) ?_ | simp -implicitDefEqProofs (disch := omega) only [go_sem, Nat.reduceAdd, Nat.reduceSub, reduceCtorEq, Nat.reduceLT, Nat.reduceLeDiff, Nat.reduceEqDiff, ↓reduceIte, if_pos, if_neg, Tryz.ntmps74, Tryz.results74,  hC.cn, c1, c2, hl, hpos, hy, hw, h1, opQ_none])
      refine InlK_intro rfl rfl can_one ((isp_one hS h0 (hC.app _) hb _ (by omega) 2 [1, 2, 3, 4, 5, 6, 7, 0, 6, 4] (by decide)).mono ?_)
      rintro r L1 ⟨k, rfl, hk, rfl⟩
      have bk : -100 ≤ k ∧ k ≤ 100 := by simp at hk; omega
      have kb : 0 ≤ k ∧ k ≤ 7 := by simp at hk; omega
      by_cases k0 : k = 0
      · subst k0
        repeat' (first | with_reducible first | refine kI (by kernel_rfl) ?_ | refine kN (by kernel_rfl) ?_ | simp -implicitDefEqProofs (disch := omega) only [go_sem, Nat.reduceAdd, Nat.reduceSub, reduceCtorEq, Nat.reduceLT, Nat.reduceLeDiff, Nat.reduceEqDiff, ↓reduceIte, if_pos, if_neg, Tryz.ntmps74, Tryz.results74,  hC.cn, c1, c2, hl, hw, h1, opQ_none])
        refine InlK_intro rfl rfl can_one ((isp_one hS h0 (hC.app _) hb _ (by omega) 2 [12, 20, 8, 30, 0] (by decide)).mono ?_)
        rintro r L1 ⟨z, rfl, hz, rfl⟩
        have bz : -100 ≤ z ∧ z ≤ 100 := by simp at hz; omega
        repeat' (first | with_reducible first | refine kI (by kernel_rfl) ?_ | refine kN (by kernel_rfl) ?_ | simp -implicitDefEqProofs (disch := omega) only [go_sem, Nat.reduceAdd, Nat.reduceSub, reduceCtorEq, Nat.reduceLT, Nat.reduceLeDiff, Nat.reduceEqDiff, ↓reduceIte, List.take_of_length_le, if_pos, if_neg, getD_exs, cnE, cnV, Tryz.ntmps74, Tryz.results74,  hC.cn])
        exact hC.ret0 ⟨⟨0, [z]⟩, _, ⟨⟨⟨show (0 : Int) ≤ 0 by decide, show (0 : Int) ≤ 7 by decide⟩, rfl⟩, by simp; omega⟩, rfl, by omega, by omega, rfl⟩
      by_cases k1 : k = 1
      · subst k1
        repeat' (first | with_reducible first | refine kI (by kernel_rfl) ?_ | refine kN (by kernel_rfl) ?_ | simp -implicitDefEqProofs (disch := omega) only [go_sem, Nat.reduceAdd, Nat.reduceSub, reduceCtorEq, Nat.reduceLT, Nat.reduceLeDiff, Nat.reduceEqDiff, ↓reduceIte, List.take_of_length_le, if_pos, if_neg, getD_exs, cnE, cnV, Tryz.ntmps74, Tryz.results74,  hC.cn, c1, c2, hl, hw, h0, opQ_none])
        refine InlK_intro rfl rfl can_pick ((isp_pick hS (hC.app _) hb _ (by omega) 6 (by omega)).mono ?_)
        rintro r L1 ⟨x, rfl, lx, ux, rfl⟩
        have bx : -100 ≤ x ∧ x ≤ 100 := by omega
        repeat' (first | with_reducible first | refine kI (by kernel_rfl) ?_ | refine kN (by kernel_rfl) ?_ | simp -implicitDefEqProofs (disch := omega) only [go_sem, Nat.reduceAdd, Nat.reduceSub, reduceCtorEq, Nat.reduceLT, Nat.reduceLeDiff, Nat.reduceEqDiff, ↓reduceIte, List.take_of_length_le, if_pos, if_neg, getD_exs, cnE, cnV, Tryz.ntmps74, Tryz.results74,  hC.cn, c1, c2, hl, hw, h1, opQ_none])
        refine InlK_intro rfl rfl can_one ((isp_one hS h0 (hC.app _) hb _ (by omega) 2 [4, 3, 5, 2, 0] (by decide)).mono ?_)
        rintro r L1 ⟨z, rfl, hz, rfl⟩
        have bz : -100 ≤ z ∧ z ≤ 100 := by simp at hz; omega
        repeat' (first | with_reducible first | refine kI (by kernel_rfl) ?_ | refine kN (by kernel_rfl) ?_ | simp -implicitDefEqProofs (disch := omega) only [go_sem, Nat.reduceAdd, Nat.reduceSub, reduceCtorEq, Nat.reduceLT, Nat.reduceLeDiff, Nat.reduceEqDiff, ↓reduceIte, if_pos, if_neg, Tryz.ntmps74, Tryz.results74,  hC.cn, c1, c2, hl, hw, h1, opQ_none])
        refine InlK_intro rfl rfl can_one ((isp_one hS h0 (hC.app _) hb _ (by omega) 2 [1, 2, 3, 0, -1] (by decide)).mono ?_)
        rintro r L1 ⟨w, rfl, hw, rfl⟩
        have bw : -100 ≤ w ∧ w ≤ 100 := by simp at hw; omega
        repeat' (first | with_reducible first | refine kI (by kernel_rfl) ?_ | refine kN (by kernel_rfl) ?_ | simp -implicitDefEqProofs (disch := omega) only [go_sem, Nat.reduceAdd, Nat.reduceSub, reduceCtorEq, Nat.reduceLT, Nat.reduceLeDiff, Nat.reduceEqDiff, ↓reduceIte, List.take_of_length_le, if_pos, if_neg, getD_exs, cnE, cnV, Tryz.ntmps74, Tryz.results74,  hC.cn])
        exact hC.ret0 ⟨⟨1, [x, z, w]⟩, _, ⟨⟨⟨show (0 : Int) ≤ 1 by decide, show (1 : Int) ≤ 7 by decide⟩, rfl⟩, by simp; omega⟩, rfl, by omega, by omega, rfl⟩
      by_cases k2 : k = 2
      · subst k2
        repeat' (first | with_reducible first | refine kI (by kernel_rfl) ?_ | refine kN (by kernel_rfl) ?_ | simp -implicitDefEqProofs (disch := omega) only [go_sem, Nat.reduceAdd, Nat.reduceSub, reduceCtorEq, Nat.reduceLT, Nat.reduceLeDiff, Nat.reduceEqDiff, ↓reduceIte, List.take_of_length_le, if_pos, if_neg, getD_exs, cnE, cnV, Tryz.ntmps74, Tryz.results74,  hC.cn, c1, c2, hl, hw, h0, opQ_none])
        refine InlK_intro rfl rfl can_pick ((isp_pick hS (hC.app _) hb _ (by omega) 4 (by omega)).mono ?_)
        rintro r L1 ⟨x, rfl, lx, ux, rfl⟩
        have bx : -100 ≤ x ∧ x ≤ 100 := by omega
        repeat' (first | with_reducible first | refine kI (by kernel_rfl) ?_ | refine kN (by kernel_rfl) ?_ | simp -implicitDefEqProofs (disch := omega) only [go_sem, Nat.reduceAdd, Nat.reduceSub, reduceCtorEq, Nat.reduceLT, Nat.reduceLeDiff, Nat.reduceEqDiff, ↓reduceIte, List.take_of_length_le, if_pos, if_neg, getD_exs, cnE, cnV, Tryz.ntmps74, Tryz.results74,  hC.cn, c1, c2, hl, hw, h1, opQ_none])
        refine InlK_intro rfl rfl can_one ((isp_one hS h0 (hC.app _) hb _ (by omega) 2 [3, 4, -1, 2] (by decide)).mono ?_)
        rintro r L1 ⟨z, rfl, hz, rfl⟩
        have bz : -100 ≤ z ∧ z ≤ 100 := by simp at hz; omega
        repeat' (first | with_reducible first | refine kI (by kernel_rfl) ?_ | refine kN (by kernel_rfl) ?_ | simp -implicitDefEqProofs (disch := omega) only [go_sem, Nat.reduceAdd, Nat.reduceSub, reduceCtorEq, Nat.reduceLT, Nat.reduceLeDiff, Nat.reduceEqDiff, ↓reduceIte, if_pos, if_neg, Tryz.ntmps74, Tryz.results74,  hC.cn, c1, c2, hl, hw, h1, opQ_none])
        refine InlK_intro rfl rfl can_one ((isp_one hS h0 (hC.app _) hb _ (by omega) 2 [1, 2, -1, 1] (by decide)).mono ?_)
        rintro r L1 ⟨w, rfl, hw, rfl⟩
        have bw : -100 ≤ w ∧ w ≤ 100 := by simp at hw; omega
        repeat' (first | with_reducible first | refine kI (by kernel_rfl) ?_ | refine kN (by kernel_rfl) ?_ | simp -implicitDefEqProofs (disch := omega) only [go_sem, Nat.reduceAdd, Nat.reduceSub, reduceCtorEq, Nat.reduceLT, Nat.reduceLeDiff, Nat.reduceEqDiff, ↓reduceIte, List.take_of_length_le, if_pos, if_neg, getD_exs, cnE, cnV, Tryz.ntmps74, Tryz.results74,  hC.cn])
        exact hC.ret0 ⟨⟨2, [id0, x, z, w]⟩, _, ⟨⟨⟨show (0 : Int) ≤ 2 by decide, show (2 : Int) ≤ 7 by decide⟩, rfl⟩, by simp; omega⟩, rfl, by omega, by omega, rfl⟩
      by_cases k4 : k = 4
      · subst k4
        repeat' (first | with_reducible first | refine kI (by kernel_rfl) ?_ | refine kN (by kernel_rfl) ?_ | simp -implicitDefEqProofs (disch := omega) only [go_sem, Nat.reduceAdd, Nat.reduceSub, reduceCtorEq, Nat.reduceLT, Nat.reduceLeDiff, Nat.reduceEqDiff, ↓reduceIte, List.take_of_length_le, if_pos, if_neg, getD_exs, cnE, cnV, Tryz.ntmps74, Tryz.results74,  hC.cn, c1, c2, hl, hw, h0, opQ_none])
        refine InlK_intro rfl rfl can_pick ((isp_pick hS (hC.app _) hb _ (by omega) 100 (by omega)).mono ?_)
        rintro r L1 ⟨x, rfl, lx, ux, rfl⟩
        have bx : -100 ≤ x ∧ x ≤ 100 := by omega
        repeat' (first | with_reducible first | refine kI (by kernel_rfl) ?_ | refine kN (by kernel_rfl) ?_ | simp -implicitDefEqProofs (disch := omega) only [go_sem, Nat.reduceAdd, Nat.reduceSub, reduceCtorEq, Nat.reduceLT, Nat.reduceLeDiff, Nat.reduceEqDiff, ↓reduceIte, List.take_of_length_le, if_pos, if_neg, getD_exs, cnE, cnV, Tryz.ntmps74, Tryz.results74,  hC.cn])
        exact hC.ret0 ⟨⟨4, [id0, x]⟩, _, ⟨⟨⟨show (0 : Int) ≤ 4 by decide, show (4 : Int) ≤ 7 by decide⟩, rfl⟩, by simp; omega⟩, rfl, by omega, by omega, rfl⟩
      by_cases k5 : k = 5
      · subst k5
        repeat' (first | with_reducible first | refine kI (by kernel_rfl) ?_ | refine kN (by kernel_rfl) ?_ | simp -implicitDefEqProofs (disch := omega) only [go_sem, Nat.reduceAdd, Nat.reduceSub, reduceCtorEq, Nat.reduceLT, Nat.reduceLeDiff, Nat.reduceEqDiff, ↓reduceIte, List.take_of_length_le, if_pos, if_neg, getD_exs, cnE, cnV, Tryz.ntmps74, Tryz.results74,  hC.cn, c1, c2, hl, hw, h0, opQ_none])
        refine InlK_intro rfl rfl can_pick ((isp_pick hS (hC.app _) hb _ (by omega) ((B.e.length : Int) + 1) (by omega)).mono ?_)
        rintro r L1 ⟨x, rfl, lx, ux, rfl⟩
        have bx : -100 ≤ x ∧ x ≤ 100 := by omega
        repeat' (first | with_reducible first | refine kI (by kernel_rfl) ?_ | refine kN (by kernel_rfl) ?_ | simp -implicitDefEqProofs (disch := omega) only [go_sem, Nat.reduceAdd, Nat.reduceSub, reduceCtorEq, Nat.reduceLT, Nat.reduceLeDiff, Nat.reduceEqDiff, ↓reduceIte, List.take_of_length_le, if_pos, if_neg, getD_exs, cnE, cnV, Tryz.ntmps74, Tryz.results74,  hC.cn])
        exact hC.ret0 ⟨⟨5, [id0, x]⟩, _, ⟨⟨⟨show (0 : Int) ≤ 5 by decide, show (5 : Int) ≤ 7 by decide⟩, rfl⟩, by simp; omega⟩, rfl, by omega, by omega, rfl⟩
      have f0 : (k == 0) = false := beq_f k0
      have f1 : (k == 1) = false := beq_f k1
      have f2 : (k == 2) = false := beq_f k2
      have f4 : (k == 4) = false := beq_f k4
      have f5 : (k == 5) = false := beq_f k5
      repeat' (first | with_reducible first | refine kI (by kernel_rfl) ?_ | refine kN (by kernel_rfl) ?_ | simp -implicitDefEqProofs (disch := omega) only [go_sem, Nat.reduceAdd, Nat.reduceSub, reduceCtorEq, Nat.reduceLT, Nat.reduceLeDiff, Nat.reduceEqDiff, ↓reduceIte, if_pos, if_neg, Tryz.ntmps74, Tryz.results74,  hC.cn, f0, f1, f2, f4, f5])
      exact hC.ret0 ⟨⟨k, [id0]⟩, _, ⟨⟨by dsimp only; omega, show 1 = nedF k by unfold nedF; rw [if_neg k1, if_neg k2, if_neg (by omega)]⟩, by simp; omega⟩, rfl, by omega, by omega, rfl⟩
theorem can_someAct : CanCall Tryz.prog 74 := ⟨_, Tryz.func74, rfl, rfl⟩
def SomeAct : Prop := ∀ {bs : List UInt8} {b n : Nat} {rL : Int → List Blk} (hC : RC bs b n rL) (hb : bs.length ≤ 2000) (p : Int) (hp : 0 ≤ p ∧ p ≤ 800000000) (B : Bf) (hB : bufOK B = true) (lo : Nat) (v : AV) (hv : BR lo (rL p) v B), ISpec Tryz.prog 74 [.ptr b 1 0 0, v] (rL p) fun r L' => ∃ (a : Ac) (p' : Int), actV a ∧ r = acA 2 a ∧ p ≤ p' ∧ p' ≤ p + 10 ∧ L' = rL p'
end Go.Proofs.YtkmnepmnjpdpkaaGreatDoor
namespace Go.Proofs.YtkmnepmnjpdpkaaGreatDoor
open Go Go.Ev Go.RowKit Go.Ev.Enc Go.Pl

def ApplyS : Prop := ∀ (B : Bf) (hB : bufOK B = true) (a : Ac) (ha : actN a) (t lo : Nat) (M : List Blk) (hlo : lo ≤ M.length) (v : AV) (hv : BR lo M v B), ISpec Tryz.prog 58 [v, .agg [i64 a.k, ints t a.n]] M (appK lo M B a)
def NewS : Prop := ∀ n : Nat, n ≤ 60 → OSpec Tryz.prog 56 [i64 (n : Nat)] (bfR ⟨List.replicate n 0, []⟩) (bfN ⟨List.replicate n 0, []⟩)
theorem can_NewS : CanCall Tryz.prog 56 := ⟨_, Tryz.func56, rfl, rfl⟩
theorem BR.sub {lo : Nat} {L L' : List Blk} {v : AV} {B : Bf} (h : BR lo L v B) (hs : ∀ (i : Nat) (k : Blk), L[i]? = some k → k.esz ≠ 2 → L'[i]? = some k) : BR lo L' v B := by
  obtain ⟨i, be, h1, h2, h3, hlw⟩ := h
  refine ⟨i, be, h1, hs _ _ h2 (by exact (by decide : (1 : Nat) ≠ 2)), ?_, hlw⟩
  rcases h3 with h3 | ⟨h3, j, h4, h5⟩
  · exact .inl h3
  · exact .inr ⟨h3, j, h4, hs _ _ h5 (by exact (by decide : (5 : Nat) ≠ 2))⟩
theorem BR.put {lo : Nat} {L : List Blk} {v : AV} {B : Bf} (h : BR lo L v B) {q : Nat} {kq : Blk} (hq : L[q]? = some kq) (h2 : kq.esz = 2) (k' : Blk) : BR lo (L.set q k') v B := by
  refine h.sub fun i k hi hk => ?_
  rw [List.getElem?_set_ne]
  · exact hi
  · rintro rfl
    rw [hq] at hi
    cases hi
    exact hk h2
end Go.Proofs.YtkmnepmnjpdpkaaGreatDoor
namespace Go.Proofs.YtkmnepmnjpdpkaaGreatDoor
open Go Go.Ev Go.RowKit Go.Ev.Enc Go.Pl

end Go.Proofs.YtkmnepmnjpdpkaaGreatDoor
namespace Go.Proofs.YtkmnepmnjpdpkaaGreatDoor
open Go Go.Ev Go.RowKit Go.Ev.Enc Go.Pl

theorem opF_len (B : Bf) : (opF B).length ≤ B.e.length := filt_len _ _
end Go.Proofs.YtkmnepmnjpdpkaaGreatDoor
