/- Contracts of functions that the laws of this seat call. -/
import Derived.Test.YtkmnepmnjpdpkaaGreatDoorXxB
set_option linter.all false
namespace Go.Proofs.YtkmnepmnjpdpkaaGreatDoor
open Go Go.Ev Go.RowKit Go.Ev.Enc Go.Pl

theorem BR.lo0 {lo : Nat} {L : List Blk} {v : AV} {B : Bf} (h : BR lo L v B) : BR 0 L v B := by
  obtain ⟨i, be, h1, h2, h3, -⟩ := h
  exact ⟨i, be, h1, h2, h3, Nat.zero_le _, fun _ _ _ _ _ _ => Nat.zero_le _⟩
theorem fr_bf {L Lf : List Blk} {B : Bf} {i : Nat} (h1 : Lf[i]? = some (stB B.c)) (h2 : B.e ≠ [] → Lf[i + 1]? = some (exB 1 B.e)) (hi : L.length ≤ i) :
    nzW (selV (gR L.length []) Lf (.agg [.sl i B.c.length 0 B.c.length B.c.length, exR (i + 1) B.e])) = bfA 1 B := by
  obtain ⟨i, rfl⟩ : ∃ i', i = L.length + i' := ⟨i - L.length, (Nat.add_sub_cancel' hi).symm⟩
  by_cases he : B.e = []
  · rw [show B = ⟨B.c, []⟩ by rw [← he]] at h1 ⊢
    dsimp only at h1 ⊢
    simp -implicitDefEqProofs only [exR, selV_agg, List.map_cons, List.map_nil, selC_sl, Go.Ev.gR_ge, selSl_none, selC_nil, h1, nzW_agg, nz_ints, nz_exs, nz_nil, selF_ints]
    try rfl
  · have h2 := h2 he
    rw [Nat.add_assoc] at h2 ⊢
    simp -implicitDefEqProofs only [exR_ne he, selV_agg, List.map_cons, List.map_nil, selC_sl, Go.Ev.gR_ge, selSl_none, selC_nil, h1, h2, nzW_agg, nz_ints, nz_exs, nz_nil, selF_ints, selF_exs]
    try rfl
theorem can_BufferAfterS : CanCall Tryz.prog 17 := ⟨_, Tryz.func17, rfl, rfl⟩
set_option maxHeartbeats 4000000 in
set_option maxRecDepth 100000 in
theorem isp_BufferAfterS {Sg : FuncId → Option (List AV → Option AV)} (hS : Sound Tryz.prog Sg) (n1 : Sg 56 = none) (ha : Sg 57 = some (F1 gActs)) (n3 : Sg 58 = none) (n4 : Sg 59 = none) (s : ByteArray) (hs : s.size < 4294967281) (L : List Blk) (hnew : NewS) (hap : ApplyS) (hcb : CpBS) : ISpec Tryz.prog 17 [.str s] (L) (fun r L' => r = bfA 1 (aftB bf0 (actsF 60 s.data.toList)) ∧ L' = L) := by
  refine ISpec.nz2 (ISpec.ret Tryz.func17 rfl (vc3_sound Tryz.pf hS hS _ _ _ ?_))
  have q1 := gActs_eq hs
  have hlen := actsF_len 60 s.data.toList
  have hval := actsF_val 60 s.data.toList
  generalize actsF 60 s.data.toList = l at *
  repeat' (first | with_reducible first | refine kI (by kernel_rfl) ?_ | simp -implicitDefEqProofs (disch := omega) only [go_sem, Nat.reduceAdd, Nat.reduceSub, reduceCtorEq, Nat.reduceLT, Nat.reduceLeDiff, Nat.reduceEqDiff, ↓reduceIte, List.take_of_length_le, if_pos, if_neg, getD_exs, evApp_st0, cnE, cnV, Tryz.ntmps17, Tryz.results17,  n1, opQ_none])
  refine InlK_intro rfl rfl can_NewS ((hnew 0 (by omega)).call (by simp only [go_sem, ints]; rfl) ?_)
  simp only [bfN, exN]
  have hok := new_ok (n := 0) (by omega)
  have hC0 : List.replicate 0 (0 : Int) = [] := rfl
  rw [hC0] at hok ⊢
  repeat' (first | with_reducible first | refine kI (by kernel_rfl) ?_ | simp -implicitDefEqProofs (disch := omega) only [go_sem, Nat.reduceAdd, Nat.reduceSub, reduceCtorEq, Nat.reduceLT, Nat.reduceLeDiff, Nat.reduceEqDiff, ↓reduceIte, List.take_of_length_le, if_pos, if_neg, getD_exs, evApp_st0, cnE, cnV, Tryz.ntmps17, Tryz.results17,  exR, ha, q1])
  refine LoopQ.mix (fun t0 L0 nn ss => ∃ (i : Nat) (B : Bf) (v : AV) (J : List Blk) (_ : Unit), (∃ x : Nat → AV, ss = ⟨mixL 0 (.k :: .k :: .k :: .k :: .k :: .v (i64 (i : Nat)) :: .k :: .k :: .k :: .s :: .s :: .s :: .s :: .s :: .s :: .s :: .s :: .s :: .s :: .s :: .s :: .s :: .s :: .s :: .k :: .k :: []) t0 x, L ++ (⟨2, [.agg [.nilS, .nilS]]⟩ :: stB [] :: ⟨2, [v]⟩ :: J)⟩) ∧ (i ≤ l.length) ∧ (B = aftB bf0 (l.take i)) ∧ (bufOK B = true) ∧ (BR L.length (L ++ (⟨2, [.agg [.nilS, .nilS]]⟩ :: stB [] :: ⟨2, [v]⟩ :: J)) v B) ∧ nn = l.length - i) ?_ ?_
  · exact ⟨_, 0, bf0, _, [], (), mixJ rfl rfl, Nat.zero_le _, rfl, hok, ⟨L.length + 1, .nilS, rfl, by rw [get_app_add]; rfl, .inl ⟨rfl, rfl⟩, by omega, fun j a o n c hj => by cases hj⟩, rfl⟩
  · rintro I0 hI0 nn ss ⟨i, B, v, J, _, ⟨y, rfl⟩, g1, g2, g3, hbr, rfl⟩
    obtain ⟨x1, x2, rfl, hx1, hx2⟩ := BR_cells hbr
    by_cases hi : i < l.length
    · have hii : (i : Int) < (l.length : Int) := by omega
      have hga := getD_acs (t := 1) hi
      have hav := hval _ (mem_ac hi)
      have htk := take_ac hi
      have hok := app_ok (a := l.getD i ac0) g3
      have e2 := aftB_snoc bf0 (l.take i) (l.getD i ac0)
      rw [← htk, ← g2] at e2
      generalize l.getD i ac0 = a at *
      obtain ⟨k, w⟩ := a
      dsimp only at hga
      repeat' (first | with_reducible first | refine kI (by kernel_rfl) ?_ | simp -implicitDefEqProofs (disch := omega) only [go_sem, Nat.reduceAdd, Nat.reduceSub, reduceCtorEq, Nat.reduceLT, Nat.reduceLeDiff, Nat.reduceEqDiff, ↓reduceIte, List.take_of_length_le, if_pos, if_neg, getD_exs, evApp_st0, cnE, cnV, Tryz.ntmps17, Tryz.results17,  hx1, hx2, hii])
      refine DrawQ.any2 [([0, 1, 2, 3, 4], 5, []), ([6, 7, 8], 9, [8])] [] [8] (by kernel_rfl) ?_
      repeat' (first | with_reducible first | refine kI (by kernel_rfl) ?_ | simp -implicitDefEqProofs (disch := omega) only [go_sem, Nat.reduceAdd, Nat.reduceSub, reduceCtorEq, Nat.reduceLT, Nat.reduceLeDiff, Nat.reduceEqDiff, ↓reduceIte, List.take_of_length_le, if_pos, if_neg, getD_exs, evApp_st0, cnE, cnV, Tryz.ntmps17, Tryz.results17,  hx1, hx2, hga, n3, opQ_none])
      refine InlK_intro rfl rfl can_applyS ((hap B g3 ⟨k, w⟩ hav.1 1 L.length _ (by simp) _ hbr).mono ?_)
      rintro r L1 ⟨x', Y, rfl, rfl, hbr2⟩
      obtain ⟨z1, z2, rfl, hz1, hz2⟩ := BR_cells hbr2
      have hbp := hbr2.put (q := L.length + 2) (kq := ⟨2, [.agg [x1, x2]]⟩) (by rw [List.append_assoc, get_app_add]; rfl) rfl ⟨2, [.agg [z1, z2]]⟩
      rw [List.append_assoc, set_app_add] at hbp
      repeat' (first | with_reducible first | refine kI (by kernel_rfl) ?_ | simp -implicitDefEqProofs (disch := omega) only [go_sem, Nat.reduceAdd, Nat.reduceSub, reduceCtorEq, Nat.reduceLT, Nat.reduceLeDiff, Nat.reduceEqDiff, ↓reduceIte, List.take_of_length_le, if_pos, if_neg, getD_exs, evApp_st0, cnE, cnV, Tryz.ntmps17, Tryz.results17,  hx1, hx2, hz1, hz2])
      exact ⟨by omega, l.length - (i + 1), by omega, hI0 _ _ ⟨i + 1, (appF B ⟨k, w⟩).1, .agg [z1, z2], J ++ Y, (), mixI rfl, hi, e2.symm, hok, by simpa using hbp, rfl⟩⟩
    · obtain rfl : i = l.length := by omega
      rw [List.take_length] at g2
      rw [← g2]
      repeat' (first | with_reducible first | refine kI (by kernel_rfl) ?_ | simp -implicitDefEqProofs (disch := omega) only [go_sem, Nat.reduceAdd, Nat.reduceSub, reduceCtorEq, Nat.reduceLT, Nat.reduceLeDiff, Nat.reduceEqDiff, ↓reduceIte, List.take_of_length_le, if_pos, if_neg, getD_exs, evApp_st0, cnE, cnV, Tryz.ntmps17, Tryz.results17,  hx1, hx2, n4, opQ_none])
      refine InlK_intro rfl rfl can_copyBufferS ((hcb B (bfM_of g3)).call (bf_call (.inr hbr.lo0)) ?_)
      repeat' (first | with_reducible first | refine kI (by kernel_rfl) ?_ | simp -implicitDefEqProofs (disch := omega) only [go_sem, Nat.reduceAdd, Nat.reduceSub, reduceCtorEq, Nat.reduceLT, Nat.reduceLeDiff, Nat.reduceEqDiff, ↓reduceIte, List.take_of_length_le, if_pos, if_neg, getD_exs, evApp_st0, cnE, cnV, Tryz.ntmps17, Tryz.results17])
      refine RetQ.top ⟨fr_bf (i := L.length + (J.length + 1 + 1 + 1)) ?_ ?_ (by omega), rfl⟩
      · rw [get_app_add]
        simp only [List.getElem?_cons_succ]
        rw [get_app_len]; rfl
      · intro hne
        rw [show L.length + (J.length + 1 + 1 + 1) + 1 = L.length + (J.length + 1 + 1 + 1 + 1) from rfl, get_app_add]
        simp only [List.getElem?_cons_succ]
        rw [get_app_add, bfN, exN_ne hne]; rfl
def AftS : Prop := ∀ (s : ByteArray), s.size < 4294967281 → ∀ L : List Blk, ISpec Tryz.prog 17 [.str s] L fun r L' => r = bfA 1 (aftB bf0 (actsF 60 s.data.toList)) ∧ L' = L
end Go.Proofs.YtkmnepmnjpdpkaaGreatDoor
