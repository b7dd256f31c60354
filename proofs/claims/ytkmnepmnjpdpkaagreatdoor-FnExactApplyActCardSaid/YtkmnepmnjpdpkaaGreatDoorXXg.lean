/- Contracts of functions that the laws of this seat call. -/
import Derived.Test.YtkmnepmnjpdpkaaGreatDoorXXf
import Derived.Test.YtkmnepmnjpdpkaaGreatDoorXe
set_option linter.all false
namespace Go.Proofs.YtkmnepmnjpdpkaaGreatDoor
open Go Go.Ev Go.RowKit Go.Ev.Enc Go.Pl

theorem HB.fin {P P' Y : List Blk} {lo hi hi' : Nat} {x : AV} {B : Bf} (h : HB lo hi (P ++ Y) x B) (hlo : P.length ≤ lo) (hl : P.length = P'.length) (hh : hi ≤ hi') : HB 0 hi' (P' ++ Y) x B := by
  refine (h.same fun b h1 _ => ?_).mono (Nat.zero_le _) hh
  rw [List.getElem?_append_right (by omega), List.getElem?_append_right (by omega), hl]
theorem HBx.sl {M : List Blk} {i : Nat} {be : AV} {js : List Nat} {xl : List Px} {B : Bf} (h : HBx M i be js xl B) (hne : B.e ≠ []) : ∃ j E, be = .sl j B.e.length 0 B.e.length B.e.length ∧ js = [j] ∧ M[j]? = some ⟨5, E⟩ ∧ E.length = B.e.length := by
  have hl : xl.length = B.e.length := by rw [← h.e, List.length_map]
  rcases h.x with ⟨rfl, -, -⟩ | ⟨j, rfl, rfl, hj⟩
  · exact absurd (List.eq_nil_of_length_eq_zero hl.symm) hne
  · exact ⟨j, _, by rw [hl], rfl, hj, by rw [List.length_map, hl]⟩
theorem opt_add {c : Prop} [Decidable c] {B B' : Bf} {x : Ex} (h : opt c (addB B x) = some B') : B'.e ≠ [] := by
  unfold opt at h
  split at h
  · cases h; simp [addB]
  · cases h
def AK (L' : List Blk) (r : AV) (p : Bf × ByteArray) : Prop := ∃ x, r = .tup [x, .str p.2] ∧ HB 0 L'.length L' x p.1
def RszX : Prop := ∀ (B : Bf) (n : Int), bfB B → ISpec Tryz.prog 91 [bfA 0 B, i64 n] [] fun r L' => HO 0 L'.length L' r (rszXO B n)
def ExvX : Prop := ∀ (B : Bf) (v : Vi), bfB B → viB v → ISpec Tryz.prog 92 [bfA 0 B, .agg [i64 v.b, ints 0 v.sh, ints 0 v.st]] [] fun r L' => HO 0 L'.length L' r (expVO B v)
def ExpX : Prop := ∀ (B : Bf) (id d : Int) (s : Sl), bfB B → ISpec Tryz.prog 93 [bfA 0 B, i64 id, i64 d, slA s] [] fun r L' => HO 0 L'.length L' r (expPO B id d s)
def FilX : Prop := ∀ (B : Bf) (id x : Int), bfB B → ISpec Tryz.prog 94 [bfA 0 B, i64 id, i64 x] [] fun r L' => HO 0 L'.length L' r (filXO B id x)
def CpyX : Prop := ∀ (B : Bf) (a b : Int), bfB B → ISpec Tryz.prog 95 [bfA 0 B, i64 a, i64 b] [] fun r L' => HO 0 L'.length L' r (cpyXO B a b)
def RelX : Prop := ∀ (B : Bf) (id : Int), bfB B → ISpec Tryz.prog 96 [bfA 0 B, i64 id] [] fun r L' => HO 0 L'.length L' r (relXO B id)
theorem can_ResizeBufferI : CanCall Tryz.prog 91 := ⟨_, Tryz.func91, rfl, rfl⟩
theorem can_ExportViewI : CanCall Tryz.prog 92 := ⟨_, Tryz.func92, rfl, rfl⟩
theorem can_ExportPartI : CanCall Tryz.prog 93 := ⟨_, Tryz.func93, rfl, rfl⟩
theorem can_FillExportI : CanCall Tryz.prog 94 := ⟨_, Tryz.func94, rfl, rfl⟩
theorem can_CopyExportI : CanCall Tryz.prog 95 := ⟨_, Tryz.func95, rfl, rfl⟩
theorem can_ReleaseExportI : CanCall Tryz.prog 96 := ⟨_, Tryz.func96, rfl, rfl⟩
set_option maxHeartbeats 4000000 in
set_option maxRecDepth 100000 in
theorem isp_appX0 {Sg : FuncId → Option (List AV → Option AV)} (hS : Sound Tryz.prog Sg) (m1 : Sg 91 = none) (m9 : Sg 99 = none) (B : Bf) (n0 : Int) (hB : bufOK B = true) (hcb : CpX) (hz : RszX) : ISpec Tryz.prog 53 [bfA 0 B, acA 0 ⟨0, [n0]⟩] [] (fun r L' => AK L' r (appF B ⟨0, [n0]⟩)) := by
  refine ISpec.intro Tryz.func53 rfl (vc3_sound Tryz.pf hS hS _ _ _ ?_)
  have hbb := bfB_of hB
  have hd : doneO B ⟨0, [n0]⟩ = rszXO B n0 := rfl
  have q := hz B n0 hbb
  cases e : rszXO B n0 with
  | none =>
    rw [e] at q hd
    rw [appF_no hd]
    repeat' (first | with_reducible first | refine kI (by kernel_rfl) ?_ | simp -implicitDefEqProofs (disch := omega) only [go_sem, Nat.reduceAdd, Nat.reduceSub, reduceCtorEq, Nat.reduceLT, Nat.reduceLeDiff, Nat.reduceEqDiff, Nat.reduceMul, Int.reduceToNat, ↓reduceIte, List.take_of_length_le, if_pos, if_neg, List.getElem?_set_self, List.set_set, getD_exs, cnE, cnV, Tryz.ntmps53, Tryz.results53])
    refine DrawQ.any2 [([0, 1, 2, 3, 4], 5, []), ([6, 7, 8], 9, [8])] [10] [8] (by kernel_rfl) ?_
    repeat' (first | with_reducible first | refine kI (by kernel_rfl) ?_ | simp -implicitDefEqProofs (disch := omega) only [go_sem, Nat.reduceAdd, Nat.reduceSub, reduceCtorEq, Nat.reduceLT, Nat.reduceLeDiff, Nat.reduceEqDiff, Nat.reduceMul, Int.reduceToNat, ↓reduceIte, List.take_of_length_le, if_pos, if_neg, List.getElem?_set_self, List.set_set, getD_exs, cnE, cnV, Tryz.ntmps53, Tryz.results53,  m1, opQ_none])
    refine InlK_intro rfl rfl can_ResizeBufferI (callF q (by simp only [go_sem, ints]) ?_)
    intro r N hr
    have e2 := HO.frame (L := [⟨2, [bfA 0 B]⟩, ⟨2, [acA 0 ⟨0, [n0]⟩]⟩, ⟨2, [.agg [.nilS, .nilS]]⟩, ⟨2, [.agg [.nilS, .nilS]]⟩]) hr
    simp only [HO] at e2
    rw [e2]
    generalize N.map (ownB ([⟨2, [bfA 0 B]⟩, ⟨2, [acA 0 ⟨0, [n0]⟩]⟩, ⟨2, [.agg [.nilS, .nilS]]⟩, ⟨2, [.agg [.nilS, .nilS]]⟩] : List Blk).length) = Z at *
    repeat' (first | with_reducible first | refine kI (by kernel_rfl) ?_ | simp -implicitDefEqProofs (disch := omega) only [go_sem, Nat.reduceAdd, Nat.reduceSub, reduceCtorEq, Nat.reduceLT, Nat.reduceLeDiff, Nat.reduceEqDiff, Nat.reduceMul, Int.reduceToNat, ↓reduceIte, List.take_of_length_le, if_pos, if_neg, List.getElem?_set_self, List.set_set, getD_exs, cnE, cnV, Tryz.ntmps53, Tryz.results53,  m9, opQ_none])
    refine InlK_intro rfl rfl can_copyBufferI (callF (hcb B (bfM_of hB)) (by simp only [go_sem, ints]) ?_)
    intro v N2 hv
    obtain ⟨i, be, js, xl, e3, hx, hbd⟩ := HB.frame (L := (⟨2, [bfA 0 B]⟩ :: ⟨2, [acA 0 ⟨0, [n0]⟩]⟩ :: ⟨2, [.agg [.nilS, .nilS]]⟩ :: ⟨2, [.agg [.nilS, .nilS]]⟩ :: Z : List Blk)) hv
    rw [e3]
    generalize N2.map (ownB (⟨2, [bfA 0 B]⟩ :: ⟨2, [acA 0 ⟨0, [n0]⟩]⟩ :: ⟨2, [.agg [.nilS, .nilS]]⟩ :: ⟨2, [.agg [.nilS, .nilS]]⟩ :: Z : List Blk).length) = Z2 at *
    have hcell := hx.x.cell
    repeat' (first | with_reducible first | refine kI (by kernel_rfl) ?_ | simp -implicitDefEqProofs (disch := omega) only [go_sem, Nat.reduceAdd, Nat.reduceSub, reduceCtorEq, Nat.reduceLT, Nat.reduceLeDiff, Nat.reduceEqDiff, Nat.reduceMul, Int.reduceToNat, ↓reduceIte, List.take_of_length_le, if_pos, if_neg, List.getElem?_set_self, List.set_set, getD_exs, cnE, cnV, Tryz.ntmps53, Tryz.results53,  hcell])
    exact ⟨_, rfl, HB.fin (P := [_, _, _, _]) (P' := [_, _, _, _]) (Y := Z ++ Z2) ⟨i, be, js, xl, rfl, hx, fun b hb => ⟨(hbd b hb).1, hx.lt b hb⟩⟩ (by simp) rfl (by simp only [List.length_append, List.length_cons, List.length_nil]; omega)⟩
  | some B' =>
    rw [e] at q hd
    rw [appF_do hd (show (0 : Int) ≠ 6 by decide) (show ¬ ((0 : Int) = 1 ∨ (0 : Int) = 2 ∨ (0 : Int) = 3) by decide)]
    repeat' (first | with_reducible first | refine kI (by kernel_rfl) ?_ | simp -implicitDefEqProofs (disch := omega) only [go_sem, Nat.reduceAdd, Nat.reduceSub, reduceCtorEq, Nat.reduceLT, Nat.reduceLeDiff, Nat.reduceEqDiff, Nat.reduceMul, Int.reduceToNat, ↓reduceIte, List.take_of_length_le, if_pos, if_neg, List.getElem?_set_self, List.set_set, getD_exs, cnE, cnV, Tryz.ntmps53, Tryz.results53])
    refine DrawQ.any2 [([0, 1, 2, 3, 4], 5, []), ([6, 7, 8], 9, [8])] [10] [8] (by kernel_rfl) ?_
    repeat' (first | with_reducible first | refine kI (by kernel_rfl) ?_ | simp -implicitDefEqProofs (disch := omega) only [go_sem, Nat.reduceAdd, Nat.reduceSub, reduceCtorEq, Nat.reduceLT, Nat.reduceLeDiff, Nat.reduceEqDiff, Nat.reduceMul, Int.reduceToNat, ↓reduceIte, List.take_of_length_le, if_pos, if_neg, List.getElem?_set_self, List.set_set, getD_exs, cnE, cnV, Tryz.ntmps53, Tryz.results53,  m1, opQ_none])
    refine InlK_intro rfl rfl can_ResizeBufferI (callF q (by simp only [go_sem, ints]) ?_)
    intro r N hr
    obtain ⟨x, e2, i, be, js, xl, rfl, hx, hbd⟩ := HO.frame (L := [⟨2, [bfA 0 B]⟩, ⟨2, [acA 0 ⟨0, [n0]⟩]⟩, ⟨2, [.agg [.nilS, .nilS]]⟩, ⟨2, [.agg [.nilS, .nilS]]⟩]) hr
    rw [e2]
    generalize N.map (ownB ([⟨2, [bfA 0 B]⟩, ⟨2, [acA 0 ⟨0, [n0]⟩]⟩, ⟨2, [.agg [.nilS, .nilS]]⟩, ⟨2, [.agg [.nilS, .nilS]]⟩] : List Blk).length) = Z at *
    have hcell := hx.x.cell
    repeat' (first | with_reducible first | refine kI (by kernel_rfl) ?_ | simp -implicitDefEqProofs (disch := omega) only [go_sem, Nat.reduceAdd, Nat.reduceSub, reduceCtorEq, Nat.reduceLT, Nat.reduceLeDiff, Nat.reduceEqDiff, Nat.reduceMul, Int.reduceToNat, ↓reduceIte, List.take_of_length_le, if_pos, if_neg, List.getElem?_set_self, List.set_set, getD_exs, cnE, cnV, Tryz.ntmps53, Tryz.results53,  hcell])
    exact ⟨_, rfl, HB.fin (P := [_, _, _, _]) (P' := [_, _, _, _]) (Y := Z) ⟨i, _, _, xl, rfl, hx, fun b hb => ⟨(hbd b hb).1, hx.lt b hb⟩⟩ (Nat.le_refl _) rfl (by simp only [List.length_append, List.length_cons, List.length_nil]; omega)⟩
set_option maxHeartbeats 4000000 in
set_option maxRecDepth 100000 in
theorem isp_appX1 {Sg : FuncId → Option (List AV → Option AV)} (hS : Sound Tryz.prog Sg) (m1 : Sg 92 = none) (m9 : Sg 99 = none) (hi : Sg 63 = some (F1 gNum)) (B : Bf) (n0 n1 n2 : Int) (hB : bufOK B = true) (hcb : CpX) (hz : ExvX) : ISpec Tryz.prog 53 [bfA 0 B, acA 0 ⟨1, [n0, n1, n2]⟩] [] (fun r L' => AK L' r (appF B ⟨1, [n0, n1, n2]⟩)) := by
  refine ISpec.intro Tryz.func53 rfl (vc3_sound Tryz.pf hS hS _ _ _ ?_)
  have hbb := bfB_of hB
  have hd : doneO B ⟨1, [n0, n1, n2]⟩ = expVO B ⟨n0, [n1], [n2]⟩ := rfl
  have q := hz B ⟨n0, [n1], [n2]⟩ hbb ⟨(show 1 < 4294967296 by decide), (show 1 < 4294967296 by decide)⟩
  cases e : expVO B ⟨n0, [n1], [n2]⟩ with
  | none =>
    rw [e] at q hd
    rw [appF_no hd]
    repeat' (first | with_reducible first | refine kI (by kernel_rfl) ?_ | simp -implicitDefEqProofs (disch := omega) only [go_sem, Nat.reduceAdd, Nat.reduceSub, reduceCtorEq, Nat.reduceLT, Nat.reduceLeDiff, Nat.reduceEqDiff, Nat.reduceMul, Int.reduceToNat, ↓reduceIte, List.take_of_length_le, if_pos, if_neg, List.getElem?_set_self, List.set_set, getD_exs, cnE, cnV, Tryz.ntmps53, Tryz.results53])
    refine DrawQ.any2 [([0, 1, 2, 3, 4, 5, 6, 7, 8, 9, 10, 11, 12, 13, 14, 15], 16, []), ([17, 18, 19], 20, [19])] [21] [19] (by kernel_rfl) ?_
    repeat' (first | with_reducible first | refine kI (by kernel_rfl) ?_ | simp -implicitDefEqProofs (disch := omega) only [go_sem, Nat.reduceAdd, Nat.reduceSub, reduceCtorEq, Nat.reduceLT, Nat.reduceLeDiff, Nat.reduceEqDiff, Nat.reduceMul, Int.reduceToNat, ↓reduceIte, List.take_of_length_le, if_pos, if_neg, List.getElem?_set_self, List.set_set, getD_exs, cnE, cnV, Tryz.ntmps53, Tryz.results53,  m1, opQ_none])
    refine InlK_intro rfl rfl can_ExportViewI (callF q (by simp only [go_sem, ints]) ?_)
    intro r N hr
    have e2 := HO.frame (L := [⟨2, [bfA 0 B]⟩, ⟨2, [acA 0 ⟨1, [n0, n1, n2]⟩]⟩, ⟨2, [.agg [.nilS, .nilS]]⟩, ⟨2, [.agg [.nilS, .nilS]]⟩]) hr
    simp only [HO] at e2
    rw [e2]
    generalize N.map (ownB ([⟨2, [bfA 0 B]⟩, ⟨2, [acA 0 ⟨1, [n0, n1, n2]⟩]⟩, ⟨2, [.agg [.nilS, .nilS]]⟩, ⟨2, [.agg [.nilS, .nilS]]⟩] : List Blk).length) = Z at *
    repeat' (first | with_reducible first | refine kI (by kernel_rfl) ?_ | simp -implicitDefEqProofs (disch := omega) only [go_sem, Nat.reduceAdd, Nat.reduceSub, reduceCtorEq, Nat.reduceLT, Nat.reduceLeDiff, Nat.reduceEqDiff, Nat.reduceMul, Int.reduceToNat, ↓reduceIte, List.take_of_length_le, if_pos, if_neg, List.getElem?_set_self, List.set_set, getD_exs, cnE, cnV, Tryz.ntmps53, Tryz.results53,  m9, opQ_none])
    refine InlK_intro rfl rfl can_copyBufferI (callF (hcb B (bfM_of hB)) (by simp only [go_sem, ints]) ?_)
    intro v N2 hv
    obtain ⟨i, be, js, xl, e3, hx, hbd⟩ := HB.frame (L := (⟨2, [bfA 0 B]⟩ :: ⟨2, [acA 0 ⟨1, [n0, n1, n2]⟩]⟩ :: ⟨2, [.agg [.nilS, .nilS]]⟩ :: ⟨2, [.agg [.nilS, .nilS]]⟩ :: Z : List Blk)) hv
    rw [e3]
    generalize N2.map (ownB (⟨2, [bfA 0 B]⟩ :: ⟨2, [acA 0 ⟨1, [n0, n1, n2]⟩]⟩ :: ⟨2, [.agg [.nilS, .nilS]]⟩ :: ⟨2, [.agg [.nilS, .nilS]]⟩ :: Z : List Blk).length) = Z2 at *
    have hcell := hx.x.cell
    repeat' (first | with_reducible first | refine kI (by kernel_rfl) ?_ | simp -implicitDefEqProofs (disch := omega) only [go_sem, Nat.reduceAdd, Nat.reduceSub, reduceCtorEq, Nat.reduceLT, Nat.reduceLeDiff, Nat.reduceEqDiff, Nat.reduceMul, Int.reduceToNat, ↓reduceIte, List.take_of_length_le, if_pos, if_neg, List.getElem?_set_self, List.set_set, getD_exs, cnE, cnV, Tryz.ntmps53, Tryz.results53,  hcell])
    exact ⟨_, rfl, HB.fin (P := [_, _, _, _]) (P' := [_, _, _, _]) (Y := Z ++ Z2) ⟨i, be, js, xl, rfl, hx, fun b hb => ⟨(hbd b hb).1, hx.lt b hb⟩⟩ (by simp) rfl (by simp only [List.length_append, List.length_cons, List.length_nil]; omega)⟩
  | some B' =>
    rw [e] at q hd
    have h8 := (bufOK_iff.1 (ok_done hB hd)).2.1
    rw [appF_at hd (show (1 : Int) = 1 ∨ (1 : Int) = 2 ∨ (1 : Int) = 3 by decide)]
    have hwr : IntKind.i64.wrap ((B'.e.length : Int) - 1) = (B'.e.length : Int) - 1 := wrap_in (by omega)
    have qi := gNum_eq (n := (B'.e.length : Int) - 1) (by unfold i64R; omega)
    have hnb := numB_len (n := (B'.e.length : Int) - 1) (by unfold i64R; omega)
    have w1 : cAt.size + (numB ((B'.e.length : Int) - 1)).size ≤ 9223372036854775807 := by rw [z_at]; omega
    generalize numB ((B'.e.length : Int) - 1) = S at *
    have hne : B'.e ≠ [] := opt_add (show opt _ (addB B _) = some B' from e)
    repeat' (first | with_reducible first | refine kI (by kernel_rfl) ?_ | simp -implicitDefEqProofs (disch := omega) only [go_sem, Nat.reduceAdd, Nat.reduceSub, reduceCtorEq, Nat.reduceLT, Nat.reduceLeDiff, Nat.reduceEqDiff, Nat.reduceMul, Int.reduceToNat, ↓reduceIte, List.take_of_length_le, if_pos, if_neg, List.getElem?_set_self, List.set_set, getD_exs, cnE, cnV, Tryz.ntmps53, Tryz.results53])
    refine DrawQ.any2 [([0, 1, 2, 3, 4, 5, 6, 7, 8, 9, 10, 11, 12, 13, 14, 15], 16, []), ([17, 18, 19], 20, [19])] [21] [19] (by kernel_rfl) ?_
    repeat' (first | with_reducible first | refine kI (by kernel_rfl) ?_ | simp -implicitDefEqProofs (disch := omega) only [go_sem, Nat.reduceAdd, Nat.reduceSub, reduceCtorEq, Nat.reduceLT, Nat.reduceLeDiff, Nat.reduceEqDiff, Nat.reduceMul, Int.reduceToNat, ↓reduceIte, List.take_of_length_le, if_pos, if_neg, List.getElem?_set_self, List.set_set, getD_exs, cnE, cnV, Tryz.ntmps53, Tryz.results53,  m1, opQ_none])
    refine InlK_intro rfl rfl can_ExportViewI (callF q (by simp only [go_sem, ints]) ?_)
    intro r N hr
    obtain ⟨x, e2, i, be, js, xl, rfl, hx, hbd⟩ := HO.frame (L := [⟨2, [bfA 0 B]⟩, ⟨2, [acA 0 ⟨1, [n0, n1, n2]⟩]⟩, ⟨2, [.agg [.nilS, .nilS]]⟩, ⟨2, [.agg [.nilS, .nilS]]⟩]) hr
    rw [e2]
    generalize N.map (ownB ([⟨2, [bfA 0 B]⟩, ⟨2, [acA 0 ⟨1, [n0, n1, n2]⟩]⟩, ⟨2, [.agg [.nilS, .nilS]]⟩, ⟨2, [.agg [.nilS, .nilS]]⟩] : List Blk).length) = Z at *
    have hcell := hx.x.cell
    obtain ⟨j, E, rfl, rfl, hj, hjE⟩ := hx.sl hne
    have hj4 := (hbd j (by simp)).1
    have yj : ∀ Q1 Q2 : Blk, (⟨2, [bfA 0 B]⟩ :: ⟨2, [acA 0 ⟨1, [n0, n1, n2]⟩]⟩ :: Q1 :: Q2 :: Z)[j]? = some ⟨5, E⟩ := fun Q1 Q2 => get_pre (P' := [_, _, _, _]) hj hj4 rfl
    repeat' (first | with_reducible first | refine kI (by kernel_rfl) ?_ | simp -implicitDefEqProofs (disch := omega) only [go_sem, Nat.reduceAdd, Nat.reduceSub, reduceCtorEq, Nat.reduceLT, Nat.reduceLeDiff, Nat.reduceEqDiff, Nat.reduceMul, Int.reduceToNat, ↓reduceIte, List.take_of_length_le, if_pos, if_neg, List.getElem?_set_self, List.set_set, getD_exs, cnE, cnV, Tryz.ntmps53, Tryz.results53,  hcell])
    refine DrawQ.any [([0, 1, 2, 3, 4, 5, 6], 7)] [8] [6] (by kernel_rfl) ?_
    repeat' (first | with_reducible first | refine kI (by kernel_rfl) ?_ | simp -implicitDefEqProofs (disch := omega) only [go_sem, Nat.reduceAdd, Nat.reduceSub, reduceCtorEq, Nat.reduceLT, Nat.reduceLeDiff, Nat.reduceEqDiff, Nat.reduceMul, Int.reduceToNat, ↓reduceIte, List.take_of_length_le, if_pos, if_neg, List.getElem?_set_self, List.set_set, getD_exs, cnE, cnV, Tryz.ntmps53, Tryz.results53,  yj, hjE, hwr, hi, qi, w1])
    exact ⟨_, rfl, HB.fin (P := [_, _, _, _]) (P' := [_, _, _, _]) (Y := Z) ⟨i, _, _, xl, rfl, hx, fun b hb => ⟨(hbd b hb).1, hx.lt b hb⟩⟩ (Nat.le_refl _) rfl (by simp only [List.length_append, List.length_cons, List.length_nil]; omega)⟩
set_option maxHeartbeats 4000000 in
set_option maxRecDepth 100000 in
theorem isp_appX2 {Sg : FuncId → Option (List AV → Option AV)} (hS : Sound Tryz.prog Sg) (m1 : Sg 93 = none) (m9 : Sg 99 = none) (hi : Sg 63 = some (F1 gNum)) (B : Bf) (n0 n1 n2 n3 : Int) (hB : bufOK B = true) (hcb : CpX) (hz : ExpX) : ISpec Tryz.prog 53 [bfA 0 B, acA 0 ⟨2, [n0, n1, n2, n3]⟩] [] (fun r L' => AK L' r (appF B ⟨2, [n0, n1, n2, n3]⟩)) := by
  refine ISpec.intro Tryz.func53 rfl (vc3_sound Tryz.pf hS hS _ _ _ ?_)
  have hbb := bfB_of hB
  have hd : doneO B ⟨2, [n0, n1, n2, n3]⟩ = expPO B n0 0 ⟨n1, n2, n3, true, true⟩ := rfl
  have q := hz B n0 0 ⟨n1, n2, n3, true, true⟩ hbb
  cases e : expPO B n0 0 ⟨n1, n2, n3, true, true⟩ with
  | none =>
    rw [e] at q hd
    rw [appF_no hd]
    repeat' (first | with_reducible first | refine kI (by kernel_rfl) ?_ | simp -implicitDefEqProofs (disch := omega) only [go_sem, Nat.reduceAdd, Nat.reduceSub, reduceCtorEq, Nat.reduceLT, Nat.reduceLeDiff, Nat.reduceEqDiff, Nat.reduceMul, Int.reduceToNat, ↓reduceIte, List.take_of_length_le, if_pos, if_neg, List.getElem?_set_self, List.set_set, getD_exs, cnE, cnV, Tryz.ntmps53, Tryz.results53])
    refine DrawQ.any2 [([0, 1, 2, 3, 4, 5, 6, 7, 8, 9, 10, 11, 12, 13, 14, 15, 16, 17], 18, []), ([19, 20, 21], 22, [21])] [23] [21] (by kernel_rfl) ?_
    repeat' (first | with_reducible first | refine kI (by kernel_rfl) ?_ | simp -implicitDefEqProofs (disch := omega) only [go_sem, Nat.reduceAdd, Nat.reduceSub, reduceCtorEq, Nat.reduceLT, Nat.reduceLeDiff, Nat.reduceEqDiff, Nat.reduceMul, Int.reduceToNat, ↓reduceIte, List.take_of_length_le, if_pos, if_neg, List.getElem?_set_self, List.set_set, getD_exs, cnE, cnV, Tryz.ntmps53, Tryz.results53,  m1, opQ_none])
    refine InlK_intro rfl rfl can_ExportPartI (callF q (by simp only [go_sem, ints]) ?_)
    intro r N hr
    have e2 := HO.frame (L := [⟨2, [bfA 0 B]⟩, ⟨2, [acA 0 ⟨2, [n0, n1, n2, n3]⟩]⟩, ⟨2, [.agg [.nilS, .nilS]]⟩, ⟨2, [.agg [.nilS, .nilS]]⟩]) hr
    simp only [HO] at e2
    rw [e2]
    generalize N.map (ownB ([⟨2, [bfA 0 B]⟩, ⟨2, [acA 0 ⟨2, [n0, n1, n2, n3]⟩]⟩, ⟨2, [.agg [.nilS, .nilS]]⟩, ⟨2, [.agg [.nilS, .nilS]]⟩] : List Blk).length) = Z at *
    repeat' (first | with_reducible first | refine kI (by kernel_rfl) ?_ | simp -implicitDefEqProofs (disch := omega) only [go_sem, Nat.reduceAdd, Nat.reduceSub, reduceCtorEq, Nat.reduceLT, Nat.reduceLeDiff, Nat.reduceEqDiff, Nat.reduceMul, Int.reduceToNat, ↓reduceIte, List.take_of_length_le, if_pos, if_neg, List.getElem?_set_self, List.set_set, getD_exs, cnE, cnV, Tryz.ntmps53, Tryz.results53,  m9, opQ_none])
    refine InlK_intro rfl rfl can_copyBufferI (callF (hcb B (bfM_of hB)) (by simp only [go_sem, ints]) ?_)
    intro v N2 hv
    obtain ⟨i, be, js, xl, e3, hx, hbd⟩ := HB.frame (L := (⟨2, [bfA 0 B]⟩ :: ⟨2, [acA 0 ⟨2, [n0, n1, n2, n3]⟩]⟩ :: ⟨2, [.agg [.nilS, .nilS]]⟩ :: ⟨2, [.agg [.nilS, .nilS]]⟩ :: Z : List Blk)) hv
    rw [e3]
    generalize N2.map (ownB (⟨2, [bfA 0 B]⟩ :: ⟨2, [acA 0 ⟨2, [n0, n1, n2, n3]⟩]⟩ :: ⟨2, [.agg [.nilS, .nilS]]⟩ :: ⟨2, [.agg [.nilS, .nilS]]⟩ :: Z : List Blk).length) = Z2 at *
    have hcell := hx.x.cell
    repeat' (first | with_reducible first | refine kI (by kernel_rfl) ?_ | simp -implicitDefEqProofs (disch := omega) only [go_sem, Nat.reduceAdd, Nat.reduceSub, reduceCtorEq, Nat.reduceLT, Nat.reduceLeDiff, Nat.reduceEqDiff, Nat.reduceMul, Int.reduceToNat, ↓reduceIte, List.take_of_length_le, if_pos, if_neg, List.getElem?_set_self, List.set_set, getD_exs, cnE, cnV, Tryz.ntmps53, Tryz.results53,  hcell])
    exact ⟨_, rfl, HB.fin (P := [_, _, _, _]) (P' := [_, _, _, _]) (Y := Z ++ Z2) ⟨i, be, js, xl, rfl, hx, fun b hb => ⟨(hbd b hb).1, hx.lt b hb⟩⟩ (by simp) rfl (by simp only [List.length_append, List.length_cons, List.length_nil]; omega)⟩
  | some B' =>
    rw [e] at q hd
    have h8 := (bufOK_iff.1 (ok_done hB hd)).2.1
    rw [appF_at hd (show (2 : Int) = 1 ∨ (2 : Int) = 2 ∨ (2 : Int) = 3 by decide)]
    have hwr : IntKind.i64.wrap ((B'.e.length : Int) - 1) = (B'.e.length : Int) - 1 := wrap_in (by omega)
    have qi := gNum_eq (n := (B'.e.length : Int) - 1) (by unfold i64R; omega)
    have hnb := numB_len (n := (B'.e.length : Int) - 1) (by unfold i64R; omega)
    have w1 : cAt.size + (numB ((B'.e.length : Int) - 1)).size ≤ 9223372036854775807 := by rw [z_at]; omega
    generalize numB ((B'.e.length : Int) - 1) = S at *
    have hne : B'.e ≠ [] := opt_add (show opt _ (addB B _) = some B' from e)
    repeat' (first | with_reducible first | refine kI (by kernel_rfl) ?_ | simp -implicitDefEqProofs (disch := omega) only [go_sem, Nat.reduceAdd, Nat.reduceSub, reduceCtorEq, Nat.reduceLT, Nat.reduceLeDiff, Nat.reduceEqDiff, Nat.reduceMul, Int.reduceToNat, ↓reduceIte, List.take_of_length_le, if_pos, if_neg, List.getElem?_set_self, List.set_set, getD_exs, cnE, cnV, Tryz.ntmps53, Tryz.results53])
    refine DrawQ.any2 [([0, 1, 2, 3, 4, 5, 6, 7, 8, 9, 10, 11, 12, 13, 14, 15, 16, 17], 18, []), ([19, 20, 21], 22, [21])] [23] [21] (by kernel_rfl) ?_
    repeat' (first | with_reducible first | refine kI (by kernel_rfl) ?_ | simp -implicitDefEqProofs (disch := omega) only [go_sem, Nat.reduceAdd, Nat.reduceSub, reduceCtorEq, Nat.reduceLT, Nat.reduceLeDiff, Nat.reduceEqDiff, Nat.reduceMul, Int.reduceToNat, ↓reduceIte, List.take_of_length_le, if_pos, if_neg, List.getElem?_set_self, List.set_set, getD_exs, cnE, cnV, Tryz.ntmps53, Tryz.results53,  m1, opQ_none])
    refine InlK_intro rfl rfl can_ExportPartI (callF q (by simp only [go_sem, ints]) ?_)
    intro r N hr
    obtain ⟨x, e2, i, be, js, xl, rfl, hx, hbd⟩ := HO.frame (L := [⟨2, [bfA 0 B]⟩, ⟨2, [acA 0 ⟨2, [n0, n1, n2, n3]⟩]⟩, ⟨2, [.agg [.nilS, .nilS]]⟩, ⟨2, [.agg [.nilS, .nilS]]⟩]) hr
    rw [e2]
    generalize N.map (ownB ([⟨2, [bfA 0 B]⟩, ⟨2, [acA 0 ⟨2, [n0, n1, n2, n3]⟩]⟩, ⟨2, [.agg [.nilS, .nilS]]⟩, ⟨2, [.agg [.nilS, .nilS]]⟩] : List Blk).length) = Z at *
    have hcell := hx.x.cell
    obtain ⟨j, E, rfl, rfl, hj, hjE⟩ := hx.sl hne
    have hj4 := (hbd j (by simp)).1
    have yj : ∀ Q1 Q2 : Blk, (⟨2, [bfA 0 B]⟩ :: ⟨2, [acA 0 ⟨2, [n0, n1, n2, n3]⟩]⟩ :: Q1 :: Q2 :: Z)[j]? = some ⟨5, E⟩ := fun Q1 Q2 => get_pre (P' := [_, _, _, _]) hj hj4 rfl
    repeat' (first | with_reducible first | refine kI (by kernel_rfl) ?_ | simp -implicitDefEqProofs (disch := omega) only [go_sem, Nat.reduceAdd, Nat.reduceSub, reduceCtorEq, Nat.reduceLT, Nat.reduceLeDiff, Nat.reduceEqDiff, Nat.reduceMul, Int.reduceToNat, ↓reduceIte, List.take_of_length_le, if_pos, if_neg, List.getElem?_set_self, List.set_set, getD_exs, cnE, cnV, Tryz.ntmps53, Tryz.results53,  hcell])
    refine DrawQ.any [([0, 1, 2, 3, 4, 5, 6], 7)] [8] [6] (by kernel_rfl) ?_
    repeat' (first | with_reducible first | refine kI (by kernel_rfl) ?_ | simp -implicitDefEqProofs (disch := omega) only [go_sem, Nat.reduceAdd, Nat.reduceSub, reduceCtorEq, Nat.reduceLT, Nat.reduceLeDiff, Nat.reduceEqDiff, Nat.reduceMul, Int.reduceToNat, ↓reduceIte, List.take_of_length_le, if_pos, if_neg, List.getElem?_set_self, List.set_set, getD_exs, cnE, cnV, Tryz.ntmps53, Tryz.results53,  yj, hjE, hwr, hi, qi, w1])
    exact ⟨_, rfl, HB.fin (P := [_, _, _, _]) (P' := [_, _, _, _]) (Y := Z) ⟨i, _, _, xl, rfl, hx, fun b hb => ⟨(hbd b hb).1, hx.lt b hb⟩⟩ (Nat.le_refl _) rfl (by simp only [List.length_append, List.length_cons, List.length_nil]; omega)⟩
set_option maxHeartbeats 4000000 in
set_option maxRecDepth 100000 in
theorem isp_appX3 {Sg : FuncId → Option (List AV → Option AV)} (hS : Sound Tryz.prog Sg) (m1 : Sg 93 = none) (m9 : Sg 99 = none) (hi : Sg 63 = some (F1 gNum)) (B : Bf) (n0 : Int) (hB : bufOK B = true) (hcb : CpX) (hz : ExpX) : ISpec Tryz.prog 53 [bfA 0 B, acA 0 ⟨3, [n0]⟩] [] (fun r L' => AK L' r (appF B ⟨3, [n0]⟩)) := by
  refine ISpec.intro Tryz.func53 rfl (vc3_sound Tryz.pf hS hS _ _ _ ?_)
  have hbb := bfB_of hB
  have hd : doneO B ⟨3, [n0]⟩ = expPO B n0 0 flipS := rfl
  have q := hz B n0 0 flipS hbb
  cases e : expPO B n0 0 flipS with
  | none =>
    rw [e] at q hd
    rw [appF_no hd]
    repeat' (first | with_reducible first | refine kI (by kernel_rfl) ?_ | simp -implicitDefEqProofs (disch := omega) only [go_sem, Nat.reduceAdd, Nat.reduceSub, reduceCtorEq, Nat.reduceLT, Nat.reduceLeDiff, Nat.reduceEqDiff, Nat.reduceMul, Int.reduceToNat, ↓reduceIte, List.take_of_length_le, if_pos, if_neg, List.getElem?_set_self, List.set_set, getD_exs, cnE, cnV, Tryz.ntmps53, Tryz.results53])
    refine DrawQ.any2 [([0, 1, 2, 3, 4, 5], 6, []), ([7, 8, 9], 10, [9])] [11] [9] (by kernel_rfl) ?_
    repeat' (first | with_reducible first | refine kI (by kernel_rfl) ?_ | simp -implicitDefEqProofs (disch := omega) only [go_sem, Nat.reduceAdd, Nat.reduceSub, reduceCtorEq, Nat.reduceLT, Nat.reduceLeDiff, Nat.reduceEqDiff, Nat.reduceMul, Int.reduceToNat, ↓reduceIte, List.take_of_length_le, if_pos, if_neg, List.getElem?_set_self, List.set_set, getD_exs, cnE, cnV, Tryz.ntmps53, Tryz.results53,  m1, opQ_none])
    refine InlK_intro rfl rfl can_ExportPartI (callF q (by simp only [go_sem, ints, flipS]) ?_)
    intro r N hr
    have e2 := HO.frame (L := [⟨2, [bfA 0 B]⟩, ⟨2, [acA 0 ⟨3, [n0]⟩]⟩, ⟨2, [.agg [.nilS, .nilS]]⟩, ⟨2, [.agg [.nilS, .nilS]]⟩]) hr
    simp only [HO] at e2
    rw [e2]
    generalize N.map (ownB ([⟨2, [bfA 0 B]⟩, ⟨2, [acA 0 ⟨3, [n0]⟩]⟩, ⟨2, [.agg [.nilS, .nilS]]⟩, ⟨2, [.agg [.nilS, .nilS]]⟩] : List Blk).length) = Z at *
    repeat' (first | with_reducible first | refine kI (by kernel_rfl) ?_ | simp -implicitDefEqProofs (disch := omega) only [go_sem, Nat.reduceAdd, Nat.reduceSub, reduceCtorEq, Nat.reduceLT, Nat.reduceLeDiff, Nat.reduceEqDiff, Nat.reduceMul, Int.reduceToNat, ↓reduceIte, List.take_of_length_le, if_pos, if_neg, List.getElem?_set_self, List.set_set, getD_exs, cnE, cnV, Tryz.ntmps53, Tryz.results53,  m9, opQ_none])
    refine InlK_intro rfl rfl can_copyBufferI (callF (hcb B (bfM_of hB)) (by simp only [go_sem, ints]) ?_)
    intro v N2 hv
    obtain ⟨i, be, js, xl, e3, hx, hbd⟩ := HB.frame (L := (⟨2, [bfA 0 B]⟩ :: ⟨2, [acA 0 ⟨3, [n0]⟩]⟩ :: ⟨2, [.agg [.nilS, .nilS]]⟩ :: ⟨2, [.agg [.nilS, .nilS]]⟩ :: Z : List Blk)) hv
    rw [e3]
    generalize N2.map (ownB (⟨2, [bfA 0 B]⟩ :: ⟨2, [acA 0 ⟨3, [n0]⟩]⟩ :: ⟨2, [.agg [.nilS, .nilS]]⟩ :: ⟨2, [.agg [.nilS, .nilS]]⟩ :: Z : List Blk).length) = Z2 at *
    have hcell := hx.x.cell
    repeat' (first | with_reducible first | refine kI (by kernel_rfl) ?_ | simp -implicitDefEqProofs (disch := omega) only [go_sem, Nat.reduceAdd, Nat.reduceSub, reduceCtorEq, Nat.reduceLT, Nat.reduceLeDiff, Nat.reduceEqDiff, Nat.reduceMul, Int.reduceToNat, ↓reduceIte, List.take_of_length_le, if_pos, if_neg, List.getElem?_set_self, List.set_set, getD_exs, cnE, cnV, Tryz.ntmps53, Tryz.results53,  hcell])
    exact ⟨_, rfl, HB.fin (P := [_, _, _, _]) (P' := [_, _, _, _]) (Y := Z ++ Z2) ⟨i, be, js, xl, rfl, hx, fun b hb => ⟨(hbd b hb).1, hx.lt b hb⟩⟩ (by simp) rfl (by simp only [List.length_append, List.length_cons, List.length_nil]; omega)⟩
  | some B' =>
    rw [e] at q hd
    have h8 := (bufOK_iff.1 (ok_done hB hd)).2.1
    rw [appF_at hd (show (3 : Int) = 1 ∨ (3 : Int) = 2 ∨ (3 : Int) = 3 by decide)]
    have hwr : IntKind.i64.wrap ((B'.e.length : Int) - 1) = (B'.e.length : Int) - 1 := wrap_in (by omega)
    have qi := gNum_eq (n := (B'.e.length : Int) - 1) (by unfold i64R; omega)
    have hnb := numB_len (n := (B'.e.length : Int) - 1) (by unfold i64R; omega)
    have w1 : cAt.size + (numB ((B'.e.length : Int) - 1)).size ≤ 9223372036854775807 := by rw [z_at]; omega
    generalize numB ((B'.e.length : Int) - 1) = S at *
    have hne : B'.e ≠ [] := opt_add (show opt _ (addB B _) = some B' from e)
    repeat' (first | with_reducible first | refine kI (by kernel_rfl) ?_ | simp -implicitDefEqProofs (disch := omega) only [go_sem, Nat.reduceAdd, Nat.reduceSub, reduceCtorEq, Nat.reduceLT, Nat.reduceLeDiff, Nat.reduceEqDiff, Nat.reduceMul, Int.reduceToNat, ↓reduceIte, List.take_of_length_le, if_pos, if_neg, List.getElem?_set_self, List.set_set, getD_exs, cnE, cnV, Tryz.ntmps53, Tryz.results53])
    refine DrawQ.any2 [([0, 1, 2, 3, 4, 5], 6, []), ([7, 8, 9], 10, [9])] [11] [9] (by kernel_rfl) ?_
    repeat' (first | with_reducible first | refine kI (by kernel_rfl) ?_ | simp -implicitDefEqProofs (disch := omega) only [go_sem, Nat.reduceAdd, Nat.reduceSub, reduceCtorEq, Nat.reduceLT, Nat.reduceLeDiff, Nat.reduceEqDiff, Nat.reduceMul, Int.reduceToNat, ↓reduceIte, List.take_of_length_le, if_pos, if_neg, List.getElem?_set_self, List.set_set, getD_exs, cnE, cnV, Tryz.ntmps53, Tryz.results53,  m1, opQ_none])
    refine InlK_intro rfl rfl can_ExportPartI (callF q (by simp only [go_sem, ints, flipS]) ?_)
    intro r N hr
    obtain ⟨x, e2, i, be, js, xl, rfl, hx, hbd⟩ := HO.frame (L := [⟨2, [bfA 0 B]⟩, ⟨2, [acA 0 ⟨3, [n0]⟩]⟩, ⟨2, [.agg [.nilS, .nilS]]⟩, ⟨2, [.agg [.nilS, .nilS]]⟩]) hr
    rw [e2]
    generalize N.map (ownB ([⟨2, [bfA 0 B]⟩, ⟨2, [acA 0 ⟨3, [n0]⟩]⟩, ⟨2, [.agg [.nilS, .nilS]]⟩, ⟨2, [.agg [.nilS, .nilS]]⟩] : List Blk).length) = Z at *
    have hcell := hx.x.cell
    obtain ⟨j, E, rfl, rfl, hj, hjE⟩ := hx.sl hne
    have hj4 := (hbd j (by simp)).1
    have yj : ∀ Q1 Q2 : Blk, (⟨2, [bfA 0 B]⟩ :: ⟨2, [acA 0 ⟨3, [n0]⟩]⟩ :: Q1 :: Q2 :: Z)[j]? = some ⟨5, E⟩ := fun Q1 Q2 => get_pre (P' := [_, _, _, _]) hj hj4 rfl
    repeat' (first | with_reducible first | refine kI (by kernel_rfl) ?_ | simp -implicitDefEqProofs (disch := omega) only [go_sem, Nat.reduceAdd, Nat.reduceSub, reduceCtorEq, Nat.reduceLT, Nat.reduceLeDiff, Nat.reduceEqDiff, Nat.reduceMul, Int.reduceToNat, ↓reduceIte, List.take_of_length_le, if_pos, if_neg, List.getElem?_set_self, List.set_set, getD_exs, cnE, cnV, Tryz.ntmps53, Tryz.results53,  hcell])
    refine DrawQ.any [([0, 1, 2, 3, 4, 5, 6], 7)] [8] [6] (by kernel_rfl) ?_
    repeat' (first | with_reducible first | refine kI (by kernel_rfl) ?_ | simp -implicitDefEqProofs (disch := omega) only [go_sem, Nat.reduceAdd, Nat.reduceSub, reduceCtorEq, Nat.reduceLT, Nat.reduceLeDiff, Nat.reduceEqDiff, Nat.reduceMul, Int.reduceToNat, ↓reduceIte, List.take_of_length_le, if_pos, if_neg, List.getElem?_set_self, List.set_set, getD_exs, cnE, cnV, Tryz.ntmps53, Tryz.results53,  yj, hjE, hwr, hi, qi, w1])
    exact ⟨_, rfl, HB.fin (P := [_, _, _, _]) (P' := [_, _, _, _]) (Y := Z) ⟨i, _, _, xl, rfl, hx, fun b hb => ⟨(hbd b hb).1, hx.lt b hb⟩⟩ (Nat.le_refl _) rfl (by simp only [List.length_append, List.length_cons, List.length_nil]; omega)⟩
set_option maxHeartbeats 4000000 in
set_option maxRecDepth 100000 in
theorem isp_appX4 {Sg : FuncId → Option (List AV → Option AV)} (hS : Sound Tryz.prog Sg) (m1 : Sg 94 = none) (m9 : Sg 99 = none) (B : Bf) (n0 n1 : Int) (hB : bufOK B = true) (hcb : CpX) (hz : FilX) : ISpec Tryz.prog 53 [bfA 0 B, acA 0 ⟨4, [n0, n1]⟩] [] (fun r L' => AK L' r (appF B ⟨4, [n0, n1]⟩)) := by
  refine ISpec.intro Tryz.func53 rfl (vc3_sound Tryz.pf hS hS _ _ _ ?_)
  have hbb := bfB_of hB
  have hd : doneO B ⟨4, [n0, n1]⟩ = filXO B n0 n1 := rfl
  have q := hz B n0 n1 hbb
  cases e : filXO B n0 n1 with
  | none =>
    rw [e] at q hd
    rw [appF_no hd]
    repeat' (first | with_reducible first | refine kI (by kernel_rfl) ?_ | simp -implicitDefEqProofs (disch := omega) only [go_sem, Nat.reduceAdd, Nat.reduceSub, reduceCtorEq, Nat.reduceLT, Nat.reduceLeDiff, Nat.reduceEqDiff, Nat.reduceMul, Int.reduceToNat, ↓reduceIte, List.take_of_length_le, if_pos, if_neg, List.getElem?_set_self, List.set_set, getD_exs, cnE, cnV, Tryz.ntmps53, Tryz.results53])
    refine DrawQ.any2 [([0, 1, 2, 3, 4, 5, 6, 7, 8], 9, []), ([10, 11, 12], 13, [12])] [14] [12] (by kernel_rfl) ?_
    repeat' (first | with_reducible first | refine kI (by kernel_rfl) ?_ | simp -implicitDefEqProofs (disch := omega) only [go_sem, Nat.reduceAdd, Nat.reduceSub, reduceCtorEq, Nat.reduceLT, Nat.reduceLeDiff, Nat.reduceEqDiff, Nat.reduceMul, Int.reduceToNat, ↓reduceIte, List.take_of_length_le, if_pos, if_neg, List.getElem?_set_self, List.set_set, getD_exs, cnE, cnV, Tryz.ntmps53, Tryz.results53,  m1, opQ_none])
    refine InlK_intro rfl rfl can_FillExportI (callF q (by simp only [go_sem, ints]) ?_)
    intro r N hr
    have e2 := HO.frame (L := [⟨2, [bfA 0 B]⟩, ⟨2, [acA 0 ⟨4, [n0, n1]⟩]⟩, ⟨2, [.agg [.nilS, .nilS]]⟩, ⟨2, [.agg [.nilS, .nilS]]⟩]) hr
    simp only [HO] at e2
    rw [e2]
    generalize N.map (ownB ([⟨2, [bfA 0 B]⟩, ⟨2, [acA 0 ⟨4, [n0, n1]⟩]⟩, ⟨2, [.agg [.nilS, .nilS]]⟩, ⟨2, [.agg [.nilS, .nilS]]⟩] : List Blk).length) = Z at *
    repeat' (first | with_reducible first | refine kI (by kernel_rfl) ?_ | simp -implicitDefEqProofs (disch := omega) only [go_sem, Nat.reduceAdd, Nat.reduceSub, reduceCtorEq, Nat.reduceLT, Nat.reduceLeDiff, Nat.reduceEqDiff, Nat.reduceMul, Int.reduceToNat, ↓reduceIte, List.take_of_length_le, if_pos, if_neg, List.getElem?_set_self, List.set_set, getD_exs, cnE, cnV, Tryz.ntmps53, Tryz.results53,  m9, opQ_none])
    refine InlK_intro rfl rfl can_copyBufferI (callF (hcb B (bfM_of hB)) (by simp only [go_sem, ints]) ?_)
    intro v N2 hv
    obtain ⟨i, be, js, xl, e3, hx, hbd⟩ := HB.frame (L := (⟨2, [bfA 0 B]⟩ :: ⟨2, [acA 0 ⟨4, [n0, n1]⟩]⟩ :: ⟨2, [.agg [.nilS, .nilS]]⟩ :: ⟨2, [.agg [.nilS, .nilS]]⟩ :: Z : List Blk)) hv
    rw [e3]
    generalize N2.map (ownB (⟨2, [bfA 0 B]⟩ :: ⟨2, [acA 0 ⟨4, [n0, n1]⟩]⟩ :: ⟨2, [.agg [.nilS, .nilS]]⟩ :: ⟨2, [.agg [.nilS, .nilS]]⟩ :: Z : List Blk).length) = Z2 at *
    have hcell := hx.x.cell
    repeat' (first | with_reducible first | refine kI (by kernel_rfl) ?_ | simp -implicitDefEqProofs (disch := omega) only [go_sem, Nat.reduceAdd, Nat.reduceSub, reduceCtorEq, Nat.reduceLT, Nat.reduceLeDiff, Nat.reduceEqDiff, Nat.reduceMul, Int.reduceToNat, ↓reduceIte, List.take_of_length_le, if_pos, if_neg, List.getElem?_set_self, List.set_set, getD_exs, cnE, cnV, Tryz.ntmps53, Tryz.results53,  hcell])
    exact ⟨_, rfl, HB.fin (P := [_, _, _, _]) (P' := [_, _, _, _]) (Y := Z ++ Z2) ⟨i, be, js, xl, rfl, hx, fun b hb => ⟨(hbd b hb).1, hx.lt b hb⟩⟩ (by simp) rfl (by simp only [List.length_append, List.length_cons, List.length_nil]; omega)⟩
  | some B' =>
    rw [e] at q hd
    rw [appF_do hd (show (4 : Int) ≠ 6 by decide) (show ¬ ((4 : Int) = 1 ∨ (4 : Int) = 2 ∨ (4 : Int) = 3) by decide)]
    repeat' (first | with_reducible first | refine kI (by kernel_rfl) ?_ | simp -implicitDefEqProofs (disch := omega) only [go_sem, Nat.reduceAdd, Nat.reduceSub, reduceCtorEq, Nat.reduceLT, Nat.reduceLeDiff, Nat.reduceEqDiff, Nat.reduceMul, Int.reduceToNat, ↓reduceIte, List.take_of_length_le, if_pos, if_neg, List.getElem?_set_self, List.set_set, getD_exs, cnE, cnV, Tryz.ntmps53, Tryz.results53])
    refine DrawQ.any2 [([0, 1, 2, 3, 4, 5, 6, 7, 8], 9, []), ([10, 11, 12], 13, [12])] [14] [12] (by kernel_rfl) ?_
    repeat' (first | with_reducible first | refine kI (by kernel_rfl) ?_ | simp -implicitDefEqProofs (disch := omega) only [go_sem, Nat.reduceAdd, Nat.reduceSub, reduceCtorEq, Nat.reduceLT, Nat.reduceLeDiff, Nat.reduceEqDiff, Nat.reduceMul, Int.reduceToNat, ↓reduceIte, List.take_of_length_le, if_pos, if_neg, List.getElem?_set_self, List.set_set, getD_exs, cnE, cnV, Tryz.ntmps53, Tryz.results53,  m1, opQ_none])
    refine InlK_intro rfl rfl can_FillExportI (callF q (by simp only [go_sem, ints]) ?_)
    intro r N hr
    obtain ⟨x, e2, i, be, js, xl, rfl, hx, hbd⟩ := HO.frame (L := [⟨2, [bfA 0 B]⟩, ⟨2, [acA 0 ⟨4, [n0, n1]⟩]⟩, ⟨2, [.agg [.nilS, .nilS]]⟩, ⟨2, [.agg [.nilS, .nilS]]⟩]) hr
    rw [e2]
    generalize N.map (ownB ([⟨2, [bfA 0 B]⟩, ⟨2, [acA 0 ⟨4, [n0, n1]⟩]⟩, ⟨2, [.agg [.nilS, .nilS]]⟩, ⟨2, [.agg [.nilS, .nilS]]⟩] : List Blk).length) = Z at *
    have hcell := hx.x.cell
    repeat' (first | with_reducible first | refine kI (by kernel_rfl) ?_ | simp -implicitDefEqProofs (disch := omega) only [go_sem, Nat.reduceAdd, Nat.reduceSub, reduceCtorEq, Nat.reduceLT, Nat.reduceLeDiff, Nat.reduceEqDiff, Nat.reduceMul, Int.reduceToNat, ↓reduceIte, List.take_of_length_le, if_pos, if_neg, List.getElem?_set_self, List.set_set, getD_exs, cnE, cnV, Tryz.ntmps53, Tryz.results53,  hcell])
    exact ⟨_, rfl, HB.fin (P := [_, _, _, _]) (P' := [_, _, _, _]) (Y := Z) ⟨i, _, _, xl, rfl, hx, fun b hb => ⟨(hbd b hb).1, hx.lt b hb⟩⟩ (Nat.le_refl _) rfl (by simp only [List.length_append, List.length_cons, List.length_nil]; omega)⟩
set_option maxHeartbeats 4000000 in
set_option maxRecDepth 100000 in
theorem isp_appX5 {Sg : FuncId → Option (List AV → Option AV)} (hS : Sound Tryz.prog Sg) (m1 : Sg 95 = none) (m9 : Sg 99 = none) (B : Bf) (n0 n1 : Int) (hB : bufOK B = true) (hcb : CpX) (hz : CpyX) : ISpec Tryz.prog 53 [bfA 0 B, acA 0 ⟨5, [n0, n1]⟩] [] (fun r L' => AK L' r (appF B ⟨5, [n0, n1]⟩)) := by
  refine ISpec.intro Tryz.func53 rfl (vc3_sound Tryz.pf hS hS _ _ _ ?_)
  have hbb := bfB_of hB
  have hd : doneO B ⟨5, [n0, n1]⟩ = cpyXO B n0 n1 := rfl
  have q := hz B n0 n1 hbb
  cases e : cpyXO B n0 n1 with
  | none =>
    rw [e] at q hd
    rw [appF_no hd]
    repeat' (first | with_reducible first | refine kI (by kernel_rfl) ?_ | simp -implicitDefEqProofs (disch := omega) only [go_sem, Nat.reduceAdd, Nat.reduceSub, reduceCtorEq, Nat.reduceLT, Nat.reduceLeDiff, Nat.reduceEqDiff, Nat.reduceMul, Int.reduceToNat, ↓reduceIte, List.take_of_length_le, if_pos, if_neg, List.getElem?_set_self, List.set_set, getD_exs, cnE, cnV, Tryz.ntmps53, Tryz.results53])
    refine DrawQ.any2 [([0, 1, 2, 3, 4, 5, 6, 7, 8], 9, []), ([10, 11, 12], 13, [12])] [14] [12] (by kernel_rfl) ?_
    repeat' (first | with_reducible first | refine kI (by kernel_rfl) ?_ | simp -implicitDefEqProofs (disch := omega) only [go_sem, Nat.reduceAdd, Nat.reduceSub, reduceCtorEq, Nat.reduceLT, Nat.reduceLeDiff, Nat.reduceEqDiff, Nat.reduceMul, Int.reduceToNat, ↓reduceIte, List.take_of_length_le, if_pos, if_neg, List.getElem?_set_self, List.set_set, getD_exs, cnE, cnV, Tryz.ntmps53, Tryz.results53,  m1, opQ_none])
    refine InlK_intro rfl rfl can_CopyExportI (callF q (by simp only [go_sem, ints]) ?_)
    intro r N hr
    have e2 := HO.frame (L := [⟨2, [bfA 0 B]⟩, ⟨2, [acA 0 ⟨5, [n0, n1]⟩]⟩, ⟨2, [.agg [.nilS, .nilS]]⟩, ⟨2, [.agg [.nilS, .nilS]]⟩]) hr
    simp only [HO] at e2
    rw [e2]
    generalize N.map (ownB ([⟨2, [bfA 0 B]⟩, ⟨2, [acA 0 ⟨5, [n0, n1]⟩]⟩, ⟨2, [.agg [.nilS, .nilS]]⟩, ⟨2, [.agg [.nilS, .nilS]]⟩] : List Blk).length) = Z at *
    repeat' (first | with_reducible first | refine kI (by kernel_rfl) ?_ | simp -implicitDefEqProofs (disch := omega) only [go_sem, Nat.reduceAdd, Nat.reduceSub, reduceCtorEq, Nat.reduceLT, Nat.reduceLeDiff, Nat.reduceEqDiff, Nat.reduceMul, Int.reduceToNat, ↓reduceIte, List.take_of_length_le, if_pos, if_neg, List.getElem?_set_self, List.set_set, getD_exs, cnE, cnV, Tryz.ntmps53, Tryz.results53,  m9, opQ_none])
    refine InlK_intro rfl rfl can_copyBufferI (callF (hcb B (bfM_of hB)) (by simp only [go_sem, ints]) ?_)
    intro v N2 hv
    obtain ⟨i, be, js, xl, e3, hx, hbd⟩ := HB.frame (L := (⟨2, [bfA 0 B]⟩ :: ⟨2, [acA 0 ⟨5, [n0, n1]⟩]⟩ :: ⟨2, [.agg [.nilS, .nilS]]⟩ :: ⟨2, [.agg [.nilS, .nilS]]⟩ :: Z : List Blk)) hv
    rw [e3]
    generalize N2.map (ownB (⟨2, [bfA 0 B]⟩ :: ⟨2, [acA 0 ⟨5, [n0, n1]⟩]⟩ :: ⟨2, [.agg [.nilS, .nilS]]⟩ :: ⟨2, [.agg [.nilS, .nilS]]⟩ :: Z : List Blk).length) = Z2 at *
    have hcell := hx.x.cell
    repeat' (first | with_reducible first | refine kI (by kernel_rfl) ?_ | simp -implicitDefEqProofs (disch := omega) only [go_sem, Nat.reduceAdd, Nat.reduceSub, reduceCtorEq, Nat.reduceLT, Nat.reduceLeDiff, Nat.reduceEqDiff, Nat.reduceMul, Int.reduceToNat, ↓reduceIte, List.take_of_length_le, if_pos, if_neg, List.getElem?_set_self, List.set_set, getD_exs, cnE, cnV, Tryz.ntmps53, Tryz.results53,  hcell])
    exact ⟨_, rfl, HB.fin (P := [_, _, _, _]) (P' := [_, _, _, _]) (Y := Z ++ Z2) ⟨i, be, js, xl, rfl, hx, fun b hb => ⟨(hbd b hb).1, hx.lt b hb⟩⟩ (by simp) rfl (by simp only [List.length_append, List.length_cons, List.length_nil]; omega)⟩
  | some B' =>
    rw [e] at q hd
    rw [appF_do hd (show (5 : Int) ≠ 6 by decide) (show ¬ ((5 : Int) = 1 ∨ (5 : Int) = 2 ∨ (5 : Int) = 3) by decide)]
    repeat' (first | with_reducible first | refine kI (by kernel_rfl) ?_ | simp -implicitDefEqProofs (disch := omega) only [go_sem, Nat.reduceAdd, Nat.reduceSub, reduceCtorEq, Nat.reduceLT, Nat.reduceLeDiff, Nat.reduceEqDiff, Nat.reduceMul, Int.reduceToNat, ↓reduceIte, List.take_of_length_le, if_pos, if_neg, List.getElem?_set_self, List.set_set, getD_exs, cnE, cnV, Tryz.ntmps53, Tryz.results53])
    refine DrawQ.any2 [([0, 1, 2, 3, 4, 5, 6, 7, 8], 9, []), ([10, 11, 12], 13, [12])] [14] [12] (by kernel_rfl) ?_
    repeat' (first | with_reducible first | refine kI (by kernel_rfl) ?_ | simp -implicitDefEqProofs (disch := omega) only [go_sem, Nat.reduceAdd, Nat.reduceSub, reduceCtorEq, Nat.reduceLT, Nat.reduceLeDiff, Nat.reduceEqDiff, Nat.reduceMul, Int.reduceToNat, ↓reduceIte, List.take_of_length_le, if_pos, if_neg, List.getElem?_set_self, List.set_set, getD_exs, cnE, cnV, Tryz.ntmps53, Tryz.results53,  m1, opQ_none])
    refine InlK_intro rfl rfl can_CopyExportI (callF q (by simp only [go_sem, ints]) ?_)
    intro r N hr
    obtain ⟨x, e2, i, be, js, xl, rfl, hx, hbd⟩ := HO.frame (L := [⟨2, [bfA 0 B]⟩, ⟨2, [acA 0 ⟨5, [n0, n1]⟩]⟩, ⟨2, [.agg [.nilS, .nilS]]⟩, ⟨2, [.agg [.nilS, .nilS]]⟩]) hr
    rw [e2]
    generalize N.map (ownB ([⟨2, [bfA 0 B]⟩, ⟨2, [acA 0 ⟨5, [n0, n1]⟩]⟩, ⟨2, [.agg [.nilS, .nilS]]⟩, ⟨2, [.agg [.nilS, .nilS]]⟩] : List Blk).length) = Z at *
    have hcell := hx.x.cell
    repeat' (first | with_reducible first | refine kI (by kernel_rfl) ?_ | simp -implicitDefEqProofs (disch := omega) only [go_sem, Nat.reduceAdd, Nat.reduceSub, reduceCtorEq, Nat.reduceLT, Nat.reduceLeDiff, Nat.reduceEqDiff, Nat.reduceMul, Int.reduceToNat, ↓reduceIte, List.take_of_length_le, if_pos, if_neg, List.getElem?_set_self, List.set_set, getD_exs, cnE, cnV, Tryz.ntmps53, Tryz.results53,  hcell])
    exact ⟨_, rfl, HB.fin (P := [_, _, _, _]) (P' := [_, _, _, _]) (Y := Z) ⟨i, _, _, xl, rfl, hx, fun b hb => ⟨(hbd b hb).1, hx.lt b hb⟩⟩ (Nat.le_refl _) rfl (by simp only [List.length_append, List.length_cons, List.length_nil]; omega)⟩
set_option maxHeartbeats 4000000 in
set_option maxRecDepth 100000 in
theorem isp_appX7 {Sg : FuncId → Option (List AV → Option AV)} (hS : Sound Tryz.prog Sg) (m1 : Sg 96 = none) (m9 : Sg 99 = none) (B : Bf) (n0 : Int) (hB : bufOK B = true) (hcb : CpX) (hz : RelX) : ISpec Tryz.prog 53 [bfA 0 B, acA 0 ⟨7, [n0]⟩] [] (fun r L' => AK L' r (appF B ⟨7, [n0]⟩)) := by
  refine ISpec.intro Tryz.func53 rfl (vc3_sound Tryz.pf hS hS _ _ _ ?_)
  have hbb := bfB_of hB
  have hd : doneO B ⟨7, [n0]⟩ = relXO B n0 := rfl
  have q := hz B n0 hbb
  cases e : relXO B n0 with
  | none =>
    rw [e] at q hd
    rw [appF_no hd]
    repeat' (first | with_reducible first | refine kI (by kernel_rfl) ?_ | simp -implicitDefEqProofs (disch := omega) only [go_sem, Nat.reduceAdd, Nat.reduceSub, reduceCtorEq, Nat.reduceLT, Nat.reduceLeDiff, Nat.reduceEqDiff, Nat.reduceMul, Int.reduceToNat, ↓reduceIte, List.take_of_length_le, if_pos, if_neg, List.getElem?_set_self, List.set_set, getD_exs, cnE, cnV, Tryz.ntmps53, Tryz.results53])
    refine DrawQ.any2 [([0, 1, 2, 3, 4], 5, []), ([6, 7, 8], 9, [8])] [10] [8] (by kernel_rfl) ?_
    repeat' (first | with_reducible first | refine kI (by kernel_rfl) ?_ | simp -implicitDefEqProofs (disch := omega) only [go_sem, Nat.reduceAdd, Nat.reduceSub, reduceCtorEq, Nat.reduceLT, Nat.reduceLeDiff, Nat.reduceEqDiff, Nat.reduceMul, Int.reduceToNat, ↓reduceIte, List.take_of_length_le, if_pos, if_neg, List.getElem?_set_self, List.set_set, getD_exs, cnE, cnV, Tryz.ntmps53, Tryz.results53,  m1, opQ_none])
    refine InlK_intro rfl rfl can_ReleaseExportI (callF q (by simp only [go_sem, ints]) ?_)
    intro r N hr
    have e2 := HO.frame (L := [⟨2, [bfA 0 B]⟩, ⟨2, [acA 0 ⟨7, [n0]⟩]⟩, ⟨2, [.agg [.nilS, .nilS]]⟩, ⟨2, [.agg [.nilS, .nilS]]⟩]) hr
    simp only [HO] at e2
    rw [e2]
    generalize N.map (ownB ([⟨2, [bfA 0 B]⟩, ⟨2, [acA 0 ⟨7, [n0]⟩]⟩, ⟨2, [.agg [.nilS, .nilS]]⟩, ⟨2, [.agg [.nilS, .nilS]]⟩] : List Blk).length) = Z at *
    repeat' (first | with_reducible first | refine kI (by kernel_rfl) ?_ | simp -implicitDefEqProofs (disch := omega) only [go_sem, Nat.reduceAdd, Nat.reduceSub, reduceCtorEq, Nat.reduceLT, Nat.reduceLeDiff, Nat.reduceEqDiff, Nat.reduceMul, Int.reduceToNat, ↓reduceIte, List.take_of_length_le, if_pos, if_neg, List.getElem?_set_self, List.set_set, getD_exs, cnE, cnV, Tryz.ntmps53, Tryz.results53,  m9, opQ_none])
    refine InlK_intro rfl rfl can_copyBufferI (callF (hcb B (bfM_of hB)) (by simp only [go_sem, ints]) ?_)
    intro v N2 hv
    obtain ⟨i, be, js, xl, e3, hx, hbd⟩ := HB.frame (L := (⟨2, [bfA 0 B]⟩ :: ⟨2, [acA 0 ⟨7, [n0]⟩]⟩ :: ⟨2, [.agg [.nilS, .nilS]]⟩ :: ⟨2, [.agg [.nilS, .nilS]]⟩ :: Z : List Blk)) hv
    rw [e3]
    generalize N2.map (ownB (⟨2, [bfA 0 B]⟩ :: ⟨2, [acA 0 ⟨7, [n0]⟩]⟩ :: ⟨2, [.agg [.nilS, .nilS]]⟩ :: ⟨2, [.agg [.nilS, .nilS]]⟩ :: Z : List Blk).length) = Z2 at *
    have hcell := hx.x.cell
    repeat' (first | with_reducible first | refine kI (by kernel_rfl) ?_ | simp -implicitDefEqProofs (disch := omega) only [go_sem, Nat.reduceAdd, Nat.reduceSub, reduceCtorEq, Nat.reduceLT, Nat.reduceLeDiff, Nat.reduceEqDiff, Nat.reduceMul, Int.reduceToNat, ↓reduceIte, List.take_of_length_le, if_pos, if_neg, List.getElem?_set_self, List.set_set, getD_exs, cnE, cnV, Tryz.ntmps53, Tryz.results53,  hcell])
    exact ⟨_, rfl, HB.fin (P := [_, _, _, _]) (P' := [_, _, _, _]) (Y := Z ++ Z2) ⟨i, be, js, xl, rfl, hx, fun b hb => ⟨(hbd b hb).1, hx.lt b hb⟩⟩ (by simp) rfl (by simp only [List.length_append, List.length_cons, List.length_nil]; omega)⟩
  | some B' =>
    rw [e] at q hd
    rw [appF_do hd (show (7 : Int) ≠ 6 by decide) (show ¬ ((7 : Int) = 1 ∨ (7 : Int) = 2 ∨ (7 : Int) = 3) by decide)]
    repeat' (first | with_reducible first | refine kI (by kernel_rfl) ?_ | simp -implicitDefEqProofs (disch := omega) only [go_sem, Nat.reduceAdd, Nat.reduceSub, reduceCtorEq, Nat.reduceLT, Nat.reduceLeDiff, Nat.reduceEqDiff, Nat.reduceMul, Int.reduceToNat, ↓reduceIte, List.take_of_length_le, if_pos, if_neg, List.getElem?_set_self, List.set_set, getD_exs, cnE, cnV, Tryz.ntmps53, Tryz.results53])
    refine DrawQ.any2 [([0, 1, 2, 3, 4], 5, []), ([6, 7, 8], 9, [8])] [10] [8] (by kernel_rfl) ?_
    repeat' (first | with_reducible first | refine kI (by kernel_rfl) ?_ | simp -implicitDefEqProofs (disch := omega) only [go_sem, Nat.reduceAdd, Nat.reduceSub, reduceCtorEq, Nat.reduceLT, Nat.reduceLeDiff, Nat.reduceEqDiff, Nat.reduceMul, Int.reduceToNat, ↓reduceIte, List.take_of_length_le, if_pos, if_neg, List.getElem?_set_self, List.set_set, getD_exs, cnE, cnV, Tryz.ntmps53, Tryz.results53,  m1, opQ_none])
    refine InlK_intro rfl rfl can_ReleaseExportI (callF q (by simp only [go_sem, ints]) ?_)
    intro r N hr
    obtain ⟨x, e2, i, be, js, xl, rfl, hx, hbd⟩ := HO.frame (L := [⟨2, [bfA 0 B]⟩, ⟨2, [acA 0 ⟨7, [n0]⟩]⟩, ⟨2, [.agg [.nilS, .nilS]]⟩, ⟨2, [.agg [.nilS, .nilS]]⟩]) hr
    rw [e2]
    generalize N.map (ownB ([⟨2, [bfA 0 B]⟩, ⟨2, [acA 0 ⟨7, [n0]⟩]⟩, ⟨2, [.agg [.nilS, .nilS]]⟩, ⟨2, [.agg [.nilS, .nilS]]⟩] : List Blk).length) = Z at *
    have hcell := hx.x.cell
    repeat' (first | with_reducible first | refine kI (by kernel_rfl) ?_ | simp -implicitDefEqProofs (disch := omega) only [go_sem, Nat.reduceAdd, Nat.reduceSub, reduceCtorEq, Nat.reduceLT, Nat.reduceLeDiff, Nat.reduceEqDiff, Nat.reduceMul, Int.reduceToNat, ↓reduceIte, List.take_of_length_le, if_pos, if_neg, List.getElem?_set_self, List.set_set, getD_exs, cnE, cnV, Tryz.ntmps53, Tryz.results53,  hcell])
    exact ⟨_, rfl, HB.fin (P := [_, _, _, _]) (P' := [_, _, _, _]) (Y := Z) ⟨i, _, _, xl, rfl, hx, fun b hb => ⟨(hbd b hb).1, hx.lt b hb⟩⟩ (Nat.le_refl _) rfl (by simp only [List.length_append, List.length_cons, List.length_nil]; omega)⟩
set_option maxHeartbeats 4000000 in
set_option maxRecDepth 100000 in
theorem isp_appX6f {Sg : FuncId → Option (List AV → Option AV)} (hS : Sound Tryz.prog Sg) (ho : Sg 97 = some (F2 gOpn)) (m9 : Sg 99 = none) (B : Bf) (n0 : Int) (hB : bufOK B = true) (q : gOpn B n0 = some false) (hcb : CpX) : ISpec Tryz.prog 53 [bfA 0 B, acA 0 ⟨6, [n0]⟩] [] (fun r L' => AK L' r (B, cNo)) := by
  refine ISpec.intro Tryz.func53 rfl (vc3_sound Tryz.pf hS hS _ _ _ ?_)
  repeat' (first | with_reducible first | refine kI (by kernel_rfl) ?_ | refine kN (by kernel_rfl) ?_ | simp -implicitDefEqProofs (disch := omega) only [go_sem, Nat.reduceAdd, Nat.reduceSub, reduceCtorEq, Nat.reduceLT, Nat.reduceLeDiff, Nat.reduceEqDiff, Nat.reduceMul, Int.reduceToNat, ↓reduceIte, List.take_of_length_le, if_pos, if_neg, List.getElem?_set_self, List.set_set, getD_exs, cnE, cnV, Tryz.ntmps53, Tryz.results53,  ho, q, m9, opQ_none])
  refine InlK_intro rfl rfl can_copyBufferI (callF (hcb B (bfM_of hB)) (by simp only [go_sem, ints]) ?_)
  intro v N2 hv
  obtain ⟨i, be, js, xl, e3, hx, hbd⟩ := HB.frame (L := [⟨2, [bfA 0 B]⟩, ⟨2, [acA 0 ⟨6, [n0]⟩]⟩, ⟨2, [.agg [.nilS, .nilS]]⟩, ⟨2, [.agg [.nilS, .nilS]]⟩]) hv
  rw [e3]
  generalize N2.map (ownB ([⟨2, [bfA 0 B]⟩, ⟨2, [acA 0 ⟨6, [n0]⟩]⟩, ⟨2, [.agg [.nilS, .nilS]]⟩, ⟨2, [.agg [.nilS, .nilS]]⟩] : List Blk).length) = Z2 at *
  have hcell := hx.x.cell
  repeat' (first | with_reducible first | refine kI (by kernel_rfl) ?_ | simp -implicitDefEqProofs (disch := omega) only [go_sem, Nat.reduceAdd, Nat.reduceSub, reduceCtorEq, Nat.reduceLT, Nat.reduceLeDiff, Nat.reduceEqDiff, Nat.reduceMul, Int.reduceToNat, ↓reduceIte, List.take_of_length_le, if_pos, if_neg, List.getElem?_set_self, List.set_set, getD_exs, cnE, cnV, Tryz.ntmps53, Tryz.results53,  hcell])
  exact ⟨_, rfl, HB.fin (P := [_, _, _, _]) (P' := [_, _, _, _]) (Y := Z2) ⟨i, be, js, xl, rfl, hx, fun b hb => ⟨(hbd b hb).1, hx.lt b hb⟩⟩ (Nat.le_refl _) rfl (by simp only [List.length_append, List.length_cons, List.length_nil]; omega)⟩
set_option maxHeartbeats 4000000 in
set_option maxRecDepth 100000 in
theorem isp_appX6t {Sg : FuncId → Option (List AV → Option AV)} (hS : Sound Tryz.prog Sg) (ho : Sg 97 = some (F2 gOpn)) (hl : Sg 98 = some (F2 gLoadX)) (m9 : Sg 99 = none) (hi : Sg 63 = some (F1 gNum)) (B : Bf) (m : Nat) (T : List Int) (hB : bufOK B = true) (q : gOpn B (m : Int) = some true) (q2 : gLoadX B (m : Int) = some T) (htl : T.length ≤ 60) (htv2 : ∀ x ∈ T, i64R x) (hcb : CpX) : ISpec Tryz.prog 53 [bfA 0 B, acA 0 ⟨6, [(m : Int)]⟩] [] (fun r L' => AK L' r (B, cHas ++ numsB T)) := by
  refine ISpec.intro Tryz.func53 rfl (vc3_sound Tryz.pf hS hS _ _ _ ?_)
  repeat' (first | with_reducible first | refine kI (by kernel_rfl) ?_ | refine kN (by kernel_rfl) ?_ | simp -implicitDefEqProofs (disch := omega) only [go_sem, Nat.reduceAdd, Nat.reduceSub, reduceCtorEq, Nat.reduceLT, Nat.reduceLeDiff, Nat.reduceEqDiff, Nat.reduceMul, Int.reduceToNat, ↓reduceIte, List.take_of_length_le, if_pos, if_neg, List.getElem?_set_self, List.set_set, getD_exs, cnE, cnV, Tryz.ntmps53, Tryz.results53,  ho, q, hl, q2])
  refine LoopQ.mix (fun t0 L0 nn ss => ∃ (j : Nat) (s : ByteArray) (_ : Unit), (∃ x : Nat → AV, ss = ⟨mixL 0 (.k :: .k :: .k :: .k :: .k :: .k :: .k :: .k :: .v (.str s) :: .k :: .s :: .k :: .k :: .k :: .k :: .k :: .k :: .k :: .k :: .k :: .k :: .k :: .k :: .k :: .k :: .k :: .k :: .v (i64 (j : Nat)) :: .s :: .s :: .s :: .s :: .s :: .s :: .s :: .s :: .s :: .k :: .k :: .k :: .k :: .k :: .k :: .k :: .k :: .k :: .k :: .k :: .k :: .k :: .k :: .k :: .k :: .k :: .k :: .k :: .k :: .k :: .k :: .k :: .k :: .k :: .k :: .k :: .k :: .k :: .k :: .k :: .k :: .k :: .k :: .k :: .k :: .k :: .k :: .k :: .k :: .k :: .k :: .k :: .k :: .k :: .k :: .k :: .k :: .k :: .k :: .k :: .k :: .k :: .k :: .k :: .k :: .k :: .k :: .k :: .k :: .k :: .k :: .k :: .k :: .k :: .k :: .k :: .k :: .k :: .k :: .k :: .k :: .k :: .k :: .k :: .k :: .k :: .k :: .k :: .k :: .k :: .k :: .k :: .k :: .k :: .k :: .k :: .k :: .k :: .k :: .k :: .k :: .k :: .k :: .k :: .k :: .k :: .k :: .k :: .k :: .k :: .k :: .k :: .k :: .k :: .k :: .k :: .k :: .k :: .k :: .k :: .k :: .k :: .k :: .k :: .k :: .k :: .k :: .k :: .k :: .k :: .k :: .k :: .k :: .k :: .k :: .k :: .k :: .k :: .k :: .k :: .k :: .k :: .k :: .k :: .k :: .k :: .k :: .k :: .k :: []) t0 x, L0⟩) ∧ (j ≤ T.length) ∧ (s = cHas ++ numsB (T.take j)) ∧ nn = T.length - j) ?_ ?_
  · exact ⟨_, ⟨0, _, (), mixI rfl, Nat.zero_le _, rfl, rfl⟩⟩
  · rintro I0 hI0 nn ss ⟨j, s, _, ⟨y, rfl⟩, g1, g2, rfl⟩
    by_cases hj : j < T.length
    · have hji : (j : Int) < (T.length : Int) := by omega
      have hx := htv2 _ (gmem hj)
      have qn := gNum_eq hx
      have hl := numsB_len (T.take j) fun x hx => htv2 x (List.mem_of_mem_take hx)
      have hsz : s.size = 3 + (numsB (T.take j)).size := by rw [g2, ByteArray.size_append, z_has]
      rw [List.length_take] at hl
      have hs := numsB_s hj
      have hb := numB_len hx
      have hs2 : s ++ (cSp ++ numB (T.getD j 0)) = cHas ++ numsB (T.take (j + 1)) := by
        rw [g2, ← hs, ByteArray.append_assoc, ByteArray.append_assoc]
      have w0 : cSp.size + (numB (T.getD j 0)).size ≤ 9223372036854775807 := by rw [z_sp]; omega
      obtain ⟨A, hA⟩ : ∃ A, cSp ++ numB (T.getD j 0) = A := ⟨_, rfl⟩
      have hAs : A.size = 1 + (numB (T.getD j 0)).size := by rw [← hA, ByteArray.size_append, z_sp]
      have w2 : s.size + A.size ≤ 9223372036854775807 := by omega
      rw [hA] at hs2
      generalize numB (T.getD j 0) = N at *
      repeat' (first | with_reducible first | refine kI (by kernel_rfl) ?_ | refine kN (by kernel_rfl) ?_ | simp -implicitDefEqProofs (disch := omega) only [go_sem, Nat.reduceAdd, Nat.reduceSub, reduceCtorEq, Nat.reduceLT, Nat.reduceLeDiff, Nat.reduceEqDiff, Nat.reduceMul, Int.reduceToNat, ↓reduceIte, List.take_of_length_le, if_pos, if_neg, List.getElem?_set_self, List.set_set, getD_exs, cnE, cnV, Tryz.ntmps53, Tryz.results53,  hji, getD_ints hj, hi, qn, w0, w2, hA, hs2])
      exact ⟨T.length - (j + 1), by omega, hI0 _ _ ⟨j + 1, _, (), mixI rfl, hj, rfl, rfl⟩⟩
    · obtain rfl : j = T.length := by omega
      rw [List.take_length] at g2
      rw [← g2]
      repeat' (first | with_reducible first | refine kI (by kernel_rfl) ?_ | refine kN (by kernel_rfl) ?_ | simp -implicitDefEqProofs (disch := omega) only [go_sem, Nat.reduceAdd, Nat.reduceSub, reduceCtorEq, Nat.reduceLT, Nat.reduceLeDiff, Nat.reduceEqDiff, Nat.reduceMul, Int.reduceToNat, ↓reduceIte, List.take_of_length_le, if_pos, if_neg, List.getElem?_set_self, List.set_set, getD_exs, cnE, cnV, Tryz.ntmps53, Tryz.results53,  m9, opQ_none])
      refine InlK_intro rfl rfl can_copyBufferI (callF (hcb B (bfM_of hB)) (by simp only [go_sem, ints]) ?_)
      intro v N2 hv
      obtain ⟨i, be, js, xl, e3, hx, hbd⟩ := HB.frame (L := [⟨2, [bfA 0 B]⟩, ⟨2, [acA 0 ⟨6, [(m : Int)]⟩]⟩, ⟨2, [.agg [.nilS, .nilS]]⟩, ⟨2, [.agg [.nilS, .nilS]]⟩]) hv
      rw [e3]
      generalize N2.map (ownB ([⟨2, [bfA 0 B]⟩, ⟨2, [acA 0 ⟨6, [(m : Int)]⟩]⟩, ⟨2, [.agg [.nilS, .nilS]]⟩, ⟨2, [.agg [.nilS, .nilS]]⟩] : List Blk).length) = Z2 at *
      have hcell := hx.x.cell
      repeat' (first | with_reducible first | refine kI (by kernel_rfl) ?_ | simp -implicitDefEqProofs (disch := omega) only [go_sem, Nat.reduceAdd, Nat.reduceSub, reduceCtorEq, Nat.reduceLT, Nat.reduceLeDiff, Nat.reduceEqDiff, Nat.reduceMul, Int.reduceToNat, ↓reduceIte, List.take_of_length_le, if_pos, if_neg, List.getElem?_set_self, List.set_set, getD_exs, cnE, cnV, Tryz.ntmps53, Tryz.results53,  hcell])
      exact ⟨_, rfl, HB.fin (P := [_, _, _, _]) (P' := [_, _, _, _]) (Y := Z2) ⟨i, be, js, xl, rfl, hx, fun b hb => ⟨(hbd b hb).1, hx.lt b hb⟩⟩ (Nat.le_refl _) rfl (by simp only [List.length_append, List.length_cons, List.length_nil]; omega)⟩
theorem isp_appX6 {Sg : FuncId → Option (List AV → Option AV)} (hS : Sound Tryz.prog Sg) (ho : Sg 97 = some (F2 gOpn)) (hl : Sg 98 = some (F2 gLoadX)) (m9 : Sg 99 = none) (hi : Sg 63 = some (F1 gNum)) (B : Bf) (n0 : Int) (hB : bufOK B = true) (hcb : CpX) : ISpec Tryz.prog 53 [bfA 0 B, acA 0 ⟨6, [n0]⟩] [] fun r L' => AK L' r (appF B ⟨6, [n0]⟩) := by
  have hbb := bfB_of hB
  have hd : doneO B ⟨6, [n0]⟩ = opt (opnB B n0 = true) B := rfl
  have q := gOpn_eq hbb n0
  rw [hB] at q
  cases e : opnB B n0 with
  | false =>
    rw [e] at q hd
    rw [opt_f (by simp)] at hd
    rw [appF_no hd]
    exact isp_appX6f hS ho m9 B n0 hB q hcb
  | true =>
    rw [e] at q hd
    rw [opt_t rfl] at hd
    obtain ⟨m, rfl, hm, hmo⟩ := opnB_iff.1 e
    have hap : appF B ⟨6, [(m : Int)]⟩ = (B, cHas ++ numsB (tkn B.c (offF (vwB B (m : Int))))) := appF_has hd rfl
    rw [hap]
    have q2 := gLoadX_eq hbb (m : Int)
    have hl4 : loaR B (m : Int) = tkn B.c (offF (vwB B (m : Int))) := if_pos ⟨hB, e⟩
    rw [hl4] at q2
    have hold := opn_hold hB hm hmo
    have h60 := offF_60 (vOK (fit_in hold).2.1).1
    have htl := tkn_len B.c (offF (B.e.getD m ex0).v)
    have htv := tkn_val (bufOK_iff.1 hB).1 (fit_in hold).2.2
    have hvw : vwB B (m : Int) = (B.e.getD m ex0).v := rfl
    rw [hvw] at q2 ⊢
    exact isp_appX6t hS ho hl m9 hi B m _ hB q q2 (by omega) (fun x hx => by have := htv x hx; unfold i64R; omega) hcb
def AppX : Prop := ∀ (B : Bf) (a : Ac), bufOK B = true → actV a → ISpec Tryz.prog 53 [bfA 0 B, acA 0 a] [] fun r L' => AK L' r (appF B a)
theorem can_applyActI : CanCall Tryz.prog 53 := ⟨_, Tryz.func53, rfl, rfl⟩
theorem appX_of {Sg : FuncId → Option (List AV → Option AV)} (hS : Sound Tryz.prog Sg) (m0 : Sg 91 = none) (m1 : Sg 92 = none) (m2 : Sg 93 = none) (m4 : Sg 94 = none) (m5 : Sg 95 = none) (m7 : Sg 96 = none) (m9 : Sg 99 = none) (ho : Sg 97 = some (F2 gOpn)) (hl : Sg 98 = some (F2 gLoadX)) (hi : Sg 63 = some (F1 gNum)) (hcb : CpX) (h0 : RszX) (h1 : ExvX) (h2 : ExpX) (h4 : FilX) (h5 : CpyX) (h7 : RelX) : AppX := by
  rintro B ⟨k, n⟩ hB ⟨⟨⟨k0, k7⟩, hn⟩, hxx⟩
  dsimp only at k0 k7 hn hxx
  rcases (by omega : k = 0 ∨ k = 1 ∨ k = 2 ∨ k = 3 ∨ k = 4 ∨ k = 5 ∨ k = 6 ∨ k = 7) with rfl | rfl | rfl | rfl | rfl | rfl | rfl | rfl
  · obtain ⟨n0, rfl⟩ := list1 hn
    exact isp_appX0 hS m0 m9 B n0 hB hcb h0
  · obtain ⟨n0, n1, n2, rfl⟩ := list3 hn
    exact isp_appX1 hS m1 m9 hi B n0 n1 n2 hB hcb h1
  · obtain ⟨n0, n1, n2, n3, rfl⟩ := list4 hn
    exact isp_appX2 hS m2 m9 hi B n0 n1 n2 n3 hB hcb h2
  · obtain ⟨n0, rfl⟩ := list1 hn
    exact isp_appX3 hS m2 m9 hi B n0 hB hcb h2
  · obtain ⟨n0, n1, rfl⟩ := list2 hn
    exact isp_appX4 hS m4 m9 B n0 n1 hB hcb h4
  · obtain ⟨n0, n1, rfl⟩ := list2 hn
    exact isp_appX5 hS m5 m9 B n0 n1 hB hcb h5
  · obtain ⟨n0, rfl⟩ := list1 hn
    exact isp_appX6 hS ho hl m9 hi B n0 hB hcb
  · obtain ⟨n0, rfl⟩ := list1 hn
    exact isp_appX7 hS m7 m9 B n0 hB hcb h7
end Go.Proofs.YtkmnepmnjpdpkaaGreatDoor
