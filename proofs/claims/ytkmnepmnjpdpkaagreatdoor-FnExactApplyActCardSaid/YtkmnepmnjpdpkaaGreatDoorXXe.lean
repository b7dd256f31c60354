/- Contracts of functions that the laws of this seat call. -/
import Derived.Test.YtkmnepmnjpdpkaaGreatDoorX9
set_option linter.all false
namespace Go.Proofs.YtkmnepmnjpdpkaaGreatDoor
open Go Go.Ev Go.RowKit Go.Ev.Enc Go.Pl

theorem HO.fin {P P' Y : List Blk} {hi hi' : Nat} {r : AV} {o : Option Bf} (h : HO P.length hi (P ++ Y) r o) (hl : P.length = P'.length) (hh : hi ≤ hi') : HO 0 hi' (P' ++ Y) r o := by
  cases o with
  | none => exact h
  | some B =>
    obtain ⟨x, rfl, hx⟩ := h
    refine ⟨x, rfl, (hx.same fun b h1 _ => ?_).mono (Nat.zero_le _) hh⟩
    rw [List.getElem?_append_right (by omega), List.getElem?_append_right h1, hl]
theorem HO.cases {lo hi : Nat} {M : List Blk} {r : AV} {o : Option Bf} (h : HO lo hi M r o) : (o = none ∧ r = .tup [.agg [.nilS, .nilS], .bool false]) ∨ ∃ i be n, r = .tup [.agg [.sl i n 0 n n, be], .bool true] ∧ be.isCell = true := by
  cases o with
  | none => exact .inl ⟨rfl, h⟩
  | some B =>
    obtain ⟨x, rfl, i, be, js, xl, rfl, hx, -⟩ := h
    exact .inr ⟨i, be, _, rfl, hx.x.cell⟩
set_option maxHeartbeats 4000000 in
set_option maxRecDepth 100000 in
theorem isp_ExportViewX {Sg : FuncId → Option (List AV → Option AV)} (hS : Sound Tryz.prog Sg) (hb : Sg 61 = some (F1 gBuf)) (hv : Sg 68 = some (F1 gValidV)) (hf : Sg 69 = some (F2 gFitI)) (n1 : Sg 129 = none) (n2 : Sg 130 = none) (n3 : Sg 99 = none) (B : Bf) (v : Vi) (h1 : bfB B) (h2 : viB v) (hcb : CpX) : ISpec Tryz.prog 92 [bfA 0 B, .agg [i64 v.b, ints 0 v.sh, ints 0 v.st]] [] (fun r L' => HO 0 L'.length L' r (expVO B v)) := by
  refine ISpec.intro Tryz.func92 rfl (vc3_sound Tryz.pf hS hS _ _ _ ?_)
  have q1 := gBuf_eq h1
  have q2 := gValidV_eq h2
  unfold expVO
  cases e1 : bufOK B with
  | false =>
    rw [e1] at q1
    rw [opt_f (by simp)]
    repeat' (first | with_reducible first | refine kI (by kernel_rfl) ?_ | refine kN (by kernel_rfl) ?_ | simp -implicitDefEqProofs (disch := omega) only [go_sem, Nat.reduceAdd, Nat.reduceSub, reduceCtorEq, Nat.reduceLT, Nat.reduceLeDiff, Nat.reduceEqDiff, ↓reduceIte, if_pos, if_neg, Tryz.ntmps92, Tryz.results92,  hb, q1])
    exact rfl
  | true =>
    rw [e1] at q1
    cases e2 : viewOK v with
    | false =>
      rw [e2] at q2
      rw [opt_f (by simp)]
      repeat' (first | with_reducible first | refine kI (by kernel_rfl) ?_ | refine kN (by kernel_rfl) ?_ | simp -implicitDefEqProofs (disch := omega) only [go_sem, Nat.reduceAdd, Nat.reduceSub, reduceCtorEq, Nat.reduceLT, Nat.reduceLeDiff, Nat.reduceEqDiff, ↓reduceIte, if_pos, if_neg, Tryz.ntmps92, Tryz.results92,  hb, q1, hv, q2])
      exact rfl
    | true =>
      rw [e2] at q2
      have q3 := gFitI_eq (vOK e2) (B.c.length : Int)
      cases e3 : fitB v B.c.length with
      | false =>
        rw [e3] at q3
        rw [opt_f (by simp)]
        repeat' (first | with_reducible first | refine kI (by kernel_rfl) ?_ | refine kN (by kernel_rfl) ?_ | simp -implicitDefEqProofs (disch := omega) only [go_sem, Nat.reduceAdd, Nat.reduceSub, reduceCtorEq, Nat.reduceLT, Nat.reduceLeDiff, Nat.reduceEqDiff, ↓reduceIte, if_pos, if_neg, Tryz.ntmps92, Tryz.results92,  hb, q1, hv, q2, hf, q3])
        exact rfl
      | true =>
        rw [e3] at q3
        have hvm := viM_of e2
        have heq : opt (True ∧ True ∧ True ∧ B.e.length < 8) (addB B ⟨-1, v, true⟩) = if B.e.length < 8 then some (addB B ⟨-1, v, true⟩) else none := by simp [opt]
        simp only [true_and] at heq ⊢
        rw [heq]
        repeat' (first | with_reducible first | refine kI (by kernel_rfl) ?_ | simp -implicitDefEqProofs (disch := omega) only [go_sem, Nat.reduceAdd, Nat.reduceSub, reduceCtorEq, Nat.reduceLT, Nat.reduceLeDiff, Nat.reduceEqDiff, ↓reduceIte, if_pos, if_neg, Tryz.ntmps92, Tryz.results92,  hb, q1, hv, q2, hf, q3])
        refine DrawQ.any [([0, 1], 2), ([3], 4), ([5, 6], 7)] [8] [0] (by kernel_rfl) ?_
        repeat' (first | with_reducible first | refine kI (by kernel_rfl) ?_ | simp -implicitDefEqProofs (disch := omega) only [go_sem, Nat.reduceAdd, Nat.reduceSub, reduceCtorEq, Nat.reduceLT, Nat.reduceLeDiff, Nat.reduceEqDiff, ↓reduceIte, if_pos, if_neg, Tryz.ntmps92, Tryz.results92,  n2, opQ_none])
        refine InlK_intro rfl rfl can_copyViewI ((o_copyViewI hS v hvm).call (by simp only [go_sem, ints]) ?_)
        repeat' (first | with_reducible first | refine kI (by kernel_rfl) ?_ | simp -implicitDefEqProofs (disch := omega) only [go_sem, Nat.reduceAdd, Nat.reduceSub, reduceCtorEq, Nat.reduceLT, Nat.reduceLeDiff, Nat.reduceEqDiff, ↓reduceIte, if_pos, if_neg, Tryz.ntmps92, Tryz.results92,  n1, opQ_none])
        refine InlK_intro rfl rfl can_withExport ((isp_withExportX hS n3 B (bfM_of e1) ⟨-1, v, true⟩ 3 4 _ rfl rfl (by decide) 3 (by decide) (by decide) (by simp) hcb).mono ?_)
        rintro r L1 ⟨Y, rfl, hY⟩
        rcases hY.cases with ⟨h9, rfl⟩ | ⟨i, be, n, rfl, hc⟩
        · repeat' (first | with_reducible first | refine kI (by kernel_rfl) ?_ | simp -implicitDefEqProofs (disch := omega) only [go_sem, Nat.reduceAdd, Nat.reduceSub, reduceCtorEq, Nat.reduceLT, Nat.reduceLeDiff, Nat.reduceEqDiff, ↓reduceIte, if_pos, if_neg, Tryz.ntmps92, Tryz.results92])
          rw [h9]; rfl
        · repeat' (first | with_reducible first | refine kI (by kernel_rfl) ?_ | simp -implicitDefEqProofs (disch := omega) only [go_sem, Nat.reduceAdd, Nat.reduceSub, reduceCtorEq, Nat.reduceLT, Nat.reduceLeDiff, Nat.reduceEqDiff, ↓reduceIte, if_pos, if_neg, Tryz.ntmps92, Tryz.results92,  hc])
          exact HO.fin (P := [_, _, _]) (P' := [_, _, _]) hY rfl (by simp)
def SliDX : Prop := ∀ (v : Vi) (d : Int) (s : Sl), viB v → ISpec Tryz.prog 131 [.agg [i64 v.b, ints 0 v.sh, ints 0 v.st], i64 d, slA s] [] fun r L' => SlK 0 L' r (sliR v d s)
set_option maxHeartbeats 4000000 in
set_option maxRecDepth 100000 in
theorem isp_ExportPartX {Sg : FuncId → Option (List AV → Option AV)} (hS : Sound Tryz.prog Sg) (ho : Sg 97 = some (F2 gOpn)) (n2 : Sg 131 = none) (n1 : Sg 129 = none) (n3 : Sg 99 = none) (B : Bf) (id d : Int) (s : Sl) (h : bfB B) (hcb : CpX) (hsd : SliDX) : ISpec Tryz.prog 93 [bfA 0 B, i64 id, i64 d, slA s] [] (fun r L' => HO 0 L'.length L' r (expPO B id d s)) := by
  refine ISpec.intro Tryz.func93 rfl (vc3_sound Tryz.pf hS hS _ _ _ ?_)
  have q2 := gOpn_eq h id
  unfold expPO
  cases e1 : bufOK B with
  | false =>
    rw [e1] at q2
    rw [opt_f (by simp)]
    repeat' (first | with_reducible first | refine kI (by kernel_rfl) ?_ | refine kN (by kernel_rfl) ?_ | simp -implicitDefEqProofs (disch := omega) only [go_sem, Nat.reduceAdd, Nat.reduceSub, reduceCtorEq, Nat.reduceLT, Nat.reduceLeDiff, Nat.reduceEqDiff, ↓reduceIte, if_pos, if_neg, Tryz.ntmps93, Tryz.results93,  ho, q2])
    exact rfl
  | true =>
    cases e2 : opnB B id with
    | false =>
      rw [e1, e2] at q2
      rw [opt_f (by simp)]
      repeat' (first | with_reducible first | refine kI (by kernel_rfl) ?_ | refine kN (by kernel_rfl) ?_ | simp -implicitDefEqProofs (disch := omega) only [go_sem, Nat.reduceAdd, Nat.reduceSub, reduceCtorEq, Nat.reduceLT, Nat.reduceLeDiff, Nat.reduceEqDiff, ↓reduceIte, if_pos, if_neg, Tryz.ntmps93, Tryz.results93,  ho, q2])
      exact rfl
    | true =>
      rw [e1, e2] at q2
      have h8 := (bufOK_iff.1 e1).2.1
      obtain ⟨k, rfl, hk, hko⟩ := opnB_iff.1 e2
      have hv := (exOK_iff.1 ((bufOK_iff.1 e1).2.2 k hk)).2.1
      have hvw : vwB B (k : Int) = (B.e.getD k ex0).v := rfl
      have hge := getD_exs (t := 0) hk
      rw [hvw]
      have q3 := hsd _ d s (ok_viB hv)
      cases e3 : sliR (B.e.getD k ex0).v d s with
      | mk w b =>
        rw [e3] at q3
        cases b with
        | false =>
          rw [opt_f (by simp)]
          repeat' (first | with_reducible first | refine kI (by kernel_rfl) ?_ | simp -implicitDefEqProofs (disch := omega) only [go_sem, Nat.reduceAdd, Nat.reduceSub, reduceCtorEq, Nat.reduceLT, Nat.reduceLeDiff, Nat.reduceEqDiff, ↓reduceIte, if_pos, if_neg, Tryz.ntmps93, Tryz.results93,  ho, q2])
          refine DrawQ.pend 12 47 [([0, 1, 2, 3, 4, 5, 6, 7], 8, []), ([9, 10, 11, 12], 13, [11])] [14] [11] rfl (by kernel_rfl) ?_
          repeat' (first | with_reducible first | refine kI (by kernel_rfl) ?_ | simp -implicitDefEqProofs (disch := omega) only [go_sem, Nat.reduceAdd, Nat.reduceSub, reduceCtorEq, Nat.reduceLT, Nat.reduceLeDiff, Nat.reduceEqDiff, ↓reduceIte, if_pos, if_neg, Tryz.ntmps93, Tryz.results93,  hge, n2, opQ_none])
          refine InlK_intro rfl rfl can_SliceDimI (callF q3 (by simp only [go_sem, ints]) ?_)
          intro r N hr
          obtain ⟨e, -⟩ := SlK.frame (L := [⟨2, [bfA 0 B]⟩, ⟨5, [slA s]⟩, ⟨2, [.agg [.nilS, .nilS]]⟩]) hr
          rw [e]
          generalize N.map (ownB ([⟨2, [bfA 0 B]⟩, ⟨5, [slA s]⟩, ⟨2, [.agg [.nilS, .nilS]]⟩] : List Blk).length) = Z at *
          repeat' (first | with_reducible first | refine kI (by kernel_rfl) ?_ | simp -implicitDefEqProofs (disch := omega) only [go_sem, Nat.reduceAdd, Nat.reduceSub, reduceCtorEq, Nat.reduceLT, Nat.reduceLeDiff, Nat.reduceEqDiff, ↓reduceIte, if_pos, if_neg, Tryz.ntmps93, Tryz.results93])
          exact rfl
        | true =>
          have heq : opt (True ∧ True ∧ B.e.length < 8 ∧ True) (addB B ⟨(k : Int), w, true⟩) = if B.e.length < 8 then some (addB B ⟨(k : Int), w, true⟩) else none := by simp [opt]
          simp only [true_and, and_true] at heq ⊢
          rw [heq]
          repeat' (first | with_reducible first | refine kI (by kernel_rfl) ?_ | simp -implicitDefEqProofs (disch := omega) only [go_sem, Nat.reduceAdd, Nat.reduceSub, reduceCtorEq, Nat.reduceLT, Nat.reduceLeDiff, Nat.reduceEqDiff, ↓reduceIte, if_pos, if_neg, Tryz.ntmps93, Tryz.results93,  ho, q2])
          refine DrawQ.pend 12 47 [([0, 1, 2, 3, 4, 5, 6, 7], 8, []), ([9, 10, 11, 12], 13, [11])] [14] [11] rfl (by kernel_rfl) ?_
          repeat' (first | with_reducible first | refine kI (by kernel_rfl) ?_ | simp -implicitDefEqProofs (disch := omega) only [go_sem, Nat.reduceAdd, Nat.reduceSub, reduceCtorEq, Nat.reduceLT, Nat.reduceLeDiff, Nat.reduceEqDiff, ↓reduceIte, if_pos, if_neg, Tryz.ntmps93, Tryz.results93,  hge, n2, opQ_none])
          refine InlK_intro rfl rfl can_SliceDimI (callF q3 (by simp only [go_sem, ints]) ?_)
          intro r N hr
          obtain ⟨x, e, bq, cq, e4, u1, u2, u3, u4, u5⟩ := SlK.frame (L := [⟨2, [bfA 0 B]⟩, ⟨5, [slA s]⟩, ⟨2, [.agg [.nilS, .nilS]]⟩]) hr
          rw [e, e4]
          dsimp only at u1 u2
          generalize N.map (ownB ([⟨2, [bfA 0 B]⟩, ⟨5, [slA s]⟩, ⟨2, [.agg [.nilS, .nilS]]⟩] : List Blk).length) = Z at *
          repeat' (first | with_reducible first | refine kI (by kernel_rfl) ?_ | simp -implicitDefEqProofs (disch := omega) only [go_sem, Nat.reduceAdd, Nat.reduceSub, reduceCtorEq, Nat.reduceLT, Nat.reduceLeDiff, Nat.reduceEqDiff, ↓reduceIte, if_pos, if_neg, Tryz.ntmps93, Tryz.results93,  n1, opQ_none])
          refine InlK_intro rfl rfl can_withExport ((isp_withExportX hS n3 B (bfM_of e1) ⟨(k : Int), w, true⟩ bq cq _ (get_ext u1 [_]) (get_ext u2 [_]) u3 3 u4 u5 (by simp) hcb).mono ?_)
          rintro r L1 ⟨Y, rfl, hY⟩
          rw [List.append_assoc, List.append_assoc] at hY
          rcases hY.cases with ⟨h9, rfl⟩ | ⟨i, be, n, rfl, hc⟩
          · repeat' (first | with_reducible first | refine kI (by kernel_rfl) ?_ | simp -implicitDefEqProofs (disch := omega) only [go_sem, Nat.reduceAdd, Nat.reduceSub, reduceCtorEq, Nat.reduceLT, Nat.reduceLeDiff, Nat.reduceEqDiff, ↓reduceIte, if_pos, if_neg, Tryz.ntmps93, Tryz.results93])
            rw [h9]; rfl
          · repeat' (first | with_reducible first | refine kI (by kernel_rfl) ?_ | simp -implicitDefEqProofs (disch := omega) only [go_sem, Nat.reduceAdd, Nat.reduceSub, reduceCtorEq, Nat.reduceLT, Nat.reduceLeDiff, Nat.reduceEqDiff, ↓reduceIte, if_pos, if_neg, Tryz.ntmps93, Tryz.results93,  hc])
            exact HO.fin (P := [_, _, _]) (P' := [_, _, _]) hY rfl (by simp only [List.length_append, List.length_cons, List.length_nil]; omega)
end Go.Proofs.YtkmnepmnjpdpkaaGreatDoor
