/- Contracts of functions on views and memories that the laws of this seat call. -/
import Derived.Test.YtkmnepmnjpdpkaaGreatDoorZA
import Derived.Lib.ItoaNum
import Derived.Lib.ItoaLen
set_option linter.all false
namespace Go.Proofs.YtkmnepmnjpdpkaaGreatDoor
open Go Go.Ev Go.RowKit Go.Ev.Enc Go.Pl

theorem ret_Bs {B : Bf} {i j m : Nat} {L : List Blk} (hm : B.e.length = m) (hi : L[i]? = some (stB B.c)) (hij : i ≠ j) (hj : j < L.length) (h : selB (gR 0 [i, j]) L (L.getD j ⟨0, []⟩) = exB 1 B.e) (hne : B.e ≠ []) :
    RetQ [] (fun v L' => (∀ n, ownV n v = bfR B n) ∧ ∀ n, L'.map (ownB n) = bfN B n) (.agg [.sl i B.c.length 0 B.c.length B.c.length, .sl j m 0 m m]) L := by
  subst hm
  have hil := (List.getElem?_eq_some_iff.1 hi).1
  have e : gR 0 [i, j] i = some 0 := by simp [gR, List.idxOf?_cons]
  have e2 : gR 0 [i, j] j = some 1 := by
    have : (i == j) = false := by simpa using hij
    simp [gR, List.idxOf?_cons, this]
  refine ⟨[i, j], by simpa using hij, by simp; omega, Nat.zero_le _, fun b hb => absurd hb (Nat.not_lt_zero _), fun n => ?_, fun n => ?_⟩
  · rw [selV_agg, List.map_cons, List.map_cons, List.map_nil, List.length_nil, selC_sl, e, selSl_some, selC_sl, e2, selSl_some, bfR, exR_ne hne]
    simp [ownV, expE, ownC, ownStep]
  · simp only [List.map_cons, List.map_nil, List.length_nil, List.take_zero, List.nil_append, h, getD_of hi, selB_st, ownB_st, ownB_ex, bfN, exN_ne hne]
set_option maxHeartbeats 4000000 in
set_option maxRecDepth 100000 in
theorem o_added {Sg : FuncId → Option (List AV → Option AV)} (hS : Sound Tryz.prog Sg) (n1 : Sg 59 = none) (n2 : Sg 106 = none) (B : Bf) (h : bfM B) (p : Int) (v : Vi) (hv : viM v) (hcb : CpBS) (hcv : CopyVi) : OSpec Tryz.prog 167 [bfA 0 B, i64 p, .agg [i64 v.b, ints 0 v.sh, ints 0 v.st]] (bfR (addB B ⟨p, v, true⟩)) (bfN (addB B ⟨p, v, true⟩)) := by
  refine OSpec.ofR Tryz.func167 rfl (vc3_sound Tryz.pf hS hS _ _ _ ?_)
  repeat' (first | with_reducible first | refine kI (by kernel_rfl) ?_ | simp -implicitDefEqProofs (disch := omega) only [go_sem, Nat.reduceAdd, Nat.reduceSub, reduceCtorEq, Nat.reduceLT, Nat.reduceLeDiff, Nat.reduceEqDiff, ↓reduceIte, List.take_of_length_le, if_pos, if_neg, getD_exs, cnE, cnV, Tryz.ntmps167, Tryz.results167,  n1, opQ_none])
  refine InlK_intro rfl rfl can_copyBufferS ((hcb B h).call (by simp only [go_sem, ints]) ?_)
  have h1 := h.2.1
  by_cases he : B.e = []
  · repeat' (first | with_reducible first | refine kI (by kernel_rfl) ?_ | simp -implicitDefEqProofs (disch := omega) only [go_sem, Nat.reduceAdd, Nat.reduceSub, reduceCtorEq, Nat.reduceLT, Nat.reduceLeDiff, Nat.reduceEqDiff, ↓reduceIte, List.take_of_length_le, if_pos, if_neg, getD_exs, cnE, cnV, Tryz.ntmps167, Tryz.results167,  exR, exN, he])
    refine DrawQ.any2 [([0, 1, 2, 3], 4, [0, 1, 2]), ([5, 6], 7, []), ([8], 9, [])] [] [0, 1, 2] (by kernel_rfl) ?_
    repeat' (first | with_reducible first | refine kI (by kernel_rfl) ?_ | simp -implicitDefEqProofs (disch := omega) only [go_sem, Nat.reduceAdd, Nat.reduceSub, reduceCtorEq, Nat.reduceLT, Nat.reduceLeDiff, Nat.reduceEqDiff, ↓reduceIte, List.take_of_length_le, if_pos, if_neg, getD_exs, cnE, cnV, Tryz.ntmps167, Tryz.results167,  n2, opQ_none])
    refine InlK_intro rfl rfl can_copyView ((hcv v hv).call (by simp only [go_sem, ints]) ?_)
    repeat' (first | with_reducible first | refine kI (by kernel_rfl) ?_ | simp -implicitDefEqProofs (disch := omega) only [go_sem, Nat.reduceAdd, Nat.reduceSub, reduceCtorEq, Nat.reduceLT, Nat.reduceLeDiff, Nat.reduceEqDiff, ↓reduceIte, List.take_of_length_le, if_pos, if_neg, getD_exs, cnE, cnV, Tryz.ntmps167, Tryz.results167])
    refine ret_Bs (B := addB B ⟨p, v, true⟩) (i := 3) (j := 7) (by simp [addB, he]) rfl (by decide) (by simp) ?_ (by simp [addB])
    simp -implicitDefEqProofs only [go_sem, Nat.reduceAdd, Nat.reduceSub, reduceCtorEq, Nat.reduceLT, Nat.reduceLeDiff, Nat.reduceEqDiff, Nat.reduceMul, Int.reduceToNat, ↓reduceIte, Nat.reduceBEq, gR, gR_0, List.idxOf?_cons, List.idxOf?_nil, Option.map_some, Option.map_none]
    simp [addB, he]
  · have hx := fun n => exR_ne (n := n) he
    have hN := exN_ne he
    repeat' (first | with_reducible first | refine kI (by kernel_rfl) ?_ | simp -implicitDefEqProofs (disch := omega) only [go_sem, Nat.reduceAdd, Nat.reduceSub, reduceCtorEq, Nat.reduceLT, Nat.reduceLeDiff, Nat.reduceEqDiff, ↓reduceIte, List.take_of_length_le, if_pos, if_neg, getD_exs, cnE, cnV, Tryz.ntmps167, Tryz.results167,  hx, hN])
    refine DrawQ.any2 [([0, 1, 2, 3], 4, [0, 1, 2]), ([5, 6], 7, []), ([8], 9, [])] [] [0, 1, 2] (by kernel_rfl) ?_
    repeat' (first | with_reducible first | refine kI (by kernel_rfl) ?_ | simp -implicitDefEqProofs (disch := omega) only [go_sem, Nat.reduceAdd, Nat.reduceSub, reduceCtorEq, Nat.reduceLT, Nat.reduceLeDiff, Nat.reduceEqDiff, ↓reduceIte, List.take_of_length_le, if_pos, if_neg, getD_exs, cnE, cnV, Tryz.ntmps167, Tryz.results167,  n2, opQ_none])
    refine InlK_intro rfl rfl can_copyView ((hcv v hv).call (by simp only [go_sem, ints]) ?_)
    have ea := fun (B0 B1 B2 B3 : Blk) (L : List Blk) (z : AV) => evApp_x4 (B0 := B0) (B1 := B1) (B2 := B2) (B3 := B3) (L := L) (x := z) (n := B.e.length) (by' := 72) (q := exL 1 B.e) (len_exs 1 B.e) (by omega) (by omega)
    repeat' (first | with_reducible first | refine kI (by kernel_rfl) ?_ | simp -implicitDefEqProofs (disch := omega) only [go_sem, Nat.reduceAdd, Nat.reduceSub, reduceCtorEq, Nat.reduceLT, Nat.reduceLeDiff, Nat.reduceEqDiff, ↓reduceIte, List.take_of_length_le, if_pos, if_neg, getD_exs, cnE, cnV, Tryz.ntmps167, Tryz.results167,  ea])
    refine ret_Bs (B := addB B ⟨p, v, true⟩) (i := 3) (j := 4) (by simp [addB]) rfl (by decide) (by simp) ?_ (by simp [addB])
    simp -implicitDefEqProofs only [go_sem, Nat.reduceAdd, Nat.reduceSub, reduceCtorEq, Nat.reduceLT, Nat.reduceLeDiff, Nat.reduceEqDiff, Nat.reduceMul, Int.reduceToNat, ↓reduceIte, Nat.reduceBEq, gR, gR_0, List.idxOf?_cons, List.idxOf?_nil, Option.map_some, Option.map_none, List.map_append]
    simp [addB]
end Go.Proofs.YtkmnepmnjpdpkaaGreatDoor
namespace Go.Proofs.YtkmnepmnjpdpkaaGreatDoor
open Go Go.Ev Go.RowKit Go.Ev.Enc Go.Pl

theorem ret_BBc {L0 : List Blk} {B : Bf} {k n : Nat} (hk : L0.length = k) :
    RetQ [] (fun v L' => (∀ n, ownV n v = bbR (some B) n) ∧ ∀ n, L'.map (ownB n) = bbN (some B) n) (.tup [bfR B k, .bool true]) (L0 ++ bfN B n) := by
  subst hk
  refine ret_BB (i := L0.length) (get_app_len _ _) ?_ ?_
  · cases he : B.e with
    | nil => exact .inl ⟨rfl, by simp [exR]⟩
    | cons x l => exact .inr ⟨by simp, _, rfl, by rw [get_app_add L0 _ 1]; simp [bfN, he, exN]⟩
  · intro j v o n c hj
    cases he : B.e with
    | nil => rw [he] at hj; simp [exR] at hj
    | cons x l => rw [he] at hj; simp [exR] at hj; omega
def bbP (o : Option Bf) : Bf × Bool := match o with
  | some B => (B, true)
  | none => (⟨[], []⟩, false)
theorem exp_bb (o : Option Bf) : exp 1 (bbN o 0) (bbR o 0) = enc 1 (bbP o) := by
  cases o with
  | none => rfl
  | some B =>
    have e1 : expC 1 (bfN B 0) (.sl 0 B.c.length 0 B.c.length B.c.length) = ints 1 B.c := by
      rw [ec_sl, ee_sl]
      simp [expS, expE, stepC, Function.comp_def, List.take_of_length_le]
    have e2 : expC 1 (bfN B 0) (exR 1 B.e) = .ds 1 (exL 1 B.e) := by
      cases he : B.e with
      | nil => rfl
      | cons x l =>
        rw [exR, ec_sl, ee_sl]
        simp only [bfN, he, exN, List.getElem?_cons_succ, List.getElem?_cons_zero]
        show expS 1 _ (x :: l).length 0 (x :: l).length (some ⟨5, exL 1 (x :: l)⟩) = _
        rw [expS_exs]
        simp
    show exp 1 (bfN B 0) (.tup [bfR B 0, .bool true]) = _
    rw [exp_tup]
    simp only [List.map_cons, List.map_nil, ee_aggE, ee_bool, e1]
    rw [show exR (0 + 1) B.e = exR 1 B.e from rfl, e2]
    rfl
theorem map_bf0 (B : Bf) : exp 0 [] (bfA 0 B) = bfA 0 B := by
  simp [exp, expE, expC, stepC, ints, Function.comp_def]

def opt (c : Prop) [Decidable c] (B : Bf) : Option Bf := if c then some B else none
theorem opt_t {c : Prop} [Decidable c] {B : Bf} (h : c) : opt c B = some B := if_pos h
theorem opt_f {c : Prop} [Decidable c] {B : Bf} (h : ¬ c) : opt c B = none := if_neg h
def expVO (B : Bf) (v : Vi) : Option Bf := opt (bufOK B = true ∧ viewOK v = true ∧ fitB v B.c.length = true ∧ B.e.length < 8) (addB B ⟨-1, v, true⟩)
theorem can_added : CanCall Tryz.prog 167 := ⟨_, Tryz.func167, rfl, rfl⟩
theorem can_withExport : CanCall Tryz.prog 129 := ⟨_, Tryz.func129, rfl, rfl⟩
def AddV : Prop := ∀ (B : Bf) (p : Int) (v : Vi), bfM B → viM v → OSpec Tryz.prog 167 [bfA 0 B, i64 p, .agg [i64 v.b, ints 0 v.sh, ints 0 v.st]] (bfR (addB B ⟨p, v, true⟩)) (bfN (addB B ⟨p, v, true⟩))
theorem viM_of {v : Vi} (h : viewOK v = true) : viM v := by
  have := (shape_facts (vOK h).1).1
  have := (vOK h).2
  exact ⟨by omega, by omega⟩
set_option maxHeartbeats 4000000 in
set_option maxRecDepth 100000 in
theorem o_ExportViewS {Sg : FuncId → Option (List AV → Option AV)} (hS : Sound Tryz.prog Sg) (hb : Sg 66 = some (F1 gBuf)) (hv : Sg 148 = some (F1 gValidV)) (hf : Sg 149 = some (F2 gFitS)) (n1 : Sg 167 = none) (B : Bf) (v : Vi) (h : bfB B ∧ viB v) (hadd : AddV) : OSpec Tryz.prog 137 [bfA 0 B, .agg [i64 v.b, ints 0 v.sh, ints 0 v.st]] (bbR (expVO B v)) (bbN (expVO B v)) := by
  refine OSpec.ofR Tryz.func137 rfl (vc3_sound Tryz.pf hS hS _ _ _ ?_)
  obtain ⟨h1, h2⟩ := h
  have q1 := gBuf_eq h1
  have q2 := gValidV_eq h2
  unfold expVO
  cases e1 : bufOK B with
  | false =>
    rw [e1] at q1
    rw [opt_f (by simp)]
    repeat' (first | with_reducible first | refine kI (by kernel_rfl) ?_ | refine kN (by kernel_rfl) ?_ | simp -implicitDefEqProofs (disch := omega) only [go_sem, Nat.reduceAdd, Nat.reduceSub, reduceCtorEq, Nat.reduceLT, Nat.reduceLeDiff, Nat.reduceEqDiff, ↓reduceIte, List.take_of_length_le, if_pos, if_neg, getD_exs, cnE, cnV, Tryz.ntmps137, Tryz.results137,  hb, q1])
    exact ret_B0
  | true =>
    rw [e1] at q1
    cases e2 : viewOK v with
    | false =>
      rw [e2] at q2
      rw [opt_f (by simp)]
      repeat' (first | with_reducible first | refine kI (by kernel_rfl) ?_ | refine kN (by kernel_rfl) ?_ | simp -implicitDefEqProofs (disch := omega) only [go_sem, Nat.reduceAdd, Nat.reduceSub, reduceCtorEq, Nat.reduceLT, Nat.reduceLeDiff, Nat.reduceEqDiff, ↓reduceIte, List.take_of_length_le, if_pos, if_neg, getD_exs, cnE, cnV, Tryz.ntmps137, Tryz.results137,  hb, q1, hv, q2])
      exact ret_B0
    | true =>
      rw [e2] at q2
      have h8 := (bufOK_iff.1 e1).2.1
      have h60 := (memOK_iff.1 (bufOK_iff.1 e1).1).1
      have q3 := gFitS_eq (v := v) (n := (B.c.length : Int)) ⟨vOK e2, by omega, by omega⟩
      rw [fitS_eq e2] at q3
      cases e3 : fitB v B.c.length with
      | false =>
        rw [e3] at q3
        rw [opt_f (by simp)]
        repeat' (first | with_reducible first | refine kI (by kernel_rfl) ?_ | refine kN (by kernel_rfl) ?_ | simp -implicitDefEqProofs (disch := omega) only [go_sem, Nat.reduceAdd, Nat.reduceSub, reduceCtorEq, Nat.reduceLT, Nat.reduceLeDiff, Nat.reduceEqDiff, ↓reduceIte, List.take_of_length_le, if_pos, if_neg, getD_exs, cnE, cnV, Tryz.ntmps137, Tryz.results137,  hb, q1, hv, q2, hf, q3])
        exact ret_B0
      | true =>
        rw [e3] at q3
        by_cases e4 : B.e.length < 8
        · have e4' : ((B.e.length : Int) == 8) = false := beq_f (by omega)
          rw [opt_t ⟨rfl, rfl, rfl, e4⟩]
          repeat' (first | with_reducible first | refine kI (by kernel_rfl) ?_ | simp -implicitDefEqProofs (disch := omega) only [go_sem, Nat.reduceAdd, Nat.reduceSub, reduceCtorEq, Nat.reduceLT, Nat.reduceLeDiff, Nat.reduceEqDiff, ↓reduceIte, List.take_of_length_le, if_pos, if_neg, getD_exs, cnE, cnV, Tryz.ntmps137, Tryz.results137,  hb, q1, hv, q2, hf, q3, e4', n1, opQ_none])
          refine InlK_intro rfl rfl can_added ((hadd B (-1) v (bfM_of e1) (viM_of e2)).call (by simp only [go_sem, ints]) ?_)
          generalize addB B ⟨-1, v, true⟩ = B'
          repeat' (first | with_reducible first | refine kI (by kernel_rfl) ?_ | simp -implicitDefEqProofs (disch := omega) only [go_sem, Nat.reduceAdd, Nat.reduceSub, reduceCtorEq, Nat.reduceLT, Nat.reduceLeDiff, Nat.reduceEqDiff, ↓reduceIte, List.take_of_length_le, if_pos, if_neg, getD_exs, cnE, cnV, Tryz.ntmps137, Tryz.results137])
          exact ret_BBc (L0 := [_, _, _]) (n := 3) rfl
        · have e4' : ((B.e.length : Int) == 8) = true := beq_t (by omega)
          rw [opt_f (by simp; omega)]
          repeat' (first | with_reducible first | refine kI (by kernel_rfl) ?_ | refine kN (by kernel_rfl) ?_ | simp -implicitDefEqProofs (disch := omega) only [go_sem, Nat.reduceAdd, Nat.reduceSub, reduceCtorEq, Nat.reduceLT, Nat.reduceLeDiff, Nat.reduceEqDiff, ↓reduceIte, List.take_of_length_le, if_pos, if_neg, getD_exs, cnE, cnV, Tryz.ntmps137, Tryz.results137,  hb, q1, hv, q2, hf, q3, e4'])
          exact ret_B0
instance (v : Vi) : Decidable (viM v) := by unfold viM; infer_instance
end Go.Proofs.YtkmnepmnjpdpkaaGreatDoor
namespace Go.Proofs.YtkmnepmnjpdpkaaGreatDoor
open Go Go.Ev Go.RowKit Go.Ev.Enc Go.Pl

section
variable {Sg : FuncId → Option (List AV → Option AV)} (hS : Sound Tryz.prog Sg) (n1 : Sg 106 = none)
include hS n1
theorem copyV_of: CopyV := fun l h => o_copyInts hS l h
theorem copyVi_of: CopyVi := fun v h => o_copyView (hS.hide 105) (if_pos rfl) v h (copyV_of hS n1)
theorem cpBS_of: CpBS := fun B h => o_copyBufferS (hS.hide 105) ((if_neg (by decide)).trans n1) (if_pos rfl) B h (copyVi_of hS n1) (copyV_of hS n1)
theorem addV_of(n2 : Sg 59 = none) : AddV := fun B p v h hv => o_added hS n2 n1 B h p v hv (cpBS_of hS n1) (copyVi_of hS n1)
end
def expPO (B : Bf) (id d : Int) (s : Sl) : Option Bf := opt (bufOK B = true ∧ opnB B id = true ∧ B.e.length < 8 ∧ (sliR (vwB B id) d s).2 = true) (addB B ⟨id, (sliR (vwB B id) d s).1, true⟩)
theorem sliR_ok {v : Vi} {d : Int} {s : Sl} (h : (sliR v d s).2 = true) : viewOK (sliR v d s).1 = true := by
  have e := sli_some (v := v) (d := d) (s := s)
  rw [if_pos h] at e
  exact sliF_ok e
set_option maxHeartbeats 4000000 in
set_option maxRecDepth 100000 in
theorem o_ExportPartS {Sg : FuncId → Option (List AV → Option AV)} (hS : Sound Tryz.prog Sg) (hb : Sg 66 = some (F1 gBuf)) (ho : Sg 142 = some (F2 gOpnS)) (n1 : Sg 167 = none) (n2 : Sg 168 = none) (B : Bf) (id d : Int) (s : Sl) (h : bfB B) (hadd : AddV) (hsl : SliV) : OSpec Tryz.prog 138 [bfA 0 B, i64 id, i64 d, slA s] (bbR (expPO B id d s)) (bbN (expPO B id d s)) := by
  refine OSpec.ofR Tryz.func138 rfl (vc3_sound Tryz.pf hS hS _ _ _ ?_)
  have q1 := gBuf_eq h
  have q2 := gOpnS_eq h id
  unfold expPO
  cases e1 : bufOK B with
  | false =>
    rw [e1] at q1
    rw [opt_f (by simp)]
    repeat' (first | with_reducible first | refine kI (by kernel_rfl) ?_ | refine kN (by kernel_rfl) ?_ | simp -implicitDefEqProofs (disch := omega) only [go_sem, Nat.reduceAdd, Nat.reduceSub, reduceCtorEq, Nat.reduceLT, Nat.reduceLeDiff, Nat.reduceEqDiff, ↓reduceIte, List.take_of_length_le, if_pos, if_neg, getD_exs, cnE, cnV, Tryz.ntmps138, Tryz.results138,  hb, q1])
    exact ret_B0
  | true =>
    rw [e1] at q1
    cases e2 : opnB B id with
    | false =>
      rw [e2] at q2
      rw [opt_f (by simp)]
      repeat' (first | with_reducible first | refine kI (by kernel_rfl) ?_ | refine kN (by kernel_rfl) ?_ | simp -implicitDefEqProofs (disch := omega) only [go_sem, Nat.reduceAdd, Nat.reduceSub, reduceCtorEq, Nat.reduceLT, Nat.reduceLeDiff, Nat.reduceEqDiff, ↓reduceIte, List.take_of_length_le, if_pos, if_neg, getD_exs, cnE, cnV, Tryz.ntmps138, Tryz.results138,  hb, q1, ho, q2])
      exact ret_B0
    | true =>
      rw [e2] at q2
      have h8 := (bufOK_iff.1 e1).2.1
      by_cases e4 : B.e.length < 8
      · have e4' : ((B.e.length : Int) == 8) = false := beq_f (by omega)
        obtain ⟨k, rfl, hk, hko⟩ := opnB_iff.1 e2
        have hv := (exOK_iff.1 ((bufOK_iff.1 e1).2.2 k hk)).2.1
        have hvw : vwB B (k : Int) = (B.e.getD k ex0).v := rfl
        have hge := getD_exs (t := 0) hk
        have hsh : (B.e.getD k ex0).v.sh.length ≤ 4 ∧ (B.e.getD k ex0).v.st.length ≤ 5 := ⟨(shape_facts (vOK hv).1).1, by have := (shape_facts (vOK hv).1).1; have := (vOK hv).2; omega⟩
        rw [hvw]
        have hss := sli_some (v := (B.e.getD k ex0).v) (d := d) (s := s)
        have hok := sliR_ok (v := (B.e.getD k ex0).v) (d := d) (s := s)
        cases e3 : (sliR (B.e.getD k ex0).v d s).2 with
        | false =>
          rw [e3, if_neg (by simp)] at hss
          rw [opt_f (by simp)]
          repeat' (first | with_reducible first | refine kI (by kernel_rfl) ?_ | simp -implicitDefEqProofs (disch := omega) only [go_sem, Nat.reduceAdd, Nat.reduceSub, reduceCtorEq, Nat.reduceLT, Nat.reduceLeDiff, Nat.reduceEqDiff, ↓reduceIte, List.take_of_length_le, if_pos, if_neg, getD_exs, cnE, cnV, Tryz.ntmps138, Tryz.results138,  hb, q1, ho, q2, e4'])
          refine DrawQ.pend 12 47 [([0, 1, 2, 3, 4, 5, 6, 7], 8, []), ([9, 10, 11, 12], 13, [11])] [14] [11] rfl (by kernel_rfl) ?_
          repeat' (first | with_reducible first | refine kI (by kernel_rfl) ?_ | simp -implicitDefEqProofs (disch := omega) only [go_sem, Nat.reduceAdd, Nat.reduceSub, reduceCtorEq, Nat.reduceLT, Nat.reduceLeDiff, Nat.reduceEqDiff, ↓reduceIte, List.take_of_length_le, if_pos, if_neg, getD_exs, cnE, cnV, Tryz.ntmps138, Tryz.results138,  hge, n2, opQ_none])
          refine InlK_intro rfl rfl can_SliceDim ((hsl (B.e.getD k ex0).v d s hsh).call (by simp only [go_sem, ints]) ?_)
          rw [hss]
          simp only [mdR, mdN]
          repeat' (first | with_reducible first | refine kI (by kernel_rfl) ?_ | simp -implicitDefEqProofs (disch := omega) only [go_sem, Nat.reduceAdd, Nat.reduceSub, reduceCtorEq, Nat.reduceLT, Nat.reduceLeDiff, Nat.reduceEqDiff, ↓reduceIte, List.take_of_length_le, if_pos, if_neg, getD_exs, cnE, cnV, Tryz.ntmps138, Tryz.results138])
          exact ret_B0
        | true =>
          rw [e3, if_pos rfl] at hss
          rw [opt_t ⟨rfl, rfl, e4, rfl⟩]
          have hwk := hok e3
          repeat' (first | with_reducible first | refine kI (by kernel_rfl) ?_ | simp -implicitDefEqProofs (disch := omega) only [go_sem, Nat.reduceAdd, Nat.reduceSub, reduceCtorEq, Nat.reduceLT, Nat.reduceLeDiff, Nat.reduceEqDiff, ↓reduceIte, List.take_of_length_le, if_pos, if_neg, getD_exs, cnE, cnV, Tryz.ntmps138, Tryz.results138,  hb, q1, ho, q2, e4'])
          refine DrawQ.pend 12 47 [([0, 1, 2, 3, 4, 5, 6, 7], 8, []), ([9, 10, 11, 12], 13, [11])] [14] [11] rfl (by kernel_rfl) ?_
          repeat' (first | with_reducible first | refine kI (by kernel_rfl) ?_ | simp -implicitDefEqProofs (disch := omega) only [go_sem, Nat.reduceAdd, Nat.reduceSub, reduceCtorEq, Nat.reduceLT, Nat.reduceLeDiff, Nat.reduceEqDiff, ↓reduceIte, List.take_of_length_le, if_pos, if_neg, getD_exs, cnE, cnV, Tryz.ntmps138, Tryz.results138,  hge, n2, opQ_none])
          refine InlK_intro rfl rfl can_SliceDim ((hsl (B.e.getD k ex0).v d s hsh).call (by simp only [go_sem, ints]) ?_)
          rw [hss]
          simp only [mdR, mdN]
          generalize (sliR (B.e.getD k ex0).v d s).1 = w at *
          repeat' (first | with_reducible first | refine kI (by kernel_rfl) ?_ | simp -implicitDefEqProofs (disch := omega) only [go_sem, Nat.reduceAdd, Nat.reduceSub, reduceCtorEq, Nat.reduceLT, Nat.reduceLeDiff, Nat.reduceEqDiff, ↓reduceIte, List.take_of_length_le, if_pos, if_neg, getD_exs, cnE, cnV, Tryz.ntmps138, Tryz.results138,  n1, opQ_none])
          refine InlK_intro rfl rfl can_added ((hadd B k w (bfM_of e1) (viM_of hwk)).call ?_ ?_)
          · simp -implicitDefEqProofs only [go_sem, Nat.reduceAdd, Nat.reduceSub, reduceCtorEq, Nat.reduceLT, Nat.reduceLeDiff, Nat.reduceEqDiff, Nat.reduceMul, Int.reduceToNat, ↓reduceIte, List.take_of_length_le, Nat.le_refl]
          · generalize addB B ⟨(k : Int), w, true⟩ = B'
            repeat' (first | with_reducible first | refine kI (by kernel_rfl) ?_ | simp -implicitDefEqProofs (disch := omega) only [go_sem, Nat.reduceAdd, Nat.reduceSub, reduceCtorEq, Nat.reduceLT, Nat.reduceLeDiff, Nat.reduceEqDiff, ↓reduceIte, List.take_of_length_le, if_pos, if_neg, getD_exs, cnE, cnV, Tryz.ntmps138, Tryz.results138])
            exact ret_BBc (L0 := [_, _, _, _, _, _]) (n := 6) rfl
      · have e4' : ((B.e.length : Int) == 8) = true := beq_t (by omega)
        rw [opt_f (by simp; omega)]
        repeat' (first | with_reducible first | refine kI (by kernel_rfl) ?_ | refine kN (by kernel_rfl) ?_ | simp -implicitDefEqProofs (disch := omega) only [go_sem, Nat.reduceAdd, Nat.reduceSub, reduceCtorEq, Nat.reduceLT, Nat.reduceLeDiff, Nat.reduceEqDiff, ↓reduceIte, List.take_of_length_le, if_pos, if_neg, getD_exs, cnE, cnV, Tryz.ntmps138, Tryz.results138,  hb, q1, ho, q2, e4'])
        exact ret_B0
end Go.Proofs.YtkmnepmnjpdpkaaGreatDoor
namespace Go.Proofs.YtkmnepmnjpdpkaaGreatDoor
open Go Go.Ev Go.RowKit Go.Ev.Enc Go.Pl

def filC (B : Bf) (id x : Int) : List Int := stoT B.c (offF (vwB B id)) (repV (vwB B id) x) (offF (vwB B id)).length
def filXO (B : Bf) (id x : Int) : Option Bf := opt (bufOK B = true ∧ opnB B id = true ∧ inR x 0 255 = true) ⟨filC B id x, B.e⟩
theorem exAt_e {L : List Blk} {e : List Ex} (h : e = []) : exAt L .nilS e := .inl ⟨h, rfl⟩
theorem exAt_b {L : List Blk} {e : List Ex} {j : Nat} (h : e ≠ []) (hj : L[j]? = some (exB 1 e)) : exAt L (.sl j e.length 0 e.length e.length) e := .inr ⟨h, j, rfl, hj⟩
set_option maxHeartbeats 4000000 in
set_option maxRecDepth 100000 in
theorem o_FillExportS {Sg : FuncId → Option (List AV → Option AV)} (hS : Sound Tryz.prog Sg) (hb : Sg 66 = some (F1 gBuf)) (ho : Sg 142 = some (F2 gOpnS)) (hr : Sg 100 = some (F3 gInRange)) (n1 : Sg 59 = none) (n2 : Sg 169 = none) (B : Bf) (id x : Int) (h : bfB B) (hcb : CpBS) (hcp : CopyV) (hfv : ∀ (m : List Int) (v : Vi) (x : Int), holdB m v = true → inR x 0 255 = true → OSpec Tryz.prog 169 [ints 0 m, .agg [i64 v.b, ints 0 v.sh, ints 0 v.st], i64 x] (icR (some (stoT m (offF v) (repV v x) (offF v).length))) (icN (some (stoT m (offF v) (repV v x) (offF v).length)))) : OSpec Tryz.prog 139 [bfA 0 B, i64 id, i64 x] (bbR (filXO B id x)) (bbN (filXO B id x)) := by
  refine OSpec.ofR Tryz.func139 rfl (vc3_sound Tryz.pf hS hS _ _ _ ?_)
  have q1 := gBuf_eq h
  have q2 := gOpnS_eq h id
  have q3 := gInRange_eq x 0 255
  unfold filXO
  cases e1 : bufOK B with
  | false =>
    rw [e1] at q1
    rw [opt_f (by simp)]
    repeat' (first | with_reducible first | refine kI (by kernel_rfl) ?_ | refine kN (by kernel_rfl) ?_ | simp -implicitDefEqProofs (disch := omega) only [go_sem, Nat.reduceAdd, Nat.reduceSub, reduceCtorEq, Nat.reduceLT, Nat.reduceLeDiff, Nat.reduceEqDiff, ↓reduceIte, List.take_of_length_le, if_pos, if_neg, getD_exs, cnE, cnV, Tryz.ntmps139, Tryz.results139,  hb, q1])
    exact ret_B0
  | true =>
    rw [e1] at q1
    cases e2 : opnB B id with
    | false =>
      rw [e2] at q2
      rw [opt_f (by simp)]
      repeat' (first | with_reducible first | refine kI (by kernel_rfl) ?_ | refine kN (by kernel_rfl) ?_ | simp -implicitDefEqProofs (disch := omega) only [go_sem, Nat.reduceAdd, Nat.reduceSub, reduceCtorEq, Nat.reduceLT, Nat.reduceLeDiff, Nat.reduceEqDiff, ↓reduceIte, List.take_of_length_le, if_pos, if_neg, getD_exs, cnE, cnV, Tryz.ntmps139, Tryz.results139,  hb, q1, ho, q2])
      exact ret_B0
    | true =>
      rw [e2] at q2
      cases e3 : inR x 0 255 with
      | false =>
        rw [e3] at q3
        rw [opt_f (by simp)]
        repeat' (first | with_reducible first | refine kI (by kernel_rfl) ?_ | refine kN (by kernel_rfl) ?_ | simp -implicitDefEqProofs (disch := omega) only [go_sem, Nat.reduceAdd, Nat.reduceSub, reduceCtorEq, Nat.reduceLT, Nat.reduceLeDiff, Nat.reduceEqDiff, ↓reduceIte, List.take_of_length_le, if_pos, if_neg, getD_exs, cnE, cnV, Tryz.ntmps139, Tryz.results139,  hb, q1, ho, q2, hr, q3])
        exact ret_B0
      | true =>
        rw [e3] at q3
        rw [opt_t ⟨rfl, rfl, rfl⟩]
        obtain ⟨k, rfl, hk, hko⟩ := opnB_iff.1 e2
        have hge := getD_exs (t := 0) hk
        have hh := opn_hold e1 hk hko
        have hC : filC B (k : Int) x = stoT B.c (offF (B.e.getD k ex0).v) (repV (B.e.getD k ex0).v x) (offF (B.e.getD k ex0).v).length := rfl
        have hfc := hfv B.c (B.e.getD k ex0).v x hh e3
        rw [← hC] at hfc
        generalize filC B (k : Int) x = C at *
        by_cases he : B.e = []
        · rw [he] at hk; simp at hk
        · have hx := fun n => exR_ne (n := n) he
          have hN := exN_ne he
          repeat' (first | with_reducible first | refine kI (by kernel_rfl) ?_ | simp -implicitDefEqProofs (disch := omega) only [go_sem, Nat.reduceAdd, Nat.reduceSub, reduceCtorEq, Nat.reduceLT, Nat.reduceLeDiff, Nat.reduceEqDiff, ↓reduceIte, List.take_of_length_le, if_pos, if_neg, getD_exs, cnE, cnV, Tryz.ntmps139, Tryz.results139,  hb, q1, ho, q2, hr, q3, n1, opQ_none])
          refine InlK_intro rfl rfl can_copyBufferS ((hcb B (bfM_of e1)).call (by simp only [go_sem, ints]) ?_)
          repeat' (first | with_reducible first | refine kI (by kernel_rfl) ?_ | simp -implicitDefEqProofs (disch := omega) only [go_sem, Nat.reduceAdd, Nat.reduceSub, reduceCtorEq, Nat.reduceLT, Nat.reduceLeDiff, Nat.reduceEqDiff, ↓reduceIte, List.take_of_length_le, if_pos, if_neg, getD_exs, cnE, cnV, Tryz.ntmps139, Tryz.results139,  hx, hN])
          refine DrawQ.any2 [([0, 1, 2, 3, 4, 5, 6, 7, 8], 9, []), ([10, 11, 12, 13], 14, [12])] [] [12] (by kernel_rfl) ?_
          repeat' (first | with_reducible first | refine kI (by kernel_rfl) ?_ | simp -implicitDefEqProofs (disch := omega) only [go_sem, Nat.reduceAdd, Nat.reduceSub, reduceCtorEq, Nat.reduceLT, Nat.reduceLeDiff, Nat.reduceEqDiff, ↓reduceIte, List.take_of_length_le, if_pos, if_neg, getD_exs, cnE, cnV, Tryz.ntmps139, Tryz.results139,  hge, n2, opQ_none])
          refine InlK_intro rfl rfl can_FillViewS (hfc.call (by simp only [go_sem, ints]) ?_)
          simp only [icR, icN]
          repeat' (first | with_reducible first | refine kI (by kernel_rfl) ?_ | simp -implicitDefEqProofs (disch := omega) only [go_sem, Nat.reduceAdd, Nat.reduceSub, reduceCtorEq, Nat.reduceLT, Nat.reduceLeDiff, Nat.reduceEqDiff, ↓reduceIte, List.take_of_length_le, if_pos, if_neg, getD_exs, cnE, cnV, Tryz.ntmps139, Tryz.results139,  hx, hN])
          exact ret_BB (B := ⟨C, B.e⟩) (i := 5) rfl (exAt_b he (j := 3) rfl) (by intro j v o n c hj; cases hj; decide)
def cpyXO (B : Bf) (a b : Int) : Option Bf := opt (bufOK B = true ∧ opnB B a = true ∧ opnB B b = true ∧ cpyB B.c (vwB B a) (vwB B b) = true) ⟨stoV B.c (vwB B a) (tkn B.c (offF (vwB B b))), B.e⟩
def CpyVS : Prop := ∀ (m : List Int) (a b : Vi), mB2 m a b → OSpec Tryz.prog 170 [ints 0 m, .agg [i64 a.b, ints 0 a.sh, ints 0 a.st], .agg [i64 b.b, ints 0 b.sh, ints 0 b.st]] (icR (cpyO m a b)) (icN (cpyO m a b))
set_option maxHeartbeats 4000000 in
set_option maxRecDepth 100000 in
theorem o_CopyExportS {Sg : FuncId → Option (List AV → Option AV)} (hS : Sound Tryz.prog Sg) (hb : Sg 66 = some (F1 gBuf)) (ho : Sg 142 = some (F2 gOpnS)) (n1 : Sg 59 = none) (n2 : Sg 170 = none) (B : Bf) (a b : Int) (h : bfB B) (hcb : CpBS) (hcw : CpyVS) : OSpec Tryz.prog 140 [bfA 0 B, i64 a, i64 b] (bbR (cpyXO B a b)) (bbN (cpyXO B a b)) := by
  refine OSpec.ofR Tryz.func140 rfl (vc3_sound Tryz.pf hS hS _ _ _ ?_)
  have q1 := gBuf_eq h
  have q2 := gOpnS_eq h a
  have q3 := gOpnS_eq h b
  unfold cpyXO
  cases e1 : bufOK B with
  | false =>
    rw [e1] at q1
    rw [opt_f (by simp)]
    repeat' (first | with_reducible first | refine kI (by kernel_rfl) ?_ | refine kN (by kernel_rfl) ?_ | simp -implicitDefEqProofs (disch := omega) only [go_sem, Nat.reduceAdd, Nat.reduceSub, reduceCtorEq, Nat.reduceLT, Nat.reduceLeDiff, Nat.reduceEqDiff, ↓reduceIte, List.take_of_length_le, if_pos, if_neg, getD_exs, cnE, cnV, Tryz.ntmps140, Tryz.results140,  hb, q1])
    exact ret_B0
  | true =>
    rw [e1] at q1
    cases e2 : opnB B a with
    | false =>
      rw [e2] at q2
      rw [opt_f (by simp)]
      repeat' (first | with_reducible first | refine kI (by kernel_rfl) ?_ | refine kN (by kernel_rfl) ?_ | simp -implicitDefEqProofs (disch := omega) only [go_sem, Nat.reduceAdd, Nat.reduceSub, reduceCtorEq, Nat.reduceLT, Nat.reduceLeDiff, Nat.reduceEqDiff, ↓reduceIte, List.take_of_length_le, if_pos, if_neg, getD_exs, cnE, cnV, Tryz.ntmps140, Tryz.results140,  hb, q1, ho, q2])
      exact ret_B0
    | true =>
      rw [e2] at q2
      cases e3 : opnB B b with
      | false =>
        rw [e3] at q3
        rw [opt_f (by simp)]
        repeat' (first | with_reducible first | refine kI (by kernel_rfl) ?_ | refine kN (by kernel_rfl) ?_ | simp -implicitDefEqProofs (disch := omega) only [go_sem, Nat.reduceAdd, Nat.reduceSub, reduceCtorEq, Nat.reduceLT, Nat.reduceLeDiff, Nat.reduceEqDiff, ↓reduceIte, List.take_of_length_le, if_pos, if_neg, getD_exs, cnE, cnV, Tryz.ntmps140, Tryz.results140,  hb, q1, ho, q2, q3])
        exact ret_B0
      | true =>
        rw [e3] at q3
        obtain ⟨k, rfl, hk, hko⟩ := opnB_iff.1 e2
        obtain ⟨j, rfl, hj, hjo⟩ := opnB_iff.1 e3
        have hge := getD_exs (t := 0) hk
        have hgj := getD_exs (t := 0) hj
        have hv := (exOK_iff.1 ((bufOK_iff.1 e1).2.2 k hk)).2.1
        have hw := (exOK_iff.1 ((bufOK_iff.1 e1).2.2 j hj)).2.1
        have h60 := (memOK_iff.1 (bufOK_iff.1 e1).1).1
        have hcc := hcw B.c (B.e.getD k ex0).v (B.e.getD j ex0).v ⟨by omega, ok_viB hv, ok_viB hw⟩
        unfold cpyO at hcc
        have e5 : vwB B (k : Int) = (B.e.getD k ex0).v := rfl
        have e6 : vwB B (j : Int) = (B.e.getD j ex0).v := rfl
        rw [e5, e6]
        cases e4 : cpyB B.c (B.e.getD k ex0).v (B.e.getD j ex0).v with
        | false =>
          rw [e4, if_neg (by simp)] at hcc
          rw [opt_f (by simp)]
          repeat' (first | with_reducible first | refine kI (by kernel_rfl) ?_ | simp -implicitDefEqProofs (disch := omega) only [go_sem, Nat.reduceAdd, Nat.reduceSub, reduceCtorEq, Nat.reduceLT, Nat.reduceLeDiff, Nat.reduceEqDiff, ↓reduceIte, List.take_of_length_le, if_pos, if_neg, getD_exs, cnE, cnV, Tryz.ntmps140, Tryz.results140,  hb, q1, ho, q2, q3])
          refine DrawQ.any [([0, 1, 2, 3, 4, 5, 6, 7, 8, 9, 10, 11, 12, 13], 14)] [15, 16, 17, 18, 19] [] (by kernel_rfl) ?_
          repeat' (first | with_reducible first | refine kI (by kernel_rfl) ?_ | simp -implicitDefEqProofs (disch := omega) only [go_sem, Nat.reduceAdd, Nat.reduceSub, reduceCtorEq, Nat.reduceLT, Nat.reduceLeDiff, Nat.reduceEqDiff, ↓reduceIte, List.take_of_length_le, if_pos, if_neg, getD_exs, cnE, cnV, Tryz.ntmps140, Tryz.results140,  hge, hgj, n2, opQ_none])
          refine InlK_intro rfl rfl can_CopyViewS (hcc.call (by simp only [go_sem, ints]) ?_)
          simp only [icR, icN]
          repeat' (first | with_reducible first | refine kI (by kernel_rfl) ?_ | simp -implicitDefEqProofs (disch := omega) only [go_sem, Nat.reduceAdd, Nat.reduceSub, reduceCtorEq, Nat.reduceLT, Nat.reduceLeDiff, Nat.reduceEqDiff, ↓reduceIte, List.take_of_length_le, if_pos, if_neg, getD_exs, cnE, cnV, Tryz.ntmps140, Tryz.results140])
          exact ret_B0
        | true =>
          rw [e4, if_pos rfl] at hcc
          rw [opt_t ⟨rfl, rfl, rfl, rfl⟩]
          generalize stoV B.c (B.e.getD k ex0).v (tkn B.c (offF (B.e.getD j ex0).v)) = C at *
          by_cases he : B.e = []
          · rw [he] at hk; simp at hk
          · have hx := fun n => exR_ne (n := n) he
            have hN := exN_ne he
            repeat' (first | with_reducible first | refine kI (by kernel_rfl) ?_ | simp -implicitDefEqProofs (disch := omega) only [go_sem, Nat.reduceAdd, Nat.reduceSub, reduceCtorEq, Nat.reduceLT, Nat.reduceLeDiff, Nat.reduceEqDiff, ↓reduceIte, List.take_of_length_le, if_pos, if_neg, getD_exs, cnE, cnV, Tryz.ntmps140, Tryz.results140,  hb, q1, ho, q2, q3])
            refine DrawQ.any [([0, 1, 2, 3, 4, 5, 6, 7, 8, 9, 10, 11, 12, 13], 14)] [15, 16, 17, 18, 19] [] (by kernel_rfl) ?_
            repeat' (first | with_reducible first | refine kI (by kernel_rfl) ?_ | simp -implicitDefEqProofs (disch := omega) only [go_sem, Nat.reduceAdd, Nat.reduceSub, reduceCtorEq, Nat.reduceLT, Nat.reduceLeDiff, Nat.reduceEqDiff, ↓reduceIte, List.take_of_length_le, if_pos, if_neg, getD_exs, cnE, cnV, Tryz.ntmps140, Tryz.results140,  hge, hgj, n2, opQ_none])
            refine InlK_intro rfl rfl can_CopyViewS (hcc.call (by simp only [go_sem, ints]) ?_)
            simp only [icR, icN]
            repeat' (first | with_reducible first | refine kI (by kernel_rfl) ?_ | simp -implicitDefEqProofs (disch := omega) only [go_sem, Nat.reduceAdd, Nat.reduceSub, reduceCtorEq, Nat.reduceLT, Nat.reduceLeDiff, Nat.reduceEqDiff, ↓reduceIte, List.take_of_length_le, if_pos, if_neg, getD_exs, cnE, cnV, Tryz.ntmps140, Tryz.results140,  n1, opQ_none])
            refine InlK_intro rfl rfl can_copyBufferS ((hcb B (bfM_of e1)).call (by simp only [go_sem, ints]) ?_)
            repeat' (first | with_reducible first | refine kI (by kernel_rfl) ?_ | simp -implicitDefEqProofs (disch := omega) only [go_sem, Nat.reduceAdd, Nat.reduceSub, reduceCtorEq, Nat.reduceLT, Nat.reduceLeDiff, Nat.reduceEqDiff, ↓reduceIte, List.take_of_length_le, if_pos, if_neg, getD_exs, cnE, cnV, Tryz.ntmps140, Tryz.results140,  hx, hN])
            exact ret_BB (B := ⟨C, B.e⟩) (i := 2) rfl (exAt_b he (j := 4) rfl) (by intro j v o n c hj; cases hj; decide)
end Go.Proofs.YtkmnepmnjpdpkaaGreatDoor
namespace Go.Proofs.YtkmnepmnjpdpkaaGreatDoor
open Go Go.Ev Go.RowKit Go.Ev.Enc Go.Pl

def cloE (E : List Ex) (k : Nat) : List Ex := E.set k ⟨(E.getD k ex0).p, (E.getD k ex0).v, false⟩
theorem set_exs (t : Nat) (l : List Ex) (k : Nat) (x : Ex) : (exL t l).set k (.agg [.int .i64 x.p, .int .i64 x.v.b, ints t x.v.sh, ints t x.v.st, .bool false]) = exL t (l.set k ⟨x.p, x.v, false⟩) := by
  simp only [exL, List.map_set]
def relXO (B : Bf) (id : Int) : Option Bf := opt (bufOK B = true ∧ opnB B id = true ∧ kidF B id = []) ⟨B.c, cloE B.e id.toNat⟩
set_option maxHeartbeats 4000000 in
set_option maxRecDepth 100000 in
theorem o_ReleaseExportS {Sg : FuncId → Option (List AV → Option AV)} (hS : Sound Tryz.prog Sg) (hb : Sg 66 = some (F1 gBuf)) (ho : Sg 142 = some (F2 gOpnS)) (hk : Sg 171 = some (F2 gKidS)) (n1 : Sg 59 = none) (B : Bf) (id : Int) (h : bfB B) (hcb : CpBS) : OSpec Tryz.prog 141 [bfA 0 B, i64 id] (bbR (relXO B id)) (bbN (relXO B id)) := by
  refine OSpec.ofR Tryz.func141 rfl (vc3_sound Tryz.pf hS hS _ _ _ ?_)
  have q1 := gBuf_eq h
  have q2 := gOpnS_eq h id
  have q3 := gKidS_eq h id
  unfold relXO
  cases e1 : bufOK B with
  | false =>
    rw [e1] at q1
    rw [opt_f (by simp)]
    repeat' (first | with_reducible first | refine kI (by kernel_rfl) ?_ | refine kN (by kernel_rfl) ?_ | simp -implicitDefEqProofs (disch := omega) only [go_sem, Nat.reduceAdd, Nat.reduceSub, reduceCtorEq, Nat.reduceLT, Nat.reduceLeDiff, Nat.reduceEqDiff, ↓reduceIte, List.take_of_length_le, if_pos, if_neg, getD_exs, cnE, cnV, Tryz.ntmps141, Tryz.results141,  hb, q1])
    exact ret_B0
  | true =>
    rw [e1] at q1
    cases e2 : opnB B id with
    | false =>
      rw [e2] at q2
      rw [opt_f (by simp)]
      repeat' (first | with_reducible first | refine kI (by kernel_rfl) ?_ | refine kN (by kernel_rfl) ?_ | simp -implicitDefEqProofs (disch := omega) only [go_sem, Nat.reduceAdd, Nat.reduceSub, reduceCtorEq, Nat.reduceLT, Nat.reduceLeDiff, Nat.reduceEqDiff, ↓reduceIte, List.take_of_length_le, if_pos, if_neg, getD_exs, cnE, cnV, Tryz.ntmps141, Tryz.results141,  hb, q1, ho, q2])
      exact ret_B0
    | true =>
      rw [e2] at q2
      by_cases e3 : kidF B id = []
      · rw [e3] at q3
        rw [opt_t ⟨rfl, rfl, e3⟩]
        obtain ⟨k, rfl, hkk, hko⟩ := opnB_iff.1 e2
        rw [Int.toNat_natCast]
        have hge := getD_exs (t := 1) hkk
        have hse := set_exs 1 B.e k (B.e.getD k ex0)
        have hcl : (cloE B.e k).length = B.e.length := List.length_set
        by_cases he : B.e = []
        · rw [he] at hkk; simp at hkk
        · have hx := fun n => exR_ne (n := n) he
          have hN := exN_ne he
          repeat' (first | with_reducible first | refine kI (by kernel_rfl) ?_ | simp -implicitDefEqProofs (disch := omega) only [go_sem, Nat.reduceAdd, Nat.reduceSub, reduceCtorEq, Nat.reduceLT, Nat.reduceLeDiff, Nat.reduceEqDiff, ↓reduceIte, List.take_of_length_le, if_pos, if_neg, getD_exs, cnE, cnV, Tryz.ntmps141, Tryz.results141,  hb, q1, ho, q2, hk, q3, n1, opQ_none])
          refine InlK_intro rfl rfl can_copyBufferS ((hcb B (bfM_of e1)).call (by simp only [go_sem, ints]) ?_)
          repeat' (first | with_reducible first | refine kI (by kernel_rfl) ?_ | simp -implicitDefEqProofs (disch := omega) only [go_sem, Nat.reduceAdd, Nat.reduceSub, reduceCtorEq, Nat.reduceLT, Nat.reduceLeDiff, Nat.reduceEqDiff, ↓reduceIte, List.take_of_length_le, if_pos, if_neg, getD_exs, cnE, cnV, Tryz.ntmps141, Tryz.results141,  hx, hN, hge, hse])
          have hne : cloE B.e k ≠ [] := by intro h0; rw [h0] at hcl; exact he (List.eq_nil_of_length_eq_zero hcl.symm)
          rw [← hcl]
          exact ret_BB (B := ⟨B.c, cloE B.e k⟩) (i := 2) rfl (exAt_b hne (j := 3) (by rw [hcl]; rfl)) (by intro j v o n c hj; cases hj; decide)
      · have e3' : (0 : Int) < ((kidF B id).length : Int) := by
          have := List.length_pos_iff.2 e3
          omega
        rw [opt_f (by simp [e3])]
        repeat' (first | with_reducible first | refine kI (by kernel_rfl) ?_ | refine kN (by kernel_rfl) ?_ | simp -implicitDefEqProofs (disch := omega) only [go_sem, Nat.reduceAdd, Nat.reduceSub, reduceCtorEq, Nat.reduceLT, Nat.reduceLeDiff, Nat.reduceEqDiff, ↓reduceIte, List.take_of_length_le, if_pos, if_neg, getD_exs, cnE, cnV, Tryz.ntmps141, Tryz.results141,  hb, q1, ho, q2, hk, q3, e3'])
        exact ret_B0
def rszK (c : List Int) (n i : Nat) : List Int := c.take i ++ List.replicate (n - i) 0
theorem rszK_len {c : List Int} {n i : Nat} (h1 : i ≤ n) (h2 : i ≤ c.length) : (rszK c n i).length = n := by
  unfold rszK
  rw [List.length_append, List.length_take, List.length_replicate]; omega
theorem rszK_set {c : List Int} {n i : Nat} (h1 : i < n) (h2 : i < c.length) : (rszK c n i).set i (c.getD i 0) = rszK c n (i + 1) := by
  unfold rszK
  have e : (c.take i).length = i := by rw [List.length_take]; omega
  rw [List.set_append_right _ _ (by omega), e, Nat.sub_self, show n - i = (n - (i + 1)) + 1 by omega, List.replicate_succ, List.set_cons_zero, List.take_succ_eq_append_getElem h2, List.append_assoc]
  simp [h2]
def rszC (c : List Int) (n : Nat) : List Int := rszK c n (min n c.length)
theorem rszC_len (c : List Int) (n : Nat) : (rszC c n).length = n := rszK_len (Nat.min_le_left _ _) (Nat.min_le_right _ _)
def rszXO (B : Bf) (n : Int) : Option Bf := opt (bufOK B = true ∧ inR n 0 60 = true ∧ opF B = []) ⟨rszC B.c n.toNat, B.e⟩
theorem rszK_0 (c : List Int) (n : Nat) : rszK c n 0 = List.replicate n 0 := by simp [rszK]
set_option maxHeartbeats 4000000 in
set_option maxRecDepth 100000 in
theorem o_ResizeBufferS {Sg : FuncId → Option (List AV → Option AV)} (hS : Sound Tryz.prog Sg) (hb : Sg 66 = some (F1 gBuf)) (ho : Sg 122 = some (F1 gOpF)) (hr : Sg 100 = some (F3 gInRange)) (n1 : Sg 59 = none) (B : Bf) (n : Int) (h : bfB B) (hcb : CpBS) : OSpec Tryz.prog 136 [bfA 0 B, i64 n] (bbR (rszXO B n)) (bbN (rszXO B n)) := by
  refine OSpec.ofR Tryz.func136 rfl (vc3_sound Tryz.pf hS hS _ _ _ ?_)
  have q1 := gBuf_eq h
  have q2 := gOpF_eq h
  have q3 := gInRange_eq n 0 60
  unfold rszXO
  cases e1 : bufOK B with
  | false =>
    rw [e1] at q1
    rw [opt_f (by simp)]
    repeat' (first | with_reducible first | refine kI (by kernel_rfl) ?_ | refine kN (by kernel_rfl) ?_ | simp -implicitDefEqProofs (disch := omega) only [go_sem, Nat.reduceAdd, Nat.reduceSub, reduceCtorEq, Nat.reduceLT, Nat.reduceLeDiff, Nat.reduceEqDiff, ↓reduceIte, List.take_of_length_le, if_pos, if_neg, getD_exs, cnE, cnV, Tryz.ntmps136, Tryz.results136,  hb, q1])
    exact ret_B0
  | true =>
    rw [e1] at q1
    rw [e1, if_pos rfl] at q2
    cases e2 : inR n 0 60 with
    | false =>
      rw [e2] at q3
      rw [opt_f (by simp)]
      repeat' (first | with_reducible first | refine kI (by kernel_rfl) ?_ | refine kN (by kernel_rfl) ?_ | simp -implicitDefEqProofs (disch := omega) only [go_sem, Nat.reduceAdd, Nat.reduceSub, reduceCtorEq, Nat.reduceLT, Nat.reduceLeDiff, Nat.reduceEqDiff, ↓reduceIte, List.take_of_length_le, if_pos, if_neg, getD_exs, cnE, cnV, Tryz.ntmps136, Tryz.results136,  hb, q1, hr, q3])
      exact ret_B0
    | true =>
      rw [e2] at q3
      unfold inR at e2
      simp only [Bool.and_eq_true, decide_eq_true_eq] at e2
      obtain ⟨m, rfl⟩ : ∃ m : Nat, n = m := ⟨n.toNat, by omega⟩
      rw [Int.toNat_natCast]
      have hm : m ≤ 60 := by omega
      by_cases e3 : opF B = []
      · rw [e3] at q2
        rw [opt_t ⟨rfl, rfl, e3⟩]
        by_cases he : B.e = []
        · repeat' (first | with_reducible first | refine kI (by kernel_rfl) ?_ | simp -implicitDefEqProofs (disch := omega) only [go_sem, Nat.reduceAdd, Nat.reduceSub, reduceCtorEq, Nat.reduceLT, Nat.reduceLeDiff, Nat.reduceEqDiff, ↓reduceIte, List.take_of_length_le, if_pos, if_neg, getD_exs, cnE, cnV, Tryz.ntmps136, Tryz.results136,  hb, q1, hr, q3, ho, q2, n1, opQ_none])
          refine InlK_intro rfl rfl can_copyBufferS ((hcb B (bfM_of e1)).call (by simp only [go_sem, ints]) ?_)
          repeat' (first | with_reducible first | refine kI (by kernel_rfl) ?_ | simp -implicitDefEqProofs (disch := omega) only [go_sem, Nat.reduceAdd, Nat.reduceSub, reduceCtorEq, Nat.reduceLT, Nat.reduceLeDiff, Nat.reduceEqDiff, ↓reduceIte, List.take_of_length_le, if_pos, if_neg, getD_exs, cnE, cnV, Tryz.ntmps136, Tryz.results136,  exR, exN, he])
          refine LoopQ.mix (fun t0 L0 nn ss => ∃ (i : Nat) (_ : Unit), (∃ x : Nat → AV, ss = ⟨mixL 0 (.k :: .k :: .k :: .k :: .k :: .k :: .k :: .v (i64 (i : Nat)) :: .k :: .k :: .k :: .k :: .k :: .k :: .k :: .k :: .k :: .k :: .k :: .k :: .k :: .k :: .k :: .k :: .k :: .k :: .k :: .k :: .s :: .s :: .s :: .s :: .s :: .s :: .s :: .s :: .s :: .s :: .s :: .s :: .s :: .s :: .s :: .s :: .s :: .s :: .s :: .s :: .s :: .k :: []) t0 x, [⟨2, [bfA 0 B]⟩, ⟨2, [.agg [.nilS, .nilS]]⟩, stB B.c, ⟨2, [.agg [.sl 4 m 0 m m, .nilS]]⟩, stB (rszK B.c m i)]⟩) ∧ (i ≤ m) ∧ (i ≤ B.c.length) ∧ nn = m - i) ?_ ?_
          · exact ⟨_, ⟨0, (), mixJ rfl (by rw [rszK_0]), Nat.zero_le _, Nat.zero_le _, rfl⟩⟩
          · rintro I0 hI0 nn ss ⟨i, _, ⟨y, rfl⟩, g1, g2, rfl⟩
            have hkl := rszK_len g1 g2
            by_cases hi : i < m
            · have hii : (i : Int) < (m : Int) := by omega
              by_cases hj : i < B.c.length
              · have hji : (i : Int) < (B.c.length : Int) := by omega
                have hse := rszK_set hi hj
                have him : i < (rszK B.c m i).length := by omega
                repeat' (first | with_reducible first | refine kI (by kernel_rfl) ?_ | simp -implicitDefEqProofs (disch := omega) only [go_sem, Nat.reduceAdd, Nat.reduceSub, reduceCtorEq, Nat.reduceLT, Nat.reduceLeDiff, Nat.reduceEqDiff, ↓reduceIte, List.take_of_length_le, if_pos, if_neg, getD_exs, cnE, cnV, Tryz.ntmps136, Tryz.results136,  hii, hji])
                refine DrawQ.any [([0, 1, 2, 3, 4, 5, 6, 7, 8], 9)] [] [] (by kernel_rfl) ?_
                repeat' (first | with_reducible first | refine kI (by kernel_rfl) ?_ | simp -implicitDefEqProofs (disch := omega) only [go_sem, Nat.reduceAdd, Nat.reduceSub, reduceCtorEq, Nat.reduceLT, Nat.reduceLeDiff, Nat.reduceEqDiff, ↓reduceIte, List.take_of_length_le, if_pos, if_neg, getD_exs, cnE, cnV, Tryz.ntmps136, Tryz.results136,  hii, getD_ints hj, hkl, hse])
                exact ⟨m - (i + 1), by omega, hI0 _ _ ⟨i + 1, (), mixI rfl, hi, hj, rfl⟩⟩
              · have hji : ¬ (i : Int) < (B.c.length : Int) := by omega
                obtain rfl : i = B.c.length := by omega
                have hC : rszK B.c m B.c.length = rszC B.c m := by unfold rszC; rw [Nat.min_eq_right (by omega)]
                rw [hC]
                repeat' (first | with_reducible first | refine kI (by kernel_rfl) ?_ | simp -implicitDefEqProofs (disch := omega) only [go_sem, Nat.reduceAdd, Nat.reduceSub, reduceCtorEq, Nat.reduceLT, Nat.reduceLeDiff, Nat.reduceEqDiff, ↓reduceIte, List.take_of_length_le, if_pos, if_neg, getD_exs, cnE, cnV, Tryz.ntmps136, Tryz.results136,  hii, hji])
                rw [show (.sl 4 m 0 m m : AV) = .sl 4 (rszC B.c m).length 0 (rszC B.c m).length (rszC B.c m).length by rw [rszC_len]]
                exact ret_BB (B := ⟨rszC B.c m, []⟩) (i := 4) rfl (exAt_e rfl) (by intro j v o n c hj; cases hj)
            · obtain rfl : i = m := by omega
              have hC : rszK B.c i i = rszC B.c i := by unfold rszC; rw [Nat.min_eq_left (by omega)]
              rw [hC]
              have hz := rszC_len B.c i
              repeat' (first | with_reducible first | refine kI (by kernel_rfl) ?_ | simp -implicitDefEqProofs (disch := omega) only [go_sem, Nat.reduceAdd, Nat.reduceSub, reduceCtorEq, Nat.reduceLT, Nat.reduceLeDiff, Nat.reduceEqDiff, ↓reduceIte, List.take_of_length_le, if_pos, if_neg, getD_exs, cnE, cnV, Tryz.ntmps136, Tryz.results136])
              rw [show (.sl 4 i 0 i i : AV) = .sl 4 (rszC B.c i).length 0 (rszC B.c i).length (rszC B.c i).length by rw [rszC_len]]
              exact ret_BB (B := ⟨rszC B.c i, []⟩) (i := 4) rfl (exAt_e rfl) (by intro j v o n c hj; cases hj)
        · have hx := fun n => exR_ne (n := n) he
          have hN := exN_ne he
          repeat' (first | with_reducible first | refine kI (by kernel_rfl) ?_ | simp -implicitDefEqProofs (disch := omega) only [go_sem, Nat.reduceAdd, Nat.reduceSub, reduceCtorEq, Nat.reduceLT, Nat.reduceLeDiff, Nat.reduceEqDiff, ↓reduceIte, List.take_of_length_le, if_pos, if_neg, getD_exs, cnE, cnV, Tryz.ntmps136, Tryz.results136,  hb, q1, hr, q3, ho, q2, n1, opQ_none])
          refine InlK_intro rfl rfl can_copyBufferS ((hcb B (bfM_of e1)).call (by simp only [go_sem, ints]) ?_)
          repeat' (first | with_reducible first | refine kI (by kernel_rfl) ?_ | simp -implicitDefEqProofs (disch := omega) only [go_sem, Nat.reduceAdd, Nat.reduceSub, reduceCtorEq, Nat.reduceLT, Nat.reduceLeDiff, Nat.reduceEqDiff, ↓reduceIte, List.take_of_length_le, if_pos, if_neg, getD_exs, cnE, cnV, Tryz.ntmps136, Tryz.results136,  hx, hN])
          refine LoopQ.mix (fun t0 L0 nn ss => ∃ (i : Nat) (_ : Unit), (∃ x : Nat → AV, ss = ⟨mixL 0 (.k :: .k :: .k :: .k :: .k :: .k :: .k :: .v (i64 (i : Nat)) :: .k :: .k :: .k :: .k :: .k :: .k :: .k :: .k :: .k :: .k :: .k :: .k :: .k :: .k :: .k :: .k :: .k :: .k :: .k :: .k :: .s :: .s :: .s :: .s :: .s :: .s :: .s :: .s :: .s :: .s :: .s :: .s :: .s :: .s :: .s :: .s :: .s :: .s :: .s :: .s :: .s :: .k :: []) t0 x, [⟨2, [bfA 0 B]⟩, ⟨2, [.agg [.nilS, .nilS]]⟩, stB B.c, exB 1 B.e, ⟨2, [.agg [.sl 5 m 0 m m, .sl 3 B.e.length 0 B.e.length B.e.length]]⟩, stB (rszK B.c m i)]⟩) ∧ (i ≤ m) ∧ (i ≤ B.c.length) ∧ nn = m - i) ?_ ?_
          · exact ⟨_, ⟨0, (), mixJ rfl (by rw [rszK_0]), Nat.zero_le _, Nat.zero_le _, rfl⟩⟩
          · rintro I0 hI0 nn ss ⟨i, _, ⟨y, rfl⟩, g1, g2, rfl⟩
            have hkl := rszK_len g1 g2
            by_cases hi : i < m
            · have hii : (i : Int) < (m : Int) := by omega
              by_cases hj : i < B.c.length
              · have hji : (i : Int) < (B.c.length : Int) := by omega
                have hse := rszK_set hi hj
                have him : i < (rszK B.c m i).length := by omega
                repeat' (first | with_reducible first | refine kI (by kernel_rfl) ?_ | simp -implicitDefEqProofs (disch := omega) only [go_sem, Nat.reduceAdd, Nat.reduceSub, reduceCtorEq, Nat.reduceLT, Nat.reduceLeDiff, Nat.reduceEqDiff, ↓reduceIte, List.take_of_length_le, if_pos, if_neg, getD_exs, cnE, cnV, Tryz.ntmps136, Tryz.results136,  hii, hji])
                refine DrawQ.any [([0, 1, 2, 3, 4, 5, 6, 7, 8], 9)] [] [] (by kernel_rfl) ?_
                repeat' (first | with_reducible first | refine kI (by kernel_rfl) ?_ | simp -implicitDefEqProofs (disch := omega) only [go_sem, Nat.reduceAdd, Nat.reduceSub, reduceCtorEq, Nat.reduceLT, Nat.reduceLeDiff, Nat.reduceEqDiff, ↓reduceIte, List.take_of_length_le, if_pos, if_neg, getD_exs, cnE, cnV, Tryz.ntmps136, Tryz.results136,  hii, getD_ints hj, hkl, hse])
                exact ⟨m - (i + 1), by omega, hI0 _ _ ⟨i + 1, (), mixI rfl, hi, hj, rfl⟩⟩
              · have hji : ¬ (i : Int) < (B.c.length : Int) := by omega
                obtain rfl : i = B.c.length := by omega
                have hC : rszK B.c m B.c.length = rszC B.c m := by unfold rszC; rw [Nat.min_eq_right (by omega)]
                rw [hC]
                repeat' (first | with_reducible first | refine kI (by kernel_rfl) ?_ | simp -implicitDefEqProofs (disch := omega) only [go_sem, Nat.reduceAdd, Nat.reduceSub, reduceCtorEq, Nat.reduceLT, Nat.reduceLeDiff, Nat.reduceEqDiff, ↓reduceIte, List.take_of_length_le, if_pos, if_neg, getD_exs, cnE, cnV, Tryz.ntmps136, Tryz.results136,  hii, hji])
                rw [show (.sl 5 m 0 m m : AV) = .sl 5 (rszC B.c m).length 0 (rszC B.c m).length (rszC B.c m).length by rw [rszC_len]]
                exact ret_BB (B := ⟨rszC B.c m, B.e⟩) (i := 5) rfl (exAt_b he (j := 3) rfl) (by intro j v o n c hj; cases hj; decide)
            · obtain rfl : i = m := by omega
              have hC : rszK B.c i i = rszC B.c i := by unfold rszC; rw [Nat.min_eq_left (by omega)]
              rw [hC]
              have hz := rszC_len B.c i
              repeat' (first | with_reducible first | refine kI (by kernel_rfl) ?_ | simp -implicitDefEqProofs (disch := omega) only [go_sem, Nat.reduceAdd, Nat.reduceSub, reduceCtorEq, Nat.reduceLT, Nat.reduceLeDiff, Nat.reduceEqDiff, ↓reduceIte, List.take_of_length_le, if_pos, if_neg, getD_exs, cnE, cnV, Tryz.ntmps136, Tryz.results136])
              rw [show (.sl 5 i 0 i i : AV) = .sl 5 (rszC B.c i).length 0 (rszC B.c i).length (rszC B.c i).length by rw [rszC_len]]
              exact ret_BB (B := ⟨rszC B.c i, B.e⟩) (i := 5) rfl (exAt_b he (j := 3) rfl) (by intro j v o n c hj; cases hj; decide)
      · have e3' : (0 : Int) < ((opF B).length : Int) := by
          have := List.length_pos_iff.2 e3
          omega
        rw [opt_f (by simp [e3])]
        repeat' (first | with_reducible first | refine kI (by kernel_rfl) ?_ | refine kN (by kernel_rfl) ?_ | simp -implicitDefEqProofs (disch := omega) only [go_sem, Nat.reduceAdd, Nat.reduceSub, reduceCtorEq, Nat.reduceLT, Nat.reduceLeDiff, Nat.reduceEqDiff, ↓reduceIte, List.take_of_length_le, if_pos, if_neg, getD_exs, cnE, cnV, Tryz.ntmps136, Tryz.results136,  hb, q1, hr, q3, ho, q2, e3'])
        exact ret_B0
end Go.Proofs.YtkmnepmnjpdpkaaGreatDoor
namespace Go.Proofs.YtkmnepmnjpdpkaaGreatDoor
open Go Go.Ev Go.RowKit Go.Ev.Enc Go.Pl

abbrev bs (l : List UInt8) : ByteArray := ⟨l.toArray⟩
instance : Enc ByteArray where
  enc _ s := .str s
  dec | .str s => some s
      | _ => none
  ok x a := by
    constructor
    · intro h; split at h <;> simp at h; rw [h]
    · rintro rfl; rfl
  own _ := .str _
theorem enc_str (t : Nat) (s : ByteArray) : (enc t s : AV) = .str s := rfl
theorem dec_str (s : ByteArray) : (dec (.str s) : Option ByteArray) = some s := rfl
attribute [go_sem] enc_str dec_str
theorem bs_app (a b : List UInt8) : bs a ++ bs b = bs (a ++ b) := by
  apply ByteArray.ext
  simp
theorem bs_size (a : List UInt8) : (bs a).size = a.length := by simp [ByteArray.size]
def cSp : ByteArray := bs [32]
def cHas : ByteArray := bs [104, 97, 115]
def cAt : ByteArray := bs [97, 116, 32]
def cNo : ByteArray := bs [110, 111]
def cOk : ByteArray := bs [111, 107]
def cNl : ByteArray := bs [10]
theorem k_sp : AV.str ⟨#[32]⟩ = AV.str cSp := rfl
theorem k_has : AV.str ⟨#[104, 97, 115]⟩ = AV.str cHas := rfl
theorem k_at : AV.str ⟨#[97, 116, 32]⟩ = AV.str cAt := rfl
theorem k_no : AV.str ⟨#[110, 111]⟩ = AV.str cNo := rfl
theorem k_ok : AV.str ⟨#[111, 107]⟩ = AV.str cOk := rfl
theorem k_nl : AV.str ⟨#[10]⟩ = AV.str cNl := rfl
attribute [go_sem] k_sp k_has k_at k_no k_ok k_nl
theorem z_sp : cSp.size = 1 := rfl
theorem z_has : cHas.size = 3 := rfl
theorem z_at : cAt.size = 3 := rfl
def numB (n : Int) : ByteArray := bs (Lib.itoa n)
def i64R (n : Int) : Prop := -9223372036854775808 ≤ n ∧ n ≤ 9223372036854775807
instance (n : Int) : Decidable (i64R n) := by unfold i64R; infer_instance
def msrN (n : Int) : Nat := 2 * n.natAbs + if n < 0 then 1 else 0
def gNumK (k : Nat) (n : Int) : Option ByteArray := gd (i64R n ∧ msrN n < k) (numB n)
theorem gNumK_eq {k : Nat} {n : Int} (h : i64R n ∧ msrN n < k) : gNumK k n = some (numB n) := gd_eq h
def gNum (n : Int) : Option ByteArray := gd (i64R n) (numB n)
theorem gNum_eq {n : Int} (h : i64R n) : gNum n = some (numB n) := gd_eq h
theorem numB_len {n : Int} (h : i64R n) : (numB n).size ≤ 21 := by
  unfold numB; rw [bs_size]; exact Lib.itoa_length_le n h.1 h.2
theorem numB_neg {n : Int} (h : n < 0) : bs [45] ++ numB (-n) = numB n := by
  unfold numB
  rw [bs_app]
  congr 2
  unfold Lib.itoa
  rw [if_pos h, if_neg (by omega)]
  simp only [List.singleton_append]
  congr 2
  omega
theorem numB_big {n : Int} (h : 10 ≤ n) : numB (n.tdiv 10) ++ numB (n.tmod 10) = numB n := by
  obtain ⟨m, rfl⟩ : ∃ m : Nat, n = m := ⟨n.toNat, by omega⟩
  unfold numB
  rw [bs_app]
  congr 2
  have e1 : (m : Int).tdiv 10 = ((m / 10 : Nat) : Int) := by rw [Int.tdiv_eq_ediv_of_nonneg (by omega)]; rfl
  have e2 : (m : Int).tmod 10 = ((m % 10 : Nat) : Int) := by rw [Int.tmod_eq_emod_of_nonneg (by omega)]; rfl
  rw [e1, e2]
  unfold Lib.itoa
  rw [if_neg (by omega), if_neg (by omega), if_neg (by omega)]
  simp only [Int.toNat_natCast]
  rw [Lib.decDigits_one (i := m % 10) (by omega)]
  conv => rhs; rw [Lib.decDigits, dif_neg (by omega)]
theorem numB_small {n : Int} (h0 : 0 ≤ n) (h : n < 10) : bs [UInt8.ofNat (48 + n.toNat)] = numB n := by
  unfold numB Lib.itoa
  rw [if_neg (by omega), Lib.decDigits_one (by omega)]
theorem numB_min : (⟨#[45, 57, 50, 50, 51, 51, 55, 50, 48, 51, 54, 56, 53, 52, 55, 55, 53, 56, 48, 56]⟩ : ByteArray) = numB (-9223372036854775808) := by
  unfold numB Lib.itoa
  rw [if_pos (by decide)]
  simp [Lib.decDigits]
theorem dig_ex : ∀ m, m < 10 → (⟨#[48, 49, 50, 51, 52, 53, 54, 55, 56, 57]⟩ : ByteArray).extract m (m + 1) = bs [UInt8.ofNat (48 + m)]
  | 0, _ => rfl
  | 1, _ => rfl
  | 2, _ => rfl
  | 3, _ => rfl
  | 4, _ => rfl
  | 5, _ => rfl
  | 6, _ => rfl
  | 7, _ => rfl
  | 8, _ => rfl
  | 9, _ => rfl
  | m + 10, h => by omega
set_option maxHeartbeats 4000000 in
set_option maxRecDepth 100000 in
theorem num_step {Sg : FuncId → Option (List AV → Option AV)} (hS : Sound Tryz.prog Sg) {k : Nat} (hk : Sg 104 = some (F1 (gNumK k))) : ∀ a r, F1 (gNumK (k + 1)) a = some r → CSpec Tryz.prog 104 a r := by
  refine F1_spec ?_
  intro n r hr
  obtain ⟨⟨h1, h2⟩, rfl⟩ := gd_some hr
  refine CSpec.intro Tryz.func104 rfl (own _) (vc3_sound Tryz.pf hS hS _ _ _ ?_)
  by_cases hn : n < 0
  · by_cases hm : n = -9223372036854775808
    · subst hm
      have hw : (-9223372036854775808 : Int) = IntKind.i64.wrap (0 - -9223372036854775808) := by decide
      repeat' (first | with_reducible first | refine kI (by kernel_rfl) ?_ | refine kN (by kernel_rfl) ?_ | simp -implicitDefEqProofs (disch := omega) only [go_sem, Nat.reduceAdd, Nat.reduceSub, reduceCtorEq, Nat.reduceLT, Nat.reduceLeDiff, Nat.reduceEqDiff, ↓reduceIte, List.take_of_length_le, if_pos, if_neg, getD_exs, cnE, cnV, Tryz.ntmps104, Tryz.results104])
      all_goals first
        | (rw [numB_min]; done)
        | (rename_i hp; exact absurd hw hp)
    · have hw : IntKind.i64.wrap (0 - n) = -n := by rw [wrap_in (by unfold i64R at h1; omega)]; omega
      have hne : (n == -n) = false := beq_f (by omega)
      have q := gNumK_eq (k := k) (n := -n) ⟨by unfold i64R at *; omega, by unfold msrN at *; rw [if_pos hn] at h2; rw [if_neg (by omega)]; omega⟩
      have hsz : 1 + (numB (-n)).size ≤ 9223372036854775807 := by have := numB_len (n := -n) (by unfold i64R at *; omega); omega
      have hnb := numB_neg hn
      repeat' (first | with_reducible first | refine kI (by kernel_rfl) ?_ | refine kN (by kernel_rfl) ?_ | simp -implicitDefEqProofs (disch := omega) only [go_sem, Nat.reduceAdd, Nat.reduceSub, reduceCtorEq, Nat.reduceLT, Nat.reduceLeDiff, Nat.reduceEqDiff, ↓reduceIte, List.take_of_length_le, if_pos, if_neg, getD_exs, cnE, cnV, Tryz.ntmps104, Tryz.results104,  hn, hw, hne, hk, q, hsz, hnb])
      try rfl
  · by_cases h10 : n < 10
    · have hw : IntKind.i64.wrap (n + 1) = n + 1 := wrap_in (by omega)
      have he := numB_small (n := n) (by omega) h10
      have hd := dig_ex n.toNat (by omega)
      have h1' : (n + 1).toNat = n.toNat + 1 := by omega
      rw [he] at hd
      repeat' (first | with_reducible first | refine kI (by kernel_rfl) ?_ | refine kN (by kernel_rfl) ?_ | simp -implicitDefEqProofs (disch := omega) only [go_sem, Nat.reduceAdd, Nat.reduceSub, reduceCtorEq, Nat.reduceLT, Nat.reduceLeDiff, Nat.reduceEqDiff, ↓reduceIte, List.take_of_length_le, if_pos, if_neg, getD_exs, cnE, cnV, Tryz.ntmps104, Tryz.results104,  hn, h10, hw, h1', hd])
      try rfl
    · have q1 := gNumK_eq (k := k) (n := n.tdiv 10) ⟨by unfold i64R at *; rw [Int.tdiv_eq_ediv_of_nonneg (by omega)]; omega, by unfold msrN at *; rw [if_neg hn] at h2; rw [Int.tdiv_eq_ediv_of_nonneg (by omega), if_neg (by omega)]; omega⟩
      have q2 := gNumK_eq (k := k) (n := n.tmod 10) ⟨by unfold i64R at *; rw [Int.tmod_eq_emod_of_nonneg (by omega)]; omega, by unfold msrN at *; rw [if_neg hn] at h2; rw [Int.tmod_eq_emod_of_nonneg (by omega), if_neg (by omega)]; omega⟩
      have hw : IntKind.i64.wrap (n.tdiv 10) = n.tdiv 10 := wrap_in (by unfold i64R at h1; rw [Int.tdiv_eq_ediv_of_nonneg (by omega)]; omega)
      have hsz : (numB (n.tdiv 10)).size + (numB (n.tmod 10)).size ≤ 9223372036854775807 := (by
        have := numB_len (n := n.tdiv 10) (by unfold i64R at *; rw [Int.tdiv_eq_ediv_of_nonneg (by omega)]; omega)
        have := numB_len (n := n.tmod 10) (by unfold i64R at *; rw [Int.tmod_eq_emod_of_nonneg (by omega)]; omega)
        omega)
      have hnb := numB_big (n := n) (by omega)
      repeat' (first | with_reducible first | refine kI (by kernel_rfl) ?_ | refine kN (by kernel_rfl) ?_ | simp -implicitDefEqProofs (disch := omega) only [go_sem, Nat.reduceAdd, Nat.reduceSub, reduceCtorEq, Nat.reduceLT, Nat.reduceLeDiff, Nat.reduceEqDiff, ↓reduceIte, List.take_of_length_le, if_pos, if_neg, getD_exs, cnE, cnV, Tryz.ntmps104, Tryz.results104,  hn, h10, hw, hk, q1, q2, hsz, hnb])
      try rfl
theorem can_number : CanCall Tryz.prog 104 := ⟨_, Tryz.func104, rfl, rfl⟩
theorem num_all : ∀ (k : Nat) {Sg : FuncId → Option (List AV → Option AV)} (hS : Sound Tryz.prog Sg), ∀ a r, F1 (gNumK k) a = some r → CSpec Tryz.prog 104 a r
  | 0, _, _ => by
    refine F1_spec ?_
    intro n r hr
    obtain ⟨⟨_, h⟩, _⟩ := gd_some hr
    exact absurd h (Nat.not_lt_zero _)
  | k + 1, _, hS => num_step (hS.add can_number (num_all k hS)) (if_pos rfl)
set_option maxHeartbeats 4000000 in
set_option maxRecDepth 100000 in
theorem spec_number {Sg : FuncId → Option (List AV → Option AV)} (hS : Sound Tryz.prog Sg) : ∀ a r, F1 gNum a = some r → CSpec Tryz.prog 104 a r := by
  refine F1_spec ?_
  intro n r hr
  obtain ⟨h, rfl⟩ := gd_some hr
  refine num_all (msrN n + 1) hS [enc 0 n] _ ?_
  show ((dec (enc 0 n)).bind fun a => (gNumK (msrN n + 1) a).map (enc 1)) = _
  rw [(ok _ n).2 rfl, Option.bind_some, gNumK_eq ⟨h, by omega⟩]
  rfl
def numsB (l : List Int) : ByteArray := bs (l.flatMap fun x => 32 :: Lib.itoa x)
theorem numsB_s {l : List Int} {k : Nat} (h : k < l.length) : numsB (l.take k) ++ cSp ++ numB (l.getD k 0) = numsB (l.take (k + 1)) := by
  unfold numsB numB
  rw [show cSp = bs [32] from rfl, bs_app, bs_app, List.take_succ_eq_append_getElem h, List.flatMap_append]
  have e : (l.take k).flatMap (fun x => 32 :: Lib.itoa x) ++ [32] ++ Lib.itoa (l.getD k 0) = (l.take k).flatMap (fun x => 32 :: Lib.itoa x) ++ [l[k]].flatMap (fun x => 32 :: Lib.itoa x) := by simp [h]
  rw [e]
theorem numsB_len (l : List Int) (h : ∀ x ∈ l, i64R x) : (numsB l).size ≤ 22 * l.length := by
  unfold numsB
  rw [bs_size]
  induction l with
  | nil => simp
  | cons a t ih =>
    have h1 := Lib.itoa_length_le a (h a (by simp)).1 (h a (by simp)).2
    have h2 := ih fun x hx => h x (by simp [hx])
    simp only [List.flatMap_cons, List.length_append, List.length_cons]
    omega
def gNums (l : List Int) : Option ByteArray := gd (l.length < 4294967296 ∧ ∀ x ∈ l, i64R x) (numsB l)
theorem gNums_eq {l : List Int} (h : l.length < 4294967296 ∧ ∀ x ∈ l, i64R x) : gNums l = some (numsB l) := gd_eq h
set_option maxHeartbeats 4000000 in
set_option maxRecDepth 100000 in
theorem spec_numbersText {Sg : FuncId → Option (List AV → Option AV)} (hS : Sound Tryz.prog Sg) (hn : Sg 104 = some (F1 gNum)) : ∀ a r, F1 gNums a = some r → CSpec Tryz.prog 72 a r := by
  refine F1_spec ?_
  intro l r hr
  obtain ⟨⟨h1, h2⟩, rfl⟩ := gd_some hr
  refine CSpec.intro Tryz.func72 rfl (own _) (vc3_sound Tryz.pf hS hS _ _ _ ?_)
  repeat' (first | with_reducible first | refine kI (by kernel_rfl) ?_ | refine kN (by kernel_rfl) ?_ | simp -implicitDefEqProofs (disch := omega) only [go_sem, Nat.reduceAdd, Nat.reduceSub, reduceCtorEq, Nat.reduceLT, Nat.reduceLeDiff, Nat.reduceEqDiff, ↓reduceIte, List.take_of_length_le, if_pos, if_neg, getD_exs, cnE, cnV, Tryz.ntmps72, Tryz.results72])
  refine LoopQ.mix (fun t0 L0 nn ss => ∃ (k : Nat) (s : ByteArray) (_ : Unit), (∃ x : Nat → AV, ss = ⟨mixL 0 (.k :: .k :: .k :: .v (.str s) :: .v (i64 (k : Nat)) :: .s :: .s :: .s :: .s :: .s :: .s :: .s :: .s :: .s :: .s :: .s :: .s :: .s :: .s :: .k :: []) t0 x, L0⟩) ∧ (k ≤ l.length) ∧ (s = numsB (l.take k)) ∧ nn = l.length - k) ?_ ?_
  · exact ⟨_, ⟨0, _, (), mixI rfl, Nat.zero_le _, rfl, rfl⟩⟩
  · rintro I0 hI0 nn ss ⟨k, s, _, ⟨y, rfl⟩, g1, g2, rfl⟩
    by_cases hk : k < l.length
    · have hki : (k : Int) < (l.length : Int) := by omega
      have hx := h2 _ (gmem hk)
      have q := gNum_eq hx
      have hl := numsB_len (l.take k) fun x hx => h2 x (List.mem_of_mem_take hx)
      rw [← g2, List.length_take] at hl
      have hs := numsB_s hk
      rw [← g2] at hs
      have hb := numB_len hx
      have h32 := z_sp
      obtain ⟨A, hA⟩ : ∃ A, s ++ cSp = A := ⟨_, rfl⟩
      have hAs : A.size = s.size + 1 := by rw [← hA, ByteArray.size_append, z_sp]
      have w1 : s.size + cSp.size ≤ 9223372036854775807 := by omega
      have w2 : A.size + (numB (l.getD k 0)).size ≤ 9223372036854775807 := by omega
      rw [hA] at hs
      generalize numB (l.getD k 0) = N at *
      repeat' (first | with_reducible first | refine kI (by kernel_rfl) ?_ | refine kN (by kernel_rfl) ?_ | simp -implicitDefEqProofs (disch := omega) only [go_sem, Nat.reduceAdd, Nat.reduceSub, reduceCtorEq, Nat.reduceLT, Nat.reduceLeDiff, Nat.reduceEqDiff, ↓reduceIte, List.take_of_length_le, if_pos, if_neg, getD_exs, cnE, cnV, Tryz.ntmps72, Tryz.results72,  hki, getD_ints hk, hn, q, w1, w2, hA, hs])
      exact ⟨l.length - (k + 1), by omega, hI0 _ _ ⟨k + 1, _, (), mixI rfl, hk, rfl, rfl⟩⟩
    · obtain rfl : k = l.length := by omega
      rw [List.take_length] at g2
      rw [← g2]
      repeat' (first | with_reducible first | refine kI (by kernel_rfl) ?_ | refine kN (by kernel_rfl) ?_ | simp -implicitDefEqProofs (disch := omega) only [go_sem, Nat.reduceAdd, Nat.reduceSub, reduceCtorEq, Nat.reduceLT, Nat.reduceLeDiff, Nat.reduceEqDiff, ↓reduceIte, List.take_of_length_le, if_pos, if_neg, getD_exs, cnE, cnV, Tryz.ntmps72, Tryz.results72])
end Go.Proofs.YtkmnepmnjpdpkaaGreatDoor
namespace Go.Proofs.YtkmnepmnjpdpkaaGreatDoor
open Go Go.Ev Go.RowKit Go.Ev.Enc Go.Pl

def low (lo i : Nat) (be : AV) : Prop := lo ≤ i ∧ ∀ j a o n c, be = .sl j a o n c → lo ≤ j
def BR (lo : Nat) (M : List Blk) (v : AV) (B : Bf) : Prop := ∃ i be, v = .agg [.sl i B.c.length 0 B.c.length B.c.length, be] ∧ M[i]? = some (stB B.c) ∧ exAt M be B.e ∧ low lo i be
theorem get_ext {M : List Blk} {i : Nat} {k : Blk} (h : M[i]? = some k) (Y : List Blk) : (M ++ Y)[i]? = some k := by
  rw [List.getElem?_append_left (List.getElem?_eq_some_iff.1 h).1]; exact h
theorem exAt_ext {M : List Blk} {be : AV} {l : List Ex} (h : exAt M be l) (Y : List Blk) : exAt (M ++ Y) be l := by
  rcases h with h | ⟨h1, j, h2, h3⟩
  · exact .inl h
  · exact .inr ⟨h1, j, h2, get_ext h3 Y⟩
theorem BR.ext {lo : Nat} {M : List Blk} {v : AV} {B : Bf} (h : BR lo M v B) (Y : List Blk) : BR lo (M ++ Y) v B := by
  obtain ⟨i, be, h1, h2, h3, h4⟩ := h
  exact ⟨i, be, h1, get_ext h2 Y, exAt_ext h3 Y, h4⟩
theorem exAt_cell {M : List Blk} {be : AV} {l : List Ex} (h : exAt M be l) : be.isCell = true := by
  rcases h with ⟨-, rfl⟩ | ⟨-, j, rfl, -⟩ <;> rfl
theorem exAt_exp {M : List Blk} {be : AV} {l : List Ex} (h : exAt M be l) (Y : List Blk) : expC 0 (M ++ Y) be = .ds 0 (exL 0 l) := by
  rcases h with ⟨rfl, rfl⟩ | ⟨-, j, rfl, hj⟩
  · rfl
  · rw [ec_sl, ee_sl, get_ext hj Y, expS_exs]
    simp
theorem own_at {lo : Nat} (M X : List Blk) (B : Bf) (hlo : lo ≤ M.length) : BR lo (M ++ (X ++ stB B.c :: exN B.e)) (bfR B (M.length + X.length)) B := by
  refine ⟨M.length + X.length, _, rfl, ?_, ?_, by omega, fun j a o n c hj => ?_⟩
  · rw [get_app_add, get_app_len]; rfl
  · cases he : B.e with
    | nil => exact .inl ⟨rfl, rfl⟩
    | cons x l => exact .inr ⟨by simp, _, rfl, by rw [Nat.add_assoc, get_app_add, get_app_add]; rfl⟩
  · cases he : B.e with
    | nil => rw [he] at hj; simp [exR] at hj
    | cons x l => rw [he] at hj; simp [exR] at hj; omega
theorem ee_l1 (t t' : Nat) (L : List Blk) (k : IntKind) (n : Int) : expE (expC t L) (.ds t' [.int k n]) = .ds (min t' t) [.int k n] := rfl
attribute [go_sem] ee_l1
structure Ac where
  k : Int
  n : List Int
  deriving DecidableEq
abbrev acA (t : Nat) (a : Ac) : AV := .agg [i64 a.k, ints t a.n]
def nedF (k : Int) : Nat := if k = 1 then 3 else if k = 2 then 4 else if k = 4 ∨ k = 5 then 2 else 1
def actN (a : Ac) : Prop := (0 ≤ a.k ∧ a.k ≤ 7) ∧ a.n.length = nedF a.k
def doneO (B : Bf) (a : Ac) : Option Bf :=
  let n := fun i => a.n.getD i 0
  if a.k = 0 then rszXO B (n 0) else if a.k = 1 then expVO B ⟨n 0, [n 1], [n 2]⟩ else if a.k = 2 then expPO B (n 0) 0 ⟨n 1, n 2, n 3, true, true⟩
  else if a.k = 3 then expPO B (n 0) 0 flipS else if a.k = 4 then filXO B (n 0) (n 1) else if a.k = 5 then cpyXO B (n 0) (n 1) else if a.k = 7 then relXO B (n 0)
  else opt (opnB B (n 0) = true) B
structure SpB : Prop where
  rsz : ∀ (B : Bf) (n : Int), bfB B → OSpec Tryz.prog 136 [bfA 0 B, i64 n] (bbR (rszXO B n)) (bbN (rszXO B n))
  exv : ∀ (B : Bf) (v : Vi), bfB B ∧ viB v → OSpec Tryz.prog 137 [bfA 0 B, .agg [i64 v.b, ints 0 v.sh, ints 0 v.st]] (bbR (expVO B v)) (bbN (expVO B v))
  exp : ∀ (B : Bf) (id d : Int) (s : Sl), bfB B → OSpec Tryz.prog 138 [bfA 0 B, i64 id, i64 d, slA s] (bbR (expPO B id d s)) (bbN (expPO B id d s))
  fil : ∀ (B : Bf) (id x : Int), bfB B → OSpec Tryz.prog 139 [bfA 0 B, i64 id, i64 x] (bbR (filXO B id x)) (bbN (filXO B id x))
  cpy : ∀ (B : Bf) (a b : Int), bfB B → OSpec Tryz.prog 140 [bfA 0 B, i64 a, i64 b] (bbR (cpyXO B a b)) (bbN (cpyXO B a b))
  rel : ∀ (B : Bf) (id : Int), bfB B → OSpec Tryz.prog 141 [bfA 0 B, i64 id] (bbR (relXO B id)) (bbN (relXO B id))
theorem can_ResizeBufferS : CanCall Tryz.prog 136 := ⟨_, Tryz.func136, rfl, rfl⟩
theorem can_ExportViewS : CanCall Tryz.prog 137 := ⟨_, Tryz.func137, rfl, rfl⟩
theorem can_ExportPartS : CanCall Tryz.prog 138 := ⟨_, Tryz.func138, rfl, rfl⟩
theorem can_FillExportS : CanCall Tryz.prog 139 := ⟨_, Tryz.func139, rfl, rfl⟩
theorem can_CopyExportS : CanCall Tryz.prog 140 := ⟨_, Tryz.func140, rfl, rfl⟩
theorem can_ReleaseExportS : CanCall Tryz.prog 141 := ⟨_, Tryz.func141, rfl, rfl⟩
theorem can_doneS : CanCall Tryz.prog 102 := ⟨_, Tryz.func102, rfl, rfl⟩
theorem list1 {l : List Int} (h : l.length = 1) : ∃ a, l = [a] := by
  match l, h with
  | [a], _ => exact ⟨a, rfl⟩
theorem list2 {l : List Int} (h : l.length = 2) : ∃ a b, l = [a, b] := by
  match l, h with
  | [a, b], _ => exact ⟨a, b, rfl⟩
theorem list3 {l : List Int} (h : l.length = 3) : ∃ a b c, l = [a, b, c] := by
  match l, h with
  | [a, b, c], _ => exact ⟨a, b, c, rfl⟩
theorem list4 {l : List Int} (h : l.length = 4) : ∃ a b c d, l = [a, b, c, d] := by
  match l, h with
  | [a, b, c, d], _ => exact ⟨a, b, c, d, rfl⟩
end Go.Proofs.YtkmnepmnjpdpkaaGreatDoor
namespace Go.Proofs.YtkmnepmnjpdpkaaGreatDoor
open Go Go.Ev Go.RowKit Go.Ev.Enc Go.Pl

theorem getD_app_l {l : List Ex} {x : Ex} {i : Nat} (h : i < l.length) : (l ++ [x]).getD i ex0 = l.getD i ex0 := by
  simp only [List.getD_eq_getElem?_getD, List.getElem?_append_left h]
theorem getD_app_r {l : List Ex} {x : Ex} : (l ++ [x]).getD l.length ex0 = x := by simp
theorem ok_add {B : Bf} {x : Ex} (h : bufOK B = true) (h8 : B.e.length < 8) (hv : viewOK x.v = true) (hp : -1 ≤ x.p ∧ x.p < B.e.length) (ho : x.o = true → fitB x.v B.c.length = true ∧ (x.p < 0 ∨ (B.e.getD x.p.toNat ex0).o = true)) : bufOK (addB B x) = true := by
  obtain ⟨h1, h2, h3⟩ := bufOK_iff.1 h
  refine bufOK_iff.2 ⟨h1, by simp [addB]; omega, fun i hi => ?_⟩
  have hi' : i < B.e.length + 1 := by simpa [addB] using hi
  by_cases e : i < B.e.length
  · have h4 := exOK_iff.1 (h3 i e)
    have e1 : (addB B x).e.getD i ex0 = B.e.getD i ex0 := getD_app_l e
    rw [exOK_iff, e1]
    refine ⟨h4.1, h4.2.1, fun hop => ?_⟩
    obtain ⟨f1, f2⟩ := h4.2.2 hop
    refine ⟨f1, f2.imp id fun f2 => ?_⟩
    by_cases hp0 : (B.e.getD i ex0).p < 0
    · have e0 : (B.e.getD i ex0).p.toNat = 0 := by omega
      rw [e0] at f2 ⊢
      rw [show (addB B x).e.getD 0 ex0 = B.e.getD 0 ex0 from getD_app_l (by omega)]; exact f2
    · rw [show (addB B x).e.getD (B.e.getD i ex0).p.toNat ex0 = B.e.getD (B.e.getD i ex0).p.toNat ex0 from getD_app_l (by omega)]; exact f2
  · obtain rfl : i = B.e.length := by omega
    have e1 : (addB B x).e.getD B.e.length ex0 = x := getD_app_r
    rw [exOK_iff, e1]
    refine ⟨hp, hv, fun hop => ?_⟩
    obtain ⟨f1, f2⟩ := ho hop
    refine ⟨f1, f2.imp id fun f2 => ?_⟩
    by_cases hp0 : x.p < 0
    · have e0 : x.p.toNat = 0 := by omega
      rw [e0] at f2 ⊢
      by_cases hl : 0 < B.e.length
      · rw [show (addB B x).e.getD 0 ex0 = B.e.getD 0 ex0 from getD_app_l hl]; exact f2
      · have : B.e = [] := List.eq_nil_of_length_eq_zero (by omega)
        rw [this] at f2; simp [ex0] at f2
    · rw [show (addB B x).e.getD x.p.toNat ex0 = B.e.getD x.p.toNat ex0 from getD_app_l (by omega)]; exact f2
theorem ok_cells {B : Bf} {c : List Int} (h : bufOK B = true) (hc : memOK c = true) (hl : c.length = B.c.length) : bufOK ⟨c, B.e⟩ = true := by
  obtain ⟨h1, h2, h3⟩ := bufOK_iff.1 h
  exact bufOK_iff.2 ⟨hc, h2, fun i hi => by rw [hl]; exact h3 i hi⟩
theorem fit_part {v : Vi} {d : Int} {s : Sl} {n : Int} (h : (sliR v d s).2 = true) (hf : fitB v n = true) : fitB (sliR v d s).1 n = true := by
  unfold sliR at h ⊢
  split at h
  · rename_i hc
    rw [if_pos hc]
    obtain ⟨m, rfl, hm⟩ := dim_nat hc.2.1
    rw [Int.toNat_natCast]
    unfold fitB at *
    rw [List.all_eq_true] at *
    intro y hy
    have hn := dim_at hc.1 hm
    exact hf y (slc_mem hc.1 hm (ind_rng hn.1) (ind_len hn.1 (slOK_s hc.2.2)) (ind_ap _ _) hy)
  · simp at h
theorem opt_some {c : Prop} [Decidable c] {B B' : Bf} (h : opt c B = some B') : c ∧ B = B' := by
  unfold opt at h
  split at h
  · exact ⟨‹_›, by simpa using h⟩
  · simp at h
theorem ok_expV {B B' : Bf} {v : Vi} (h : expVO B v = some B') : bufOK B' = true := by
  obtain ⟨⟨h1, h2, h3, h4⟩, rfl⟩ := opt_some h
  exact ok_add h1 h4 h2 ⟨by show (-1 : Int) ≤ -1; decide, by dsimp only; omega⟩ fun _ => ⟨h3, .inl (by show (-1 : Int) < 0; decide)⟩
theorem ok_expP {B B' : Bf} {id d : Int} {s : Sl} (h : expPO B id d s = some B') : bufOK B' = true := by
  obtain ⟨⟨h1, h2, h3, h4⟩, rfl⟩ := opt_some h
  obtain ⟨k, rfl, hk, hko⟩ := opnB_iff.1 h2
  have hx := exOK_iff.1 ((bufOK_iff.1 h1).2.2 k hk)
  exact ok_add h1 h3 (sliR_ok h4) ⟨by dsimp only; omega, by dsimp only; omega⟩ fun _ => ⟨fit_part h4 (hx.2.2 hko).1, .inr (by rw [Int.toNat_natCast]; exact hko)⟩
theorem ok_filX {B B' : Bf} {id x : Int} (h : filXO B id x = some B') : bufOK B' = true := by
  obtain ⟨⟨h1, h2, h3⟩, rfl⟩ := opt_some h
  unfold inR at h3
  simp only [Bool.and_eq_true, decide_eq_true_eq] at h3
  refine ok_cells h1 (sto_mem (bufOK_iff.1 h1).1 (fun y hy => ?_) (by simp [repV])) (stoT_len _ _ _ _)
  rw [List.eq_of_mem_replicate hy]; exact h3
theorem ok_cpyX {B B' : Bf} {a b : Int} (h : cpyXO B a b = some B') : bufOK B' = true := by
  obtain ⟨⟨h1, h2, h3, h4⟩, rfl⟩ := opt_some h
  obtain ⟨e1, e2, e3⟩ := cpyB_iff.1 h4
  have hm := (bufOK_iff.1 h1).1
  refine ok_cells h1 (sto_mem hm (tkn_val hm (fit_in e2).2.2) (by rw [tkn_len, len_off e3]; exact Nat.le_refl _)) (stoT_len _ _ _ _)
theorem clo_at {E : List Ex} {k i : Nat} : (cloE E k).getD i ex0 = if i = k ∧ k < E.length then ⟨(E.getD k ex0).p, (E.getD k ex0).v, false⟩ else E.getD i ex0 := by
  unfold cloE
  simp only [List.getD_eq_getElem?_getD, List.getElem?_set]
  by_cases h : k = i
  · subst h
    by_cases h2 : k < E.length
    · simp [h2]
    · simp [h2]
  · rw [if_neg h, if_neg (fun hh => h hh.1.symm)]
theorem ok_relX {B B' : Bf} {id : Int} (h : relXO B id = some B') : bufOK B' = true := by
  obtain ⟨⟨h1, h2, h3⟩, rfl⟩ := opt_some h
  obtain ⟨k, rfl, hk, hko⟩ := opnB_iff.1 h2
  rw [Int.toNat_natCast]
  obtain ⟨b1, b2, b3⟩ := bufOK_iff.1 h1
  have hcl : (cloE B.e k).length = B.e.length := List.length_set
  refine bufOK_iff.2 ⟨b1, by rw [hcl]; exact b2, fun i hi => ?_⟩
  have hi' : i < B.e.length := by rw [← hcl]; exact hi
  have h4 := exOK_iff.1 (b3 i hi')
  rw [exOK_iff]
  simp only [clo_at]
  by_cases e : i = k
  · subst e
    rw [if_pos ⟨rfl, hk⟩]
    exact ⟨h4.1, h4.2.1, fun h => by cases h⟩
  · rw [if_neg (fun h => e h.1)]
    refine ⟨h4.1, h4.2.1, fun hop => ?_⟩
    obtain ⟨f1, f2⟩ := h4.2.2 hop
    refine ⟨f1, ?_⟩
    by_cases hp0 : (B.e.getD i ex0).p < 0
    · exact .inl hp0
    · right
      have f3 := f2.resolve_left hp0
      by_cases hpk : (B.e.getD i ex0).p.toNat = k
      · exfalso
        have : (i : Int) ∈ kidF B (k : Int) := by
          unfold kidF
          rw [List.mem_map]
          refine ⟨i, ?_, rfl⟩
          rw [List.mem_filter]
          refine ⟨by simpa using hi', ?_⟩
          rw [hop, Bool.true_and, beq_iff_eq]
          omega
        rw [h3] at this
        simp at this
      · rw [if_neg (fun h => hpk h.1)]; exact f3
theorem ok_rszX {B B' : Bf} {n : Int} (h : rszXO B n = some B') : bufOK B' = true := by
  obtain ⟨⟨h1, h2, h3⟩, rfl⟩ := opt_some h
  unfold inR at h2
  simp only [Bool.and_eq_true, decide_eq_true_eq] at h2
  obtain ⟨b1, b2, b3⟩ := bufOK_iff.1 h1
  refine bufOK_iff.2 ⟨memOK_iff.2 ⟨by rw [rszC_len]; omega, fun x hx => ?_⟩, b2, fun i hi => ?_⟩
  · unfold rszC rszK at hx
    rcases List.mem_append.1 hx with hx | hx
    · exact (memOK_iff.1 b1).2 x (List.mem_of_mem_take hx)
    · rw [List.eq_of_mem_replicate hx]; decide
  · have h4 := exOK_iff.1 (b3 i hi)
    rw [exOK_iff]
    refine ⟨h4.1, h4.2.1, fun hop => ?_⟩
    exfalso
    have : (i : Int) ∈ opF B := by
      unfold opF
      rw [List.mem_map]
      exact ⟨i, by rw [List.mem_filter]; exact ⟨by simpa using hi, hop⟩, rfl⟩
    rw [h3] at this
    simp at this
theorem ok_done {B B' : Bf} {a : Ac} (hB : bufOK B = true) (h : doneO B a = some B') : bufOK B' = true := by
  unfold doneO at h
  dsimp only at h
  split at h
  · exact ok_rszX h
  split at h
  · exact ok_expV h
  split at h
  · exact ok_expP h
  split at h
  · exact ok_expP h
  split at h
  · exact ok_filX h
  split at h
  · exact ok_cpyX h
  split at h
  · exact ok_relX h
  · rw [← (opt_some h).2]; exact hB
end Go.Proofs.YtkmnepmnjpdpkaaGreatDoor
namespace Go.Proofs.YtkmnepmnjpdpkaaGreatDoor
open Go Go.Ev Go.RowKit Go.Ev.Enc Go.Pl

def appF (B : Bf) (a : Ac) : Bf × ByteArray :=
  match doneO B a with
  | none => (B, cNo)
  | some B' => if a.k = 6 then (B, cHas ++ numsB (tkn B.c (offF (vwB B (a.n.getD 0 0))))) else if a.k = 1 ∨ a.k = 2 ∨ a.k = 3 then (B', cAt ++ numB ((B'.e.length : Int) - 1)) else (B', cOk)
theorem app_ok {B : Bf} {a : Ac} (h : bufOK B = true) : bufOK (appF B a).1 = true := by
  unfold appF
  cases e : doneO B a with
  | none => exact h
  | some B' =>
    dsimp only
    have h2 := ok_done h e
    split
    · exact h
    split
    · exact h2
    · exact h2
theorem done_ne {B B' : Bf} {a : Ac} (h : doneO B a = some B') (hk : a.k = 1 ∨ a.k = 2 ∨ a.k = 3) : B'.e ≠ [] := by
  unfold doneO at h
  dsimp only at h
  rw [if_neg (by omega)] at h
  split at h
  · rw [← (opt_some h).2]; simp [addB]
  split at h
  · rw [← (opt_some h).2]; simp [addB]
  · rw [if_pos (by omega)] at h
    rw [← (opt_some h).2]; simp [addB]
theorem done_6 {B B' : Bf} {a : Ac} (h : doneO B a = some B') (hk : a.k = 6) : opnB B (a.n.getD 0 0) = true ∧ B = B' := by
  unfold doneO at h
  dsimp only at h
  rw [if_neg (by omega), if_neg (by omega), if_neg (by omega), if_neg (by omega), if_neg (by omega), if_neg (by omega), if_neg (by omega)] at h
  exact opt_some h
theorem can_applyS : CanCall Tryz.prog 58 := ⟨_, Tryz.func58, rfl, rfl⟩
theorem BR_cells {lo : Nat} {M : List Blk} {v : AV} {B : Bf} (h : BR lo M v B) : ∃ x y, v = .agg [x, y] ∧ x.isCell = true ∧ y.isCell = true := by
  obtain ⟨i, be, rfl, -, h2, -⟩ := h
  exact ⟨_, _, rfl, rfl, exAt_cell h2⟩
theorem get_mid {M Y Z : List Blk} {b0 b1 b2 b2' k : Blk} {i : Nat} (h : (M ++ [b0, b1, b2] ++ Y)[i]? = some k) (hk : k.esz ≠ b2.esz) : (M ++ (b0 :: b1 :: b2' :: (Y ++ Z)))[i]? = some k := by
  have e : M ++ (b0 :: b1 :: b2' :: (Y ++ Z)) = ((M ++ (b0 :: b1 :: b2 :: Y)).set (M.length + 2) b2') ++ Z := by
    rw [set_app_add]
    simp
  have e2 : M ++ [b0, b1, b2] ++ Y = M ++ (b0 :: b1 :: b2 :: Y) := by simp
  rw [e2] at h
  rw [e]
  apply get_ext
  rw [List.getElem?_set_ne]
  · exact h
  · rintro rfl
    rw [get_app_add] at h
    have : b2 = k := by simpa using h
    exact hk (by rw [this])
theorem BR_mid {lo : Nat} {M Y Z : List Blk} {b0 b1 b2 b2' : Blk} {v : AV} {B : Bf} (h : BR lo (M ++ [b0, b1, b2] ++ Y) v B) (h2 : b2.esz = 2) : BR lo (M ++ (b0 :: b1 :: b2' :: (Y ++ Z))) v B := by
  obtain ⟨i, be, h3, h4, h5, hlw⟩ := h
  refine ⟨i, be, h3, get_mid h4 (by rw [h2]; exact (by decide : (1 : Nat) ≠ 2)), ?_, hlw⟩
  rcases h5 with h5 | ⟨h5, j, h6, h7⟩
  · exact .inl h5
  · exact .inr ⟨h5, j, h6, get_mid h7 (by rw [h2]; exact (by decide : (5 : Nat) ≠ 2))⟩
end Go.Proofs.YtkmnepmnjpdpkaaGreatDoor
