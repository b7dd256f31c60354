/- Contracts of functions on views and memories that the laws of this seat call. -/
import Derived.Test.YtokpibajolhelaaGreatVA
import Derived.Test.YtokpibajolhelaaGreatFA
set_option linter.all false
namespace Go.Proofs.YtokpibajolhelaaGreat
open Go Go.Ev Go.RowKit Go.Ev.Enc Go.Pl

theorem can_someSlice : CanCall Tryz.prog 64 := ⟨_, Tryz.func64, rfl, rfl⟩
set_option maxHeartbeats 4000000 in
set_option maxRecDepth 100000 in
theorem isp_someSlice {Sg : FuncId → Option (List AV → Option AV)} (hS : Sound Tryz.prog Sg) (h0 : Sg 59 = none) (h1 : Sg 50 = none) {bs : List UInt8} {b n : Nat} {rL : Int → List Blk} (hC : RC bs b n rL) (hb : bs.length ≤ 2000) (p : Int) (hp : 0 ≤ p ∧ p ≤ 900000000) : ISpec Tryz.prog 64 [.ptr b 1 0 0] (rL p) (fun r L' => ∃ (s : Sl) (p' : Int), r = slA s ∧ slB s ∧ p ≤ p' ∧ p' ≤ p + 20 ∧ L' = rL p') := by
  refine ISpec.ret Tryz.func64 rfl (vc3_sound Tryz.pf hS hS _ _ _ ?_)
  repeat' (first | with_reducible first | refine kI (by kernel_rfl) ?_ | refine kN (by kernel_rfl) ?_ | (first | refine kB1 ?_ ?_ | refine kB2 ?_ ?_) <;> intro hp | (first | refine kD1 ?_ ?_ | refine kD2 ?_ ?_ | refine kS1 ?_ ?_ | refine kS2 ?_ ?_) <;> intro hp <;> try simp only [hp] | simp -implicitDefEqProofs (disch := omega) only [go_sem, Nat.reduceAdd, Nat.reduceSub, reduceCtorEq, Nat.reduceLT, Nat.reduceLeDiff, Nat.reduceEqDiff, Nat.reduceMul, Int.reduceToNat, ↓reduceIte, List.take_of_length_le, if_pos, if_neg, List.getElem?_set_self, List.set_set, cnE, cnV, Tryz.ntmps64, Tryz.results64,  hC.cn, h1, opQ_none])
  refine InlK_intro rfl rfl can_one ((isp_one hS h0 (hC.app _) hb p (by omega) 2 [1, 2, -1, 3, -2, 1, 5] (by decide)).mono ?_)
  rintro r L1 ⟨v0, rfl, m0, rfl⟩
  have hv0 : -500 ≤ v0 ∧ v0 ≤ 500 := by simp at m0; omega
  clear m0
  repeat' (first | with_reducible first | refine kI (by kernel_rfl) ?_ | refine kN (by kernel_rfl) ?_ | (first | refine kB1 ?_ ?_ | refine kB2 ?_ ?_) <;> intro hp | (first | refine kD1 ?_ ?_ | refine kD2 ?_ ?_ | refine kS1 ?_ ?_ | refine kS2 ?_ ?_) <;> intro hp <;> try simp only [hp] | simp -implicitDefEqProofs (disch := omega) only [go_sem, Nat.reduceAdd, Nat.reduceSub, reduceCtorEq, Nat.reduceLT, Nat.reduceLeDiff, Nat.reduceEqDiff, Nat.reduceMul, Int.reduceToNat, ↓reduceIte, List.take_of_length_le, if_pos, if_neg, List.getElem?_set_self, List.set_set, cnE, cnV, Tryz.ntmps64, Tryz.results64,  hC.cn, h0, opQ_none])
  refine InlK_intro rfl rfl can_pick ((isp_pick hS (hC.app _) hb (p + 1) (by omega) 2 (by omega)).mono ?_)
  rintro r L1 ⟨x1, rfl, -, -, rfl⟩
  repeat' (first | with_reducible first | refine kI (by kernel_rfl) ?_ | refine kN (by kernel_rfl) ?_ | (first | refine kB1 ?_ ?_ | refine kB2 ?_ ?_) <;> intro hp | (first | refine kD1 ?_ ?_ | refine kD2 ?_ ?_ | refine kS1 ?_ ?_ | refine kS2 ?_ ?_) <;> intro hp <;> try simp only [hp] | simp -implicitDefEqProofs (disch := omega) only [go_sem, Nat.reduceAdd, Nat.reduceSub, reduceCtorEq, Nat.reduceLT, Nat.reduceLeDiff, Nat.reduceEqDiff, Nat.reduceMul, Int.reduceToNat, ↓reduceIte, List.take_of_length_le, if_pos, if_neg, List.getElem?_set_self, List.set_set, cnE, cnV, Tryz.ntmps64, Tryz.results64,  hC.cn, h0, opQ_none])
  all_goals
    try
      refine InlK_intro rfl rfl can_pick ((isp_pick hS (hC.app _) hb _ (by omega) 12 (by omega)).mono ?_)
      rintro r L1 ⟨y1, rfl, k1, k2, rfl⟩
      repeat' (first | with_reducible first | refine kI (by kernel_rfl) ?_ | refine kN (by kernel_rfl) ?_ | (first | refine kB1 ?_ ?_ | refine kB2 ?_ ?_) <;> intro hp | (first | refine kD1 ?_ ?_ | refine kD2 ?_ ?_ | refine kS1 ?_ ?_ | refine kS2 ?_ ?_) <;> intro hp <;> try simp only [hp] | simp -implicitDefEqProofs (disch := omega) only [go_sem, Nat.reduceAdd, Nat.reduceSub, reduceCtorEq, Nat.reduceLT, Nat.reduceLeDiff, Nat.reduceEqDiff, Nat.reduceMul, Int.reduceToNat, ↓reduceIte, List.take_of_length_le, if_pos, if_neg, List.getElem?_set_self, List.set_set, cnE, cnV, Tryz.ntmps64, Tryz.results64,  hC.cn, h1, opQ_none])
      refine InlK_intro rfl rfl can_one ((isp_one hS h0 (hC.app _) hb _ (by omega) 2 [1, 2, 0, -1, -3, y1, 30, -30] (by simp)).mono ?_)
      rintro r L1 ⟨v1, rfl, m1, rfl⟩
      have hv1 : -500 ≤ v1 ∧ v1 ≤ 500 := by simp at m1; omega
      clear m1
      repeat' (first | with_reducible first | refine kI (by kernel_rfl) ?_ | refine kN (by kernel_rfl) ?_ | (first | refine kB1 ?_ ?_ | refine kB2 ?_ ?_) <;> intro hp | (first | refine kD1 ?_ ?_ | refine kD2 ?_ ?_ | refine kS1 ?_ ?_ | refine kS2 ?_ ?_) <;> intro hp <;> try simp only [hp] | simp -implicitDefEqProofs (disch := omega) only [go_sem, Nat.reduceAdd, Nat.reduceSub, reduceCtorEq, Nat.reduceLT, Nat.reduceLeDiff, Nat.reduceEqDiff, Nat.reduceMul, Int.reduceToNat, ↓reduceIte, List.take_of_length_le, if_pos, if_neg, List.getElem?_set_self, List.set_set, cnE, cnV, Tryz.ntmps64, Tryz.results64,  hC.cn, h0, opQ_none])
  all_goals
    refine InlK_intro rfl rfl can_pick ((isp_pick hS (hC.app _) hb _ (by omega) 2 (by omega)).mono ?_)
    rintro r L1 ⟨x2, rfl, -, -, rfl⟩
    repeat' (first | with_reducible first | refine kI (by kernel_rfl) ?_ | refine kN (by kernel_rfl) ?_ | (first | refine kB1 ?_ ?_ | refine kB2 ?_ ?_) <;> intro hp | (first | refine kD1 ?_ ?_ | refine kD2 ?_ ?_ | refine kS1 ?_ ?_ | refine kS2 ?_ ?_) <;> intro hp <;> try simp only [hp] | simp -implicitDefEqProofs (disch := omega) only [go_sem, Nat.reduceAdd, Nat.reduceSub, reduceCtorEq, Nat.reduceLT, Nat.reduceLeDiff, Nat.reduceEqDiff, Nat.reduceMul, Int.reduceToNat, ↓reduceIte, List.take_of_length_le, if_pos, if_neg, List.getElem?_set_self, List.set_set, cnE, cnV, Tryz.ntmps64, Tryz.results64,  hC.cn, h0, opQ_none])
  all_goals
    try
      refine InlK_intro rfl rfl can_pick ((isp_pick hS (hC.app _) hb _ (by omega) 12 (by omega)).mono ?_)
      rintro r L1 ⟨y2, rfl, k1, k2, rfl⟩
      repeat' (first | with_reducible first | refine kI (by kernel_rfl) ?_ | refine kN (by kernel_rfl) ?_ | (first | refine kB1 ?_ ?_ | refine kB2 ?_ ?_) <;> intro hp | (first | refine kD1 ?_ ?_ | refine kD2 ?_ ?_ | refine kS1 ?_ ?_ | refine kS2 ?_ ?_) <;> intro hp <;> try simp only [hp] | simp -implicitDefEqProofs (disch := omega) only [go_sem, Nat.reduceAdd, Nat.reduceSub, reduceCtorEq, Nat.reduceLT, Nat.reduceLeDiff, Nat.reduceEqDiff, Nat.reduceMul, Int.reduceToNat, ↓reduceIte, List.take_of_length_le, if_pos, if_neg, List.getElem?_set_self, List.set_set, cnE, cnV, Tryz.ntmps64, Tryz.results64,  hC.cn, h1, opQ_none])
      refine InlK_intro rfl rfl can_one ((isp_one hS h0 (hC.app _) hb _ (by omega) 2 [4, 3, -1, -2, 0, y2, 30, -30] (by simp)).mono ?_)
      rintro r L1 ⟨v2, rfl, m2, rfl⟩
      have hv2 : -500 ≤ v2 ∧ v2 ≤ 500 := by simp at m2; omega
      clear m2
      repeat' (first | with_reducible first | refine kI (by kernel_rfl) ?_ | refine kN (by kernel_rfl) ?_ | (first | refine kB1 ?_ ?_ | refine kB2 ?_ ?_) <;> intro hp | (first | refine kD1 ?_ ?_ | refine kD2 ?_ ?_ | refine kS1 ?_ ?_ | refine kS2 ?_ ?_) <;> intro hp <;> try simp only [hp] | simp -implicitDefEqProofs (disch := omega) only [go_sem, Nat.reduceAdd, Nat.reduceSub, reduceCtorEq, Nat.reduceLT, Nat.reduceLeDiff, Nat.reduceEqDiff, Nat.reduceMul, Int.reduceToNat, ↓reduceIte, List.take_of_length_le, if_pos, if_neg, List.getElem?_set_self, List.set_set, cnE, cnV, Tryz.ntmps64, Tryz.results64,  hC.cn, h0, opQ_none])
  all_goals
    refine InlK_intro rfl rfl can_pick ((isp_pick hS (hC.app _) hb _ (by omega) 24 (by omega)).mono ?_)
    rintro r L1 ⟨x3, rfl, -, -, rfl⟩
    repeat' (first | with_reducible first | refine kI (by kernel_rfl) ?_ | refine kN (by kernel_rfl) ?_ | (first | refine kB1 ?_ ?_ | refine kB2 ?_ ?_) <;> intro hp | (first | refine kD1 ?_ ?_ | refine kD2 ?_ ?_ | refine kS1 ?_ ?_ | refine kS2 ?_ ?_) <;> intro hp <;> try simp only [hp] | simp -implicitDefEqProofs (disch := omega) only [go_sem, Nat.reduceAdd, Nat.reduceSub, reduceCtorEq, Nat.reduceLT, Nat.reduceLeDiff, Nat.reduceEqDiff, Nat.reduceMul, Int.reduceToNat, ↓reduceIte, List.take_of_length_le, if_pos, if_neg, List.getElem?_set_self, List.set_set, cnE, cnV, Tryz.ntmps64, Tryz.results64,  hC.cn, h1, opQ_none])
  all_goals
    try
      refine InlK_intro rfl rfl can_one ((isp_one hS h0 (hC.app _) hb _ (by omega) 2 [0, 201] (by decide)).mono ?_)
      rintro r L1 ⟨v3, rfl, m3, rfl⟩
      have hv3 : -500 ≤ v3 ∧ v3 ≤ 500 := by simp at m3; omega
      clear m3
      repeat' (first | with_reducible first | refine kI (by kernel_rfl) ?_ | refine kN (by kernel_rfl) ?_ | (first | refine kB1 ?_ ?_ | refine kB2 ?_ ?_) <;> intro hp | (first | refine kD1 ?_ ?_ | refine kD2 ?_ ?_ | refine kS1 ?_ ?_ | refine kS2 ?_ ?_) <;> intro hp <;> try simp only [hp] | simp -implicitDefEqProofs (disch := omega) only [go_sem, Nat.reduceAdd, Nat.reduceSub, reduceCtorEq, Nat.reduceLT, Nat.reduceLeDiff, Nat.reduceEqDiff, Nat.reduceMul, Int.reduceToNat, ↓reduceIte, List.take_of_length_le, if_pos, if_neg, List.getElem?_set_self, List.set_set, cnE, cnV, Tryz.ntmps64, Tryz.results64,  hC.cn])
  all_goals
    try
      refine InlK_intro rfl rfl can_one ((isp_one hS h0 (hC.app _) hb _ (by omega) 2 [1, -101] (by decide)).mono ?_)
      rintro r L1 ⟨v3, rfl, m3, rfl⟩
      have hv3 : -500 ≤ v3 ∧ v3 ≤ 500 := by simp at m3; omega
      clear m3
      repeat' (first | with_reducible first | refine kI (by kernel_rfl) ?_ | refine kN (by kernel_rfl) ?_ | (first | refine kB1 ?_ ?_ | refine kB2 ?_ ?_) <;> intro hp | (first | refine kD1 ?_ ?_ | refine kD2 ?_ ?_ | refine kS1 ?_ ?_ | refine kS2 ?_ ?_) <;> intro hp <;> try simp only [hp] | simp -implicitDefEqProofs (disch := omega) only [go_sem, Nat.reduceAdd, Nat.reduceSub, reduceCtorEq, Nat.reduceLT, Nat.reduceLeDiff, Nat.reduceEqDiff, Nat.reduceMul, Int.reduceToNat, ↓reduceIte, List.take_of_length_le, if_pos, if_neg, List.getElem?_set_self, List.set_set, cnE, cnV, Tryz.ntmps64, Tryz.results64,  hC.cn])
  all_goals
    refine hC.ret0 ⟨⟨_, _, _, _, _⟩, _, rfl, ?_, ?_, ?_, rfl⟩
    · unfold slB
      dsimp only
      omega
    · omega
    · omega
end Go.Proofs.YtokpibajolhelaaGreat
namespace Go.Proofs.YtokpibajolhelaaGreat
open Go Go.Ev Go.RowKit Go.Ev.Enc Go.Pl

def NewV : Prop := ∀ (s : List Int), shapeOK s = true → ∀ (t : Nat) (L : List Blk), ISpec Tryz.prog 107 [ints t s] L fun r L' => ∃ st, st.length = s.length ∧ r = viS L.length ⟨0, s, st⟩ ∧ L' = L ++ [stB st]
structure ChgV : Prop where
  new : NewV
  cpy : CopyVi
  sli : SliV
  flip : ∀ (v : Vi) (d : Int), v.sh.length ≤ 4 ∧ v.st.length ≤ 5 → OSpec Tryz.prog 109 [.agg [i64 v.b, ints 0 v.sh, ints 0 v.st], i64 d] (mdR (sliF v d flipS)) (mdN (sliF v d flipS))
  per : ∀ (v : Vi) (o : List Int), v.sh.length ≤ 4 ∧ v.st.length ≤ 5 → 0 < v.sh.length → o.length ≤ 1000 → OSpec Tryz.prog 110 [.agg [i64 v.b, ints 0 v.sh, ints 0 v.st], ints 0 o] (mdR (perD v o)) (mdN (perD v o))
  win : ∀ (v : Vi) (d : Nat) (k : Int), v.sh.length ≤ 4 ∧ v.st.length ≤ 5 → d < v.sh.length → OSpec Tryz.prog 113 [.agg [i64 v.b, ints 0 v.sh, ints 0 v.st], i64 (d : Nat), i64 k] (mdR (winF v d k)) (mdN (winF v d k))
  add : ∀ (v : Vi) (d : Nat), v.sh.length ≤ 4 ∧ v.st.length ≤ 5 → d < v.sh.length → OSpec Tryz.prog 114 [.agg [i64 v.b, ints 0 v.sh, ints 0 v.st], i64 (d : Nat)] (mdR (addF v d)) (mdN (addF v d))
theorem sliF_ok {v w : Vi} {d : Int} {s : Sl} (h : sliF v d s = some w) : viewOK w = true := by
  unfold sliF at h
  split at h
  · exact madeF_ok h
  · cases h
end Go.Proofs.YtokpibajolhelaaGreat
namespace Go.Proofs.YtokpibajolhelaaGreat
open Go Go.Ev Go.RowKit Go.Ev.Enc Go.Pl

theorem gR_ge {n k : Nat} (h : n ≤ k) : gR n [] k = none := by
  unfold gR
  rw [if_neg (by omega)]; rfl
end Go.Proofs.YtokpibajolhelaaGreat
namespace Go.Proofs.YtokpibajolhelaaGreat
open Go Go.Ev Go.RowKit Go.Ev.Enc Go.Pl

def bothF (a b : List Int) : List Int := (upV 60).filter fun x => a.contains x && b.contains x
theorem mem_both {a b : List Int} {x : Int} : x ∈ bothF a b ↔ (0 ≤ x ∧ x < 60) ∧ x ∈ a ∧ x ∈ b := by
  unfold bothF
  rw [List.mem_filter, upV_mem]
  simp only [Bool.and_eq_true, List.contains_iff_mem]
  exact Iff.rfl
theorem both_asc (a b : List Int) : (bothF a b).Pairwise (· < ·) := (upV_asc 60).sublist List.filter_sublist
def inC (l : List Int) : Prop := ∀ x ∈ l, 0 ≤ x ∧ x < 60
theorem srt_both {a : List Int} (h : inC a) : srt a = bothF a a :=
  srt_eq (both_asc a a) fun x => by
    rw [mem_both]
    exact ⟨fun h => h.2.1, fun hx => ⟨h x hx, hx, hx⟩⟩
theorem offF_in {v : Vi} (h : viewOK v = true) : inC (offF v) := (viewOK_iff.1 h).2.2.2.2
def gCells (v : Vi) : Option (List Int) := gd (shapeOK v.sh = true ∧ v.st.length = v.sh.length) (srt (offF v))
theorem gCells_eq {v : Vi} (h : shapeOK v.sh = true ∧ v.st.length = v.sh.length) : gCells v = some (srt (offF v)) := gd_eq h
theorem offF_60 {v : Vi} (h : shapeOK v.sh = true) : (offF v).length ≤ 60 := by
  have := shape_facts h
  rw [offF_len]; omega
theorem can_offsetsOf : CanCall Tryz.prog 58 := ⟨_, Tryz.func58, rfl, rfl⟩
def OffI : Prop := ∀ v : Vi, shapeOK v.sh = true → v.st.length = v.sh.length → OSpec Tryz.prog 58 [.agg [i64 v.b, ints 0 v.sh, ints 0 v.st]] (fun n => .sl n (offF v).length 0 (offF v).length (offF v).length) (fun _ => [⟨1, (offF v).map fun n => .int .i64 n⟩])
set_option maxHeartbeats 4000000 in
set_option maxRecDepth 100000 in
theorem o_cellsOf {Sg : FuncId → Option (List AV → Option AV)} (hS : Sound Tryz.prog Sg) (n1 : Sg 58 = none) (hs : Sg 85 = none) (hc : Sg 86 = none) (v : Vi) (h : shapeOK v.sh = true ∧ v.st.length = v.sh.length) (hof : OffI) : OSpec Tryz.prog 57 [.agg [i64 v.b, ints 0 v.sh, ints 0 v.st]] (fun n => .sl n (offF v).length 0 (srt (offF v)).length (offF v).length) (fun _ => [⟨1, (srt (offF v) ++ List.replicate ((offF v).length - (srt (offF v)).length) 0).map fun n => .int .i64 n⟩]) := by
  refine OSpec.intro Tryz.func57 rfl (vc3_sound Tryz.pf hS hS _ _ _ ?_)
  have h6 := offF_60 h.1
  repeat' (first | with_reducible first | refine kI (by kernel_rfl) ?_ | (first | refine kB1 ?_ ?_ | refine kB2 ?_ ?_) <;> intro hp | (first | refine kD1 ?_ ?_ | refine kD2 ?_ ?_ | refine kS1 ?_ ?_ | refine kS2 ?_ ?_) <;> intro hp <;> try simp only [hp] | simp -implicitDefEqProofs (disch := omega) only [go_sem, Nat.reduceAdd, Nat.reduceSub, reduceCtorEq, Nat.reduceLT, Nat.reduceLeDiff, Nat.reduceEqDiff, Nat.reduceMul, Int.reduceToNat, ↓reduceIte, List.take_of_length_le, if_pos, if_neg, List.getElem?_set_self, List.set_set, cnE, cnV, Tryz.ntmps57, Tryz.results57,  n1, opQ_none])
  refine InlK_intro rfl rfl can_offsetsOf ((hof v h.1 h.2).call (by simp only [go_sem, ints]) ?_)
  generalize offF v = A at *
  repeat' (first | with_reducible first | refine kI (by kernel_rfl) ?_ | (first | refine kB1 ?_ ?_ | refine kB2 ?_ ?_) <;> intro hp | (first | refine kD1 ?_ ?_ | refine kD2 ?_ ?_ | refine kS1 ?_ ?_ | refine kS2 ?_ ?_) <;> intro hp <;> try simp only [hp] | simp -implicitDefEqProofs (disch := omega) only [go_sem, Nat.reduceAdd, Nat.reduceSub, reduceCtorEq, Nat.reduceLT, Nat.reduceLeDiff, Nat.reduceEqDiff, Nat.reduceMul, Int.reduceToNat, ↓reduceIte, List.take_of_length_le, if_pos, if_neg, List.getElem?_set_self, List.set_set, cnE, cnV, Tryz.ntmps57, Tryz.results57,  hs, opQ_none])
  refine InlK_intro rfl rfl can_sort ((isp_sort (q := A) rfl rfl (by omega)).mono ?_)
  rintro r L' ⟨rfl, rfl⟩
  repeat' (first | with_reducible first | refine kI (by kernel_rfl) ?_ | (first | refine kB1 ?_ ?_ | refine kB2 ?_ ?_) <;> intro hp | (first | refine kD1 ?_ ?_ | refine kD2 ?_ ?_ | refine kS1 ?_ ?_ | refine kS2 ?_ ?_) <;> intro hp <;> try simp only [hp] | simp -implicitDefEqProofs (disch := omega) only [go_sem, Nat.reduceAdd, Nat.reduceSub, reduceCtorEq, Nat.reduceLT, Nat.reduceLeDiff, Nat.reduceEqDiff, Nat.reduceMul, Int.reduceToNat, ↓reduceIte, List.take_of_length_le, if_pos, if_neg, List.getElem?_set_self, List.set_set, cnE, cnV, Tryz.ntmps57, Tryz.results57,  hc, opQ_none])
  refine InlK_intro rfl rfl can_compact ((isp_compact (q := A.mergeSort fun x y => decide (x ≤ y)) rfl (by rw [List.length_mergeSort]) (by omega)).mono ?_)
  rintro r L' ⟨rfl, rfl⟩
  repeat' (first | with_reducible first | refine kI (by kernel_rfl) ?_ | (first | refine kB1 ?_ ?_ | refine kB2 ?_ ?_) <;> intro hp | (first | refine kD1 ?_ ?_ | refine kD2 ?_ ?_ | refine kS1 ?_ ?_ | refine kS2 ?_ ?_) <;> intro hp <;> try simp only [hp] | simp -implicitDefEqProofs (disch := omega) only [go_sem, Nat.reduceAdd, Nat.reduceSub, reduceCtorEq, Nat.reduceLT, Nat.reduceLeDiff, Nat.reduceEqDiff, Nat.reduceMul, Int.reduceToNat, ↓reduceIte, List.take_of_length_le, if_pos, if_neg, List.getElem?_set_self, List.set_set, cnE, cnV, Tryz.ntmps57, Tryz.results57])
  rw [List.length_mergeSort]
  exact ⟨[1], by simp, by simp, fun n => by simp [renV, expE, renC, gOf, List.idxOf?_cons, srt], fun n => by simp [renB, expE, renC, Function.comp_def, srt]⟩
theorem exp_ownT (q z : List Int) (n m : Nat) (h : q.length = n) (hm : (q ++ z).length = m) : exp 1 [⟨1, (q ++ z).map fun n => .int .i64 n⟩] (.sl 0 m 0 n m) = ints 1 q := by
  subst h hm
  simp [exp, expE, expC, stepC, ints, Function.comp_def]
theorem srt_60 (A : List Int) : (srt A).length ≤ A.length := srt_len A
set_option maxHeartbeats 4000000 in
set_option maxRecDepth 100000 in
theorem spec_cellsOf {Sg : FuncId → Option (List AV → Option AV)} (hS : Sound Tryz.prog Sg) (hc : Sg 87 = some (F1 gCountOf)) (hu : Sg 89 = some (F2 gUnrank)) (ho : Sg 88 = some (F2 gOffset)) (hs : Sg 85 = none) (hp : Sg 86 = none) : ∀ a r, F1 gCells a = some r → CSpec Tryz.prog 57 a r := by
  refine F1_spec ?_
  intro v r hr
  obtain ⟨⟨h1, h2⟩, rfl⟩ := gd_some hr
  have hof : OffI := fun v h1 h2 => o_offsetsI hS hc hu ho v h1 h2
  refine (o_cellsOf (hS.hide 58) (if_pos rfl) ((if_neg (by decide)).trans hs) ((if_neg (by decide)).trans hp) v ⟨h1, h2⟩ hof).cspec ?_ (own (srt (offF v))) (exp_ownT _ _ _ _ rfl (by have := srt_60 (offF v); rw [List.length_append, List.length_replicate]; omega))
  show [_] = [_]
  rw [map_vi0]
def gCellsT (v : Vi) : Option (List Int) := gd (viB v) (if viewOK v = true then srt (offF v) else [])
theorem gCellsT_eq {v : Vi} (h : viB v) : gCellsT v = some (if viewOK v = true then srt (offF v) else []) := gd_eq h
set_option maxHeartbeats 4000000 in
set_option maxRecDepth 100000 in
theorem spec_CellsOfI {Sg : FuncId → Option (List AV → Option AV)} (hS : Sound Tryz.prog Sg) (hv : Sg 37 = some (F1 gValidV)) (hc : Sg 57 = some (F1 gCells)) : ∀ a r, F1 gCellsT a = some r → CSpec Tryz.prog 20 a r := by
  refine F1_spec ?_
  intro v r hr
  obtain ⟨h, rfl⟩ := gd_some hr
  refine CSpec.intro Tryz.func20 rfl (own _) (vc3_sound Tryz.pf hS hS _ _ _ ?_)
  have q1 := gValidV_eq (v := v) h
  cases e1 : viewOK v with
  | false =>
    rw [e1] at q1
    rw [if_neg (by simp)]
    repeat' (first | with_reducible first | refine kI (by kernel_rfl) ?_ | refine kN (by kernel_rfl) ?_ | (first | refine kB1 ?_ ?_ | refine kB2 ?_ ?_) <;> intro hp | (first | refine kD1 ?_ ?_ | refine kD2 ?_ ?_ | refine kS1 ?_ ?_ | refine kS2 ?_ ?_) <;> intro hp <;> try simp only [hp] | simp -implicitDefEqProofs (disch := omega) only [go_sem, Nat.reduceAdd, Nat.reduceSub, reduceCtorEq, Nat.reduceLT, Nat.reduceLeDiff, Nat.reduceEqDiff, Nat.reduceMul, Int.reduceToNat, ↓reduceIte, List.take_of_length_le, if_pos, if_neg, List.getElem?_set_self, List.set_set, cnE, cnV, Tryz.ntmps20, Tryz.results20,  hv, q1])
  | true =>
    rw [e1] at q1
    rw [if_pos rfl]
    obtain ⟨k1, k2, _⟩ := viewOK_iff.1 e1
    have q2 := gCells_eq (v := v) ⟨k1, k2⟩
    have q3 := srt_both (offF_in e1)
    repeat' (first | with_reducible first | refine kI (by kernel_rfl) ?_ | refine kN (by kernel_rfl) ?_ | (first | refine kB1 ?_ ?_ | refine kB2 ?_ ?_) <;> intro hp | (first | refine kD1 ?_ ?_ | refine kD2 ?_ ?_ | refine kS1 ?_ ?_ | refine kS2 ?_ ?_) <;> intro hp <;> try simp only [hp] | simp -implicitDefEqProofs (disch := omega) only [go_sem, Nat.reduceAdd, Nat.reduceSub, reduceCtorEq, Nat.reduceLT, Nat.reduceLeDiff, Nat.reduceEqDiff, Nat.reduceMul, Int.reduceToNat, ↓reduceIte, List.take_of_length_le, if_pos, if_neg, List.getElem?_set_self, List.set_set, cnE, cnV, Tryz.ntmps20, Tryz.results20,  hv, q1, hc, q2, q3])
def gOffT (v : Vi) : Option (List Int) := gd (viB v) (if viewOK v = true then offF v else [])
theorem gOffT_eq {v : Vi} (h : viB v) : gOffT v = some (if viewOK v = true then offF v else []) := gd_eq h
set_option maxHeartbeats 4000000 in
set_option maxRecDepth 100000 in
theorem spec_OffsetsOf {Sg : FuncId → Option (List AV → Option AV)} (hS : Sound Tryz.prog Sg) (hv : Sg 37 = some (F1 gValidV)) (ho : Sg 58 = some (F1 gOffsets)) : ∀ a r, F1 gOffT a = some r → CSpec Tryz.prog 21 a r := by
  refine F1_spec ?_
  intro v r hr
  obtain ⟨h, rfl⟩ := gd_some hr
  refine CSpec.intro Tryz.func21 rfl (own _) (vc3_sound Tryz.pf hS hS _ _ _ ?_)
  have q1 := gValidV_eq (v := v) h
  cases e1 : viewOK v with
  | false =>
    rw [e1] at q1
    rw [if_neg (by simp)]
    repeat' (first | with_reducible first | refine kI (by kernel_rfl) ?_ | refine kN (by kernel_rfl) ?_ | (first | refine kB1 ?_ ?_ | refine kB2 ?_ ?_) <;> intro hp | (first | refine kD1 ?_ ?_ | refine kD2 ?_ ?_ | refine kS1 ?_ ?_ | refine kS2 ?_ ?_) <;> intro hp <;> try simp only [hp] | simp -implicitDefEqProofs (disch := omega) only [go_sem, Nat.reduceAdd, Nat.reduceSub, reduceCtorEq, Nat.reduceLT, Nat.reduceLeDiff, Nat.reduceEqDiff, Nat.reduceMul, Int.reduceToNat, ↓reduceIte, List.take_of_length_le, if_pos, if_neg, List.getElem?_set_self, List.set_set, cnE, cnV, Tryz.ntmps21, Tryz.results21,  hv, q1])
  | true =>
    rw [e1] at q1
    rw [if_pos rfl]
    obtain ⟨k1, k2, _⟩ := viewOK_iff.1 e1
    have q2 := gOffsets_eq (v := v) ⟨k1, k2⟩
    repeat' (first | with_reducible first | refine kI (by kernel_rfl) ?_ | refine kN (by kernel_rfl) ?_ | (first | refine kB1 ?_ ?_ | refine kB2 ?_ ?_) <;> intro hp | (first | refine kD1 ?_ ?_ | refine kD2 ?_ ?_ | refine kS1 ?_ ?_ | refine kS2 ?_ ?_) <;> intro hp <;> try simp only [hp] | simp -implicitDefEqProofs (disch := omega) only [go_sem, Nat.reduceAdd, Nat.reduceSub, reduceCtorEq, Nat.reduceLT, Nat.reduceLeDiff, Nat.reduceEqDiff, Nat.reduceMul, Int.reduceToNat, ↓reduceIte, List.take_of_length_le, if_pos, if_neg, List.getElem?_set_self, List.set_set, cnE, cnV, Tryz.ntmps21, Tryz.results21,  hv, q1, ho, q2])
theorem sub_len : ∀ {B A : List Int}, B.Nodup → (∀ x ∈ B, x ∈ A) → B.length ≤ A.length
  | [], A, _, _ => Nat.zero_le _
  | b :: B, A, hn, hs => by
    obtain ⟨h1, h2⟩ := List.nodup_cons.1 hn
    have hb : b ∈ A := hs b (by simp)
    have := sub_len (B := B) (A := A.erase b) h2 fun x hx => by
      have hxb : x ≠ b := fun h => h1 (h ▸ hx)
      exact (List.mem_erase_of_ne hxb).2 (hs x (by simp [hx]))
    rw [List.length_erase_of_mem hb] at this
    have := List.length_pos_of_mem hb
    simp only [List.length_cons]; omega
theorem diffF_nodup {A : List Int} : diffF A = true ↔ A.Nodup := by
  unfold diffF
  rw [decide_eq_true_eq, List.nodup_iff_pairwise_ne, List.pairwise_iff_getElem]
  constructor
  · intro h i j hi hj hij he
    refine h j hj ?_
    rw [List.getD_eq_getElem?_getD, List.getElem?_eq_getElem hj, Option.getD_some, ← he]
    exact List.mem_take_iff_getElem.2 ⟨i, by omega, rfl⟩
  · intro h k hk hm
    rw [List.getD_eq_getElem?_getD, List.getElem?_eq_getElem hk, Option.getD_some] at hm
    obtain ⟨i, hi, he⟩ := List.mem_take_iff_getElem.1 hm
    exact h i k (by omega) hk (by omega) he
theorem srt_nodup (A : List Int) : (srt A).Nodup := (srt_asc A).imp fun h => by omega
theorem diff_srt (A : List Int) : diffF A = decide ((srt A).length = A.length) := by
  rw [Bool.eq_iff_iff, decide_eq_true_eq]
  constructor
  · intro h
    have := sub_len (diffF_nodup.1 h) fun x hx => (srt_mem A x).2 hx
    have := srt_len A
    omega
  · intro h
    unfold diffF
    rw [decide_eq_true_eq]
    intro k hk hm
    have hs := sub_len (B := srt A) (A := A.eraseIdx k) (srt_nodup A) fun x hx => by
      have hx := (srt_mem A x).1 hx
      obtain ⟨i, hi, rfl⟩ := List.mem_iff_getElem.1 hx
      rw [List.mem_eraseIdx_iff_getElem]
      by_cases hik : i = k
      · subst hik
        rw [List.getD_eq_getElem?_getD, List.getElem?_eq_getElem hk, Option.getD_some] at hm
        obtain ⟨j, hj, he⟩ := List.mem_take_iff_getElem.1 hm
        exact ⟨j, by omega, by omega, he⟩
      · exact ⟨i, hi, hik, rfl⟩
    rw [List.length_eraseIdx_of_lt hk] at hs
    omega
def gOneI (v : Vi) : Option Bool := gd (shapeOK v.sh = true ∧ v.st.length = v.sh.length) (diffF (offF v))
theorem gOneI_eq {v : Vi} (h : shapeOK v.sh = true ∧ v.st.length = v.sh.length) : gOneI v = some (diffF (offF v)) := gd_eq h
set_option maxHeartbeats 4000000 in
set_option maxRecDepth 100000 in
theorem spec_isOneToOne {Sg : FuncId → Option (List AV → Option AV)} (hS : Sound Tryz.prog Sg) (hc : Sg 57 = some (F1 gCells)) (hn : Sg 87 = some (F1 gCountOf)) : ∀ a r, F1 gOneI a = some r → CSpec Tryz.prog 62 a r := by
  refine F1_spec ?_
  intro v r hr
  obtain ⟨⟨h1, h2⟩, rfl⟩ := gd_some hr
  refine CSpec.intro Tryz.func62 rfl (own _) (vc3_sound Tryz.pf hS hS _ _ _ ?_)
  obtain ⟨s1, s2, s3, s4, s5⟩ := shape_facts h1
  have q1 := gCells_eq (v := v) ⟨h1, h2⟩
  have q2 := gCountOf_eq (l := v.sh) (by omega)
  have hl := offF_len v
  have hd : (((srt (offF v)).length : Int) == prodW v.sh) = diffF (offF v) := by
    rw [diff_srt, Bool.eq_iff_iff, beq_iff_eq, decide_eq_true_eq]
    omega
  repeat' (first | with_reducible first | refine kI (by kernel_rfl) ?_ | refine kN (by kernel_rfl) ?_ | (first | refine kB1 ?_ ?_ | refine kB2 ?_ ?_) <;> intro hp | (first | refine kD1 ?_ ?_ | refine kD2 ?_ ?_ | refine kS1 ?_ ?_ | refine kS2 ?_ ?_) <;> intro hp <;> try simp only [hp] | simp -implicitDefEqProofs (disch := omega) only [go_sem, Nat.reduceAdd, Nat.reduceSub, reduceCtorEq, Nat.reduceLT, Nat.reduceLeDiff, Nat.reduceEqDiff, Nat.reduceMul, Int.reduceToNat, ↓reduceIte, List.take_of_length_le, if_pos, if_neg, List.getElem?_set_self, List.set_set, cnE, cnV, Tryz.ntmps62, Tryz.results62,  hc, q1, hn, q2, hd])
def gOneT (v : Vi) : Option Bool := gd (viB v) (viewOK v && diffF (offF v))
theorem gOneT_eq {v : Vi} (h : viB v) : gOneT v = some (viewOK v && diffF (offF v)) := gd_eq h
set_option maxHeartbeats 4000000 in
set_option maxRecDepth 100000 in
theorem spec_IsOneToOneI {Sg : FuncId → Option (List AV → Option AV)} (hS : Sound Tryz.prog Sg) (hv : Sg 37 = some (F1 gValidV)) (ho : Sg 62 = some (F1 gOneI)) : ∀ a r, F1 gOneT a = some r → CSpec Tryz.prog 25 a r := by
  refine F1_spec ?_
  intro v r hr
  obtain ⟨h, rfl⟩ := gd_some hr
  refine CSpec.intro Tryz.func25 rfl (own _) (vc3_sound Tryz.pf hS hS _ _ _ ?_)
  have q1 := gValidV_eq (v := v) h
  cases e1 : viewOK v with
  | false =>
    rw [e1] at q1
    repeat' (first | with_reducible first | refine kI (by kernel_rfl) ?_ | refine kN (by kernel_rfl) ?_ | (first | refine kB1 ?_ ?_ | refine kB2 ?_ ?_) <;> intro hp | (first | refine kD1 ?_ ?_ | refine kD2 ?_ ?_ | refine kS1 ?_ ?_ | refine kS2 ?_ ?_) <;> intro hp <;> try simp only [hp] | simp -implicitDefEqProofs (disch := omega) only [go_sem, Nat.reduceAdd, Nat.reduceSub, reduceCtorEq, Nat.reduceLT, Nat.reduceLeDiff, Nat.reduceEqDiff, Nat.reduceMul, Int.reduceToNat, ↓reduceIte, List.take_of_length_le, if_pos, if_neg, List.getElem?_set_self, List.set_set, cnE, cnV, Tryz.ntmps25, Tryz.results25,  hv, q1])
    try rfl
  | true =>
    rw [e1] at q1
    obtain ⟨k1, k2, _⟩ := viewOK_iff.1 e1
    have q2 := gOneI_eq (v := v) ⟨k1, k2⟩
    have h6 := offF_60 k1
    have q3 := gDifferent_eq (l := offF v) (by omega)
    repeat' (first | with_reducible first | refine kI (by kernel_rfl) ?_ | refine kN (by kernel_rfl) ?_ | (first | refine kB1 ?_ ?_ | refine kB2 ?_ ?_) <;> intro hp | (first | refine kD1 ?_ ?_ | refine kD2 ?_ ?_ | refine kS1 ?_ ?_ | refine kS2 ?_ ?_) <;> intro hp <;> try simp only [hp] | simp -implicitDefEqProofs (disch := omega) only [go_sem, Nat.reduceAdd, Nat.reduceSub, reduceCtorEq, Nat.reduceLT, Nat.reduceLeDiff, Nat.reduceEqDiff, Nat.reduceMul, Int.reduceToNat, ↓reduceIte, List.take_of_length_le, if_pos, if_neg, List.getElem?_set_self, List.set_set, cnE, cnV, Tryz.ntmps25, Tryz.results25,  hv, q1, ho, q2, q3])
    try rfl
end Go.Proofs.YtokpibajolhelaaGreat
namespace Go.Proofs.YtokpibajolhelaaGreat
open Go Go.Ev Go.RowKit Go.Ev.Enc Go.Pl

theorem can_newRd : CanCall Tryz.prog 33 := ⟨_, Tryz.func33, rfl, rfl⟩
def gTrueW (bs : List UInt8) : Option Bool := gd (bs.length < 9223372036854775808) true
theorem within_mem {a b : List Int} (h : ∀ x ∈ a, x ∈ b) : (a.all fun x => b.contains x) = true := by
  rw [List.all_eq_true]
  exact fun x hx => List.contains_iff_mem.2 (h x hx)
end Go.Proofs.YtokpibajolhelaaGreat
namespace Go.Proofs.YtokpibajolhelaaGreat
open Go Go.Ev Go.RowKit Go.Ev.Enc Go.Pl

abbrev viB0 (v : Vi) : Blk := ⟨3, [.agg [i64 v.b, ints 0 v.sh, ints 0 v.st]]⟩
end Go.Proofs.YtokpibajolhelaaGreat
namespace Go.Proofs.YtokpibajolhelaaGreat
open Go Go.Ev Go.RowKit Go.Ev.Enc Go.Pl

end Go.Proofs.YtokpibajolhelaaGreat
namespace Go.Proofs.YtokpibajolhelaaGreat
open Go Go.Ev Go.RowKit Go.Ev.Enc Go.Pl

end Go.Proofs.YtokpibajolhelaaGreat
