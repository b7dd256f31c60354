/- Contracts of functions on views and memories that the laws of this seat call. -/
import Derived.Test.YtokpibajolhelaaGreatVA
import Derived.Test.YtokpibajolhelaaGreatFA
set_option linter.all false
namespace Go.Proofs.YtokpibajolhelaaGreat
open Go Go.Ev Go.RowKit Go.Ev.Enc Go.Pl

theorem frz_md {f : FuncId} {args : List AV} {o : Option Vi} (h : OSpec Tryz.prog f args (mdR o) (mdN o)) (L : List Blk) (xs : List AV) (hx : xs.map (exp 0 L) = args) :
    ISpec Tryz.prog f xs L fun r L' => (o = none ∧ r = .tup [.agg [i64 0, .nilS, .nilS], .bool false] ∧ L' = L) ∨ ∃ v, o = some v ∧ r = .tup [viS L.length v, .bool true] ∧ L' = L ++ [stB v.st] := by
  refine ISpec.fin ((h L xs hx).mono ?_)
  rintro r L' ⟨rfl, rfl⟩
  cases o with
  | none => exact RetQ.top (X := []) (.inl ⟨rfl, rfl, rfl⟩)
  | some v =>
    refine RetQ.one (X := viN v) 1 (by simp) (.inr ⟨v, rfl, ?_, congrArg (fun k => L ++ [k]) (selB_ints _ _ _)⟩)
    show selV _ _ (.tup [viA L.length (L.length + 1) v, .bool true]) = _
    have e0 : gR L.length [L.length + 1] L.length = none := by simp [gR, List.idxOf?_cons]
    have e1 := selC_ints (g := gR L.length [L.length + 1]) (L := L ++ viN v) (b := L.length) (l := v.sh) e0 (by simp)
    rw [selV_tup]
    simp only [List.map_cons, List.map_nil, expE, selC_keep gR_one, e1]
    rfl
theorem frz_cv {f : FuncId} {args : List AV} {v : Vi} (h : OSpec Tryz.prog f args (fun n => viA n (n + 1) v) (fun _ => viN v)) (L : List Blk) (xs : List AV) (hx : xs.map (exp 0 L) = args) :
    ISpec Tryz.prog f xs L fun r L' => r = viS L.length v ∧ L' = L ++ [stB v.st] := by
  refine ISpec.fin ((h L xs hx).mono ?_)
  rintro r L' ⟨rfl, rfl⟩
  refine RetQ.one (X := viN v) 1 (by simp) ⟨?_, congrArg (fun k => L ++ [k]) (selB_ints _ _ _)⟩
  have e0 : gR L.length [L.length + 1] L.length = none := by simp [gR, List.idxOf?_cons]
  have e1 := selC_ints (g := gR L.length [L.length + 1]) (L := L ++ viN v) (b := L.length) (l := v.sh) e0 (by simp)
  rw [selV_agg]
  simp only [List.map_cons, List.map_nil, selC_keep gR_one, e1]
  rfl
theorem can_someSlice : CanCall Tryz.prog 64 := ⟨_, Tryz.func64, rfl, rfl⟩
set_option maxHeartbeats 4000000 in
set_option maxRecDepth 100000 in
theorem isp_someSlice {Sg : FuncId → Option (List AV → Option AV)} (hS : Sound Tryz.prog Sg) (h0 : Sg 59 = none) (h1 : Sg 50 = none) {bs : List UInt8} {b n : Nat} {rL : Int → List Blk} (hC : RC bs b n rL) (hb : bs.length ≤ 2000) (p : Int) (hp : 0 ≤ p ∧ p ≤ 900000000) : ISpec Tryz.prog 64 [.ptr b 1 0 0] (rL p) (fun r L' => ∃ (s : Sl) (p' : Int), r = slA s ∧ slB s ∧ p ≤ p' ∧ p' ≤ p + 20 ∧ L' = rL p') := by
  refine ISpec.ret Tryz.func64 rfl (vc3_sound Tryz.pf hS hS _ _ _ ?_)
  repeat' (first | with_reducible first | refine kI (by kernel_rfl) ?_ | refine kN (by kernel_rfl) ?_ | (first | refine kB1 ?_ ?_ | refine kB2 ?_ ?_) <;> intro hp | (first | refine kD1 ?_ ?_ | refine kD2 ?_ ?_ | refine kS1 ?_ ?_ | refine kS2 ?_ ?_) <;> intro hp <;> try simp only [hp] | simp -implicitDefEqProofs (disch := omega) only [go_sem, Nat.reduceAdd, Nat.reduceSub, reduceCtorEq, Nat.reduceLT, Nat.reduceLeDiff, Nat.reduceEqDiff, Nat.reduceMul, Int.reduceToNat, ↓reduceIte, List.take_of_length_le, if_pos, if_neg, List.getElem?_set_self, List.set_set, cnE, cnV, Tryz.ntmps64, Tryz.results64,  hC.cn, h1, opQ_none])
  refine InlK_intro rfl rfl can_one ((isp_one hS h0 (hC.app _) hb p (by omega) 2 [1, 2, -1, 3, -2, 1, 5] (by decide)).mono ?_)
  rintro r L1 ⟨v0, rfl, m0, rfl⟩
  have hv0 : -500 ≤ v0 ∧ v0 ≤ 500 := by simp at m0; omega
  clear m0
  repeat' (first | with_reducible first | refine kI (by kernel_rfl) ?_ | refine kN (by kernel_rfl) ?_ | (first | refine kB1 ?_ ?_ | refine kB2 ?_ ?_) <;> intro hp | (first | refine kD1 ?_ ?_ | refine kD2 ?_ ?_ | refine kS1 ?_ ?_ | refine kS2 ?_ ?_) <;> intro hp <;> try simp only [hp] | simp -implicitDefEqProofs (disch := omega) only [go_sem, Nat.reduceAdd, Nat.reduceSub, reduceCtorEq, Nat.reduceLT, Nat.reduceLeDiff, Nat.reduceEqDiff, Nat.reduceMul, Int.reduceToNat, ↓reduceIte, List.take_of_length_le, if_pos, if_neg, List.getElem?_set_self, List.set_set, cnE, cnV, Tryz.ntmps64, Tryz.results64,  hC.cn, h0, opQ_none])
  refine InlK_intro rfl rfl can_pick ((isp_pick hS (hC.app _) hb (p + 1) (by omega) 2 (by omega)).mono ?_)
  rintro r L1 ⟨x1, rfl, -, -, rfl⟩
  repeat' (first | with_reducible first | refine kI (by kernel_rfl) ?_ | refine kN (by kernel_rfl) ?_ | (first | refine kB1 ?_ ?_ | refine kB2 ?_ ?_) <;> intro hp | (first | refine kD1 ?_ ?_ | refine kD2 ?_ ?_ | refine kS1 ?_ ?_ | refine kS2 ?_ ?_) <;> intro hp <;> try simp only [hp] | simp -implicitDefEqProofs (disch := omega) only [go_sem, Nat.reduceAdd, Nat.reduceSub, reduceCtorEq, Nat.reduceLT, Nat.reduceLeDiff, Nat.reduceEqDiff, Nat.reduceMul, Int.reduceToNat, ↓reduceIte, List.take_of_length_le, if_pos, if_neg, List.getElem?_set_self, List.set_set, cnE, cnV, Tryz.ntmps64, Tryz.results64,  hC.cn, h0, opQ_none])
  all_goals
    try
      refine InlK_intro rfl rfl can_pick ((isp_pick hS (hC.app _) hb _ (by omega) 12 (by omega)).mono ?_)
      rintro r L1 ⟨y1, rfl, k1, k2, rfl⟩
      repeat' (first | with_reducible first | refine kI (by kernel_rfl) ?_ | refine kN (by kernel_rfl) ?_ | (first | refine kB1 ?_ ?_ | refine kB2 ?_ ?_) <;> intro hp | (first | refine kD1 ?_ ?_ | refine kD2 ?_ ?_ | refine kS1 ?_ ?_ | refine kS2 ?_ ?_) <;> intro hp <;> try simp only [hp] | simp -implicitDefEqProofs (disch := omega) only [go_sem, Nat.reduceAdd, Nat.reduceSub, reduceCtorEq, Nat.reduceLT, Nat.reduceLeDiff, Nat.reduceEqDiff, Nat.reduceMul, Int.reduceToNat, ↓reduceIte, List.take_of_length_le, if_pos, if_neg, List.getElem?_set_self, List.set_set, cnE, cnV, Tryz.ntmps64, Tryz.results64,  hC.cn, h1, opQ_none])
      refine InlK_intro rfl rfl can_one ((isp_one hS h0 (hC.app _) hb _ (by omega) 2 [1, 2, 0, -1, -3, y1, 30, -30] (by simp)).mono ?_)
      rintro r L1 ⟨v1, rfl, m1, rfl⟩
      have hv1 : -500 ≤ v1 ∧ v1 ≤ 500 := by simp at m1; omega
      clear m1
      repeat' (first | with_reducible first | refine kI (by kernel_rfl) ?_ | refine kN (by kernel_rfl) ?_ | (first | refine kB1 ?_ ?_ | refine kB2 ?_ ?_) <;> intro hp | (first | refine kD1 ?_ ?_ | refine kD2 ?_ ?_ | refine kS1 ?_ ?_ | refine kS2 ?_ ?_) <;> intro hp <;> try simp only [hp] | simp -implicitDefEqProofs (disch := omega) only [go_sem, Nat.reduceAdd, Nat.reduceSub, reduceCtorEq, Nat.reduceLT, Nat.reduceLeDiff, Nat.reduceEqDiff, Nat.reduceMul, Int.reduceToNat, ↓reduceIte, List.take_of_length_le, if_pos, if_neg, List.getElem?_set_self, List.set_set, cnE, cnV, Tryz.ntmps64, Tryz.results64,  hC.cn, h0, opQ_none])
  all_goals
    refine InlK_intro rfl rfl can_pick ((isp_pick hS (hC.app _) hb _ (by omega) 2 (by omega)).mono ?_)
    rintro r L1 ⟨x2, rfl, -, -, rfl⟩
    repeat' (first | with_reducible first | refine kI (by kernel_rfl) ?_ | refine kN (by kernel_rfl) ?_ | (first | refine kB1 ?_ ?_ | refine kB2 ?_ ?_) <;> intro hp | (first | refine kD1 ?_ ?_ | refine kD2 ?_ ?_ | refine kS1 ?_ ?_ | refine kS2 ?_ ?_) <;> intro hp <;> try simp only [hp] | simp -implicitDefEqProofs (disch := omega) only [go_sem, Nat.reduceAdd, Nat.reduceSub, reduceCtorEq, Nat.reduceLT, Nat.reduceLeDiff, Nat.reduceEqDiff, Nat.reduceMul, Int.reduceToNat, ↓reduceIte, List.take_of_length_le, if_pos, if_neg, List.getElem?_set_self, List.set_set, cnE, cnV, Tryz.ntmps64, Tryz.results64,  hC.cn, h0, opQ_none])
  all_goals
    try
      refine InlK_intro rfl rfl can_pick ((isp_pick hS (hC.app _) hb _ (by omega) 12 (by omega)).mono ?_)
      rintro r L1 ⟨y2, rfl, k1, k2, rfl⟩
      repeat' (first | with_reducible first | refine kI (by kernel_rfl) ?_ | refine kN (by kernel_rfl) ?_ | (first | refine kB1 ?_ ?_ | refine kB2 ?_ ?_) <;> intro hp | (first | refine kD1 ?_ ?_ | refine kD2 ?_ ?_ | refine kS1 ?_ ?_ | refine kS2 ?_ ?_) <;> intro hp <;> try simp only [hp] | simp -implicitDefEqProofs (disch := omega) only [go_sem, Nat.reduceAdd, Nat.reduceSub, reduceCtorEq, Nat.reduceLT, Nat.reduceLeDiff, Nat.reduceEqDiff, Nat.reduceMul, Int.reduceToNat, ↓reduceIte, List.take_of_length_le, if_pos, if_neg, List.getElem?_set_self, List.set_set, cnE, cnV, Tryz.ntmps64, Tryz.results64,  hC.cn, h1, opQ_none])
      refine InlK_intro rfl rfl can_one ((isp_one hS h0 (hC.app _) hb _ (by omega) 2 [4, 3, -1, -2, 0, y2, 30, -30] (by simp)).mono ?_)
      rintro r L1 ⟨v2, rfl, m2, rfl⟩
      have hv2 : -500 ≤ v2 ∧ v2 ≤ 500 := by simp at m2; omega
      clear m2
      repeat' (first | with_reducible first | refine kI (by kernel_rfl) ?_ | refine kN (by kernel_rfl) ?_ | (first | refine kB1 ?_ ?_ | refine kB2 ?_ ?_) <;> intro hp | (first | refine kD1 ?_ ?_ | refine kD2 ?_ ?_ | refine kS1 ?_ ?_ | refine kS2 ?_ ?_) <;> intro hp <;> try simp only [hp] | simp -implicitDefEqProofs (disch := omega) only [go_sem, Nat.reduceAdd, Nat.reduceSub, reduceCtorEq, Nat.reduceLT, Nat.reduceLeDiff, Nat.reduceEqDiff, Nat.reduceMul, Int.reduceToNat, ↓reduceIte, List.take_of_length_le, if_pos, if_neg, List.getElem?_set_self, List.set_set, cnE, cnV, Tryz.ntmps64, Tryz.results64,  hC.cn, h0, opQ_none])
  all_goals
    refine InlK_intro rfl rfl can_pick ((isp_pick hS (hC.app _) hb _ (by omega) 24 (by omega)).mono ?_)
    rintro r L1 ⟨x3, rfl, -, -, rfl⟩
    repeat' (first | with_reducible first | refine kI (by kernel_rfl) ?_ | refine kN (by kernel_rfl) ?_ | (first | refine kB1 ?_ ?_ | refine kB2 ?_ ?_) <;> intro hp | (first | refine kD1 ?_ ?_ | refine kD2 ?_ ?_ | refine kS1 ?_ ?_ | refine kS2 ?_ ?_) <;> intro hp <;> try simp only [hp] | simp -implicitDefEqProofs (disch := omega) only [go_sem, Nat.reduceAdd, Nat.reduceSub, reduceCtorEq, Nat.reduceLT, Nat.reduceLeDiff, Nat.reduceEqDiff, Nat.reduceMul, Int.reduceToNat, ↓reduceIte, List.take_of_length_le, if_pos, if_neg, List.getElem?_set_self, List.set_set, cnE, cnV, Tryz.ntmps64, Tryz.results64,  hC.cn, h1, opQ_none])
  all_goals
    try
      refine InlK_intro rfl rfl can_one ((isp_one hS h0 (hC.app _) hb _ (by omega) 2 [0, 201] (by decide)).mono ?_)
      rintro r L1 ⟨v3, rfl, m3, rfl⟩
      have hv3 : -500 ≤ v3 ∧ v3 ≤ 500 := by simp at m3; omega
      clear m3
      repeat' (first | with_reducible first | refine kI (by kernel_rfl) ?_ | refine kN (by kernel_rfl) ?_ | (first | refine kB1 ?_ ?_ | refine kB2 ?_ ?_) <;> intro hp | (first | refine kD1 ?_ ?_ | refine kD2 ?_ ?_ | refine kS1 ?_ ?_ | refine kS2 ?_ ?_) <;> intro hp <;> try simp only [hp] | simp -implicitDefEqProofs (disch := omega) only [go_sem, Nat.reduceAdd, Nat.reduceSub, reduceCtorEq, Nat.reduceLT, Nat.reduceLeDiff, Nat.reduceEqDiff, Nat.reduceMul, Int.reduceToNat, ↓reduceIte, List.take_of_length_le, if_pos, if_neg, List.getElem?_set_self, List.set_set, cnE, cnV, Tryz.ntmps64, Tryz.results64,  hC.cn])
  all_goals
    try
      refine InlK_intro rfl rfl can_one ((isp_one hS h0 (hC.app _) hb _ (by omega) 2 [1, -101] (by decide)).mono ?_)
      rintro r L1 ⟨v3, rfl, m3, rfl⟩
      have hv3 : -500 ≤ v3 ∧ v3 ≤ 500 := by simp at m3; omega
      clear m3
      repeat' (first | with_reducible first | refine kI (by kernel_rfl) ?_ | refine kN (by kernel_rfl) ?_ | (first | refine kB1 ?_ ?_ | refine kB2 ?_ ?_) <;> intro hp | (first | refine kD1 ?_ ?_ | refine kD2 ?_ ?_ | refine kS1 ?_ ?_ | refine kS2 ?_ ?_) <;> intro hp <;> try simp only [hp] | simp -implicitDefEqProofs (disch := omega) only [go_sem, Nat.reduceAdd, Nat.reduceSub, reduceCtorEq, Nat.reduceLT, Nat.reduceLeDiff, Nat.reduceEqDiff, Nat.reduceMul, Int.reduceToNat, ↓reduceIte, List.take_of_length_le, if_pos, if_neg, List.getElem?_set_self, List.set_set, cnE, cnV, Tryz.ntmps64, Tryz.results64,  hC.cn])
  all_goals
    refine hC.ret0 ⟨⟨_, _, _, _, _⟩, _, rfl, ?_, ?_, ?_, rfl⟩
    · unfold slB
      dsimp only
      omega
    · omega
    · omega
end Go.Proofs.YtokpibajolhelaaGreat
namespace Go.Proofs.YtokpibajolhelaaGreat
open Go Go.Ev Go.RowKit Go.Ev.Enc Go.Pl

theorem gv_hide {bs : List UInt8} {b n : Nat} {rL : Int → List Blk} (hC : RC bs b n rL) {A B C s : Blk} {Y : List Blk} {i : Nat} (hi : (A :: B :: C :: Y)[i]? = some s) :
    ∃ (rM : Int → List Blk) (m : Nat), RC bs b m rM ∧ (∀ p, rL p ++ (A :: B :: C :: Y) = rM p) ∧ m = n + (3 + Y.length) ∧ (∀ p, (rM p)[n + 2]? = some C) ∧ (∀ p Z, (rM p ++ Z)[n + 2]? = some C) ∧ (∀ p, (rM p)[n + i]? = some s) ∧ (∀ p Z, (rM p ++ Z)[n + i]? = some s) ∧
      (∀ p k, (rM p).set (n + 2) k = rL p ++ (A :: B :: k :: Y)) ∧ ∀ p Z k, (rM p ++ Z).set (n + 2) k = rL p ++ (A :: B :: k :: (Y ++ Z)) := by
  have hi' : ∀ p, (rL p ++ (A :: B :: C :: Y))[n + i]? = some s := fun p => by rw [hC.at']; exact hi
  have h2' : ∀ p, (rL p ++ (A :: B :: C :: Y))[n + 2]? = some C := fun p => by rw [hC.at']; rfl
  refine ⟨fun p => rL p ++ (A :: B :: C :: Y), n + (A :: B :: C :: Y).length, hC.app _, fun _ => rfl, ?_, h2', fun p Z => ?_, hi', fun p Z => ?_, fun p k => ?_, fun p Z k => ?_⟩
  · simp only [List.length_cons]; omega
  · rw [List.getElem?_append_left (List.getElem?_eq_some_iff.1 (h2' p)).1, h2']
  · rw [List.getElem?_append_left (List.getElem?_eq_some_iff.1 (hi' p)).1, hi']
  · rw [hC.sat']; rfl
  · rw [List.append_assoc, hC.sat']; rfl
theorem can_NewView : CanCall Tryz.prog 107 := ⟨_, Tryz.func107, rfl, rfl⟩
theorem can_goodView : CanCall Tryz.prog 69 := ⟨_, Tryz.func69, rfl, rfl⟩
theorem can_FlipDim : CanCall Tryz.prog 109 := ⟨_, Tryz.func109, rfl, rfl⟩
theorem can_PermuteDims : CanCall Tryz.prog 110 := ⟨_, Tryz.func110, rfl, rfl⟩
theorem can_WindowsOf : CanCall Tryz.prog 113 := ⟨_, Tryz.func113, rfl, rfl⟩
theorem can_AddDim : CanCall Tryz.prog 114 := ⟨_, Tryz.func114, rfl, rfl⟩
def NewV : Prop := ∀ (s : List Int), shapeOK s = true → ∀ (t : Nat) (L : List Blk), ISpec Tryz.prog 107 [ints t s] L fun r L' => ∃ st, st.length = s.length ∧ r = viS L.length ⟨0, s, st⟩ ∧ L' = L ++ [stB st]
structure ChgV : Prop where
  new : NewV
  cpy : CopyVi
  sli : SliV
  flip : ∀ (v : Vi) (d : Int), v.sh.length ≤ 4 ∧ v.st.length ≤ 5 → OSpec Tryz.prog 109 [.agg [i64 v.b, ints 0 v.sh, ints 0 v.st], i64 d] (mdR (sliF v d flipS)) (mdN (sliF v d flipS))
  per : ∀ (v : Vi) (o : List Int), v.sh.length ≤ 4 ∧ v.st.length ≤ 5 → 0 < v.sh.length → o.length ≤ 1000 → OSpec Tryz.prog 110 [.agg [i64 v.b, ints 0 v.sh, ints 0 v.st], ints 0 o] (mdR (perD v o)) (mdN (perD v o))
  win : ∀ (v : Vi) (d : Nat) (k : Int), v.sh.length ≤ 4 ∧ v.st.length ≤ 5 → d < v.sh.length → OSpec Tryz.prog 113 [.agg [i64 v.b, ints 0 v.sh, ints 0 v.st], i64 (d : Nat), i64 k] (mdR (winF v d k)) (mdN (winF v d k))
  add : ∀ (v : Vi) (d : Nat), v.sh.length ≤ 4 ∧ v.st.length ≤ 5 → d < v.sh.length → OSpec Tryz.prog 114 [.agg [i64 v.b, ints 0 v.sh, ints 0 v.st], i64 (d : Nat)] (mdR (addF v d)) (mdN (addF v d))
theorem shapeOK_of {l : List Int} (h1 : l.length ≤ 4) (h2 : ∀ x ∈ l, 0 ≤ x ∧ x ≤ 5) (h3 : prodW l ≤ 60) : shapeOK l = true := by
  unfold shapeOK inExt
  simp only [Bool.and_eq_true, decide_eq_true_eq, List.all_eq_true]
  exact ⟨⟨h1, fun x hx => by have := h2 x hx; omega⟩, h3⟩
theorem sliF_ok {v w : Vi} {d : Int} {s : Sl} (h : sliF v d s = some w) : viewOK w = true := by
  unfold sliF at h
  split at h
  · exact madeF_ok h
  · cases h
theorem perD_ok {v w : Vi} {o : List Int} (h : perD v o = some w) : viewOK w = true := by
  unfold perD at h
  split at h
  · exact madeF_ok h
  · cases h
theorem winF_ok {v w : Vi} {d : Nat} {k : Int} (h : winF v d k = some w) : viewOK w = true := by
  unfold winF at h
  split at h
  · exact madeF_ok h
  · cases h
theorem addF_ok {v w : Vi} {d : Nat} (h : addF v d = some w) : viewOK w = true := by
  unfold addF at h
  split at h
  · exact madeF_ok h
  · cases h
theorem gi_app {A B C s : Blk} {Y : List Blk} (Z : List Blk) {i : Nat} (h : (A :: B :: C :: Y)[i]? = some s) : (A :: B :: C :: (Y ++ Z))[i]? = some s := by
  show ((A :: B :: C :: Y) ++ Z)[i]? = some s
  rw [List.getElem?_append_left (List.getElem?_eq_some_iff.1 h).1, h]
theorem gi_new (A B C x y : Blk) (Y : List Blk) : (A :: B :: C :: (Y ++ [x, y]))[Y.length + 4]? = some y := by
  show (Y ++ [x, y])[Y.length + 1]? = some y
  rw [List.getElem?_append_right (by omega), Nat.add_sub_cancel_left]
  rfl
set_option maxHeartbeats 4000000 in
set_option maxRecDepth 100000 in
theorem isp_goodView {Sg : FuncId → Option (List AV → Option AV)} (hS : Sound Tryz.prog Sg) (h0 : Sg 59 = none) (h1 : Sg 50 = none) (h2 : Sg 108 = none) (hc : Sg 78 = some (F1 gCount)) (h3 : Sg 107 = none) (h4 : Sg 66 = none) (h5 : Sg 109 = none) (h6 : Sg 110 = none) (h7 : Sg 113 = none) (h8 : Sg 114 = none) (h9 : Sg 80 = none) (h10 : Sg 64 = none) (hv : Sg 42 = some (F1 gValidV)) (hu : Sg 112 = some (F1 gUpV)) (hr : Sg 111 = some (F1 gRev)) {bs : List UInt8} {b n : Nat} {rL : Int → List Blk} (hC : RC bs b n rL) (hb : bs.length ≤ 2000) (p : Int) (hp : 0 ≤ p ∧ p ≤ 800000000) (hV : ChgV) : ISpec Tryz.prog 69 [.ptr b 1 0 0] (rL p) (fun r L' => ∃ (v : Vi) (p' : Int), v.sh.length ≤ 4 ∧ v.st.length = v.sh.length ∧ r = viS n v ∧ p ≤ p' ∧ p' ≤ p + 200 ∧ L' = rL p' ++ [stB v.st]) := by
  refine ISpec.ret Tryz.func69 rfl (vc3_sound Tryz.pf hS hS _ _ _ ?_)
  repeat' (first | with_reducible first | refine kI (by kernel_rfl) ?_ | (first | refine kB1 ?_ ?_ | refine kB2 ?_ ?_) <;> intro hp | (first | refine kD1 ?_ ?_ | refine kD2 ?_ ?_ | refine kS1 ?_ ?_ | refine kS2 ?_ ?_) <;> intro hp <;> try simp only [hp] | simp -implicitDefEqProofs (disch := omega) only [go_sem, Nat.reduceAdd, Nat.reduceSub, reduceCtorEq, Nat.reduceLT, Nat.reduceLeDiff, Nat.reduceEqDiff, Nat.reduceMul, Int.reduceToNat, ↓reduceIte, List.take_of_length_le, if_pos, if_neg, List.getElem?_set_self, List.set_set, cnE, cnV, Tryz.ntmps69, Tryz.results69,  hC.cn, h2, opQ_none])
  refine InlK_intro rfl rfl can_goodShape ((isp_goodShape hS h0 h1 hc (hC.app [_]) hb p (by omega)).mono ?_)
  rintro r L1 ⟨sh, p1, rfl, k1, k2, k3, k4, k5, k6, rfl⟩
  have hsh := shapeOK_of k1 k2 k4
  repeat' (first | with_reducible first | refine kI (by kernel_rfl) ?_ | (first | refine kB1 ?_ ?_ | refine kB2 ?_ ?_) <;> intro hp | (first | refine kD1 ?_ ?_ | refine kD2 ?_ ?_ | refine kS1 ?_ ?_ | refine kS2 ?_ ?_) <;> intro hp <;> try simp only [hp] | simp -implicitDefEqProofs (disch := omega) only [go_sem, Nat.reduceAdd, Nat.reduceSub, reduceCtorEq, Nat.reduceLT, Nat.reduceLeDiff, Nat.reduceEqDiff, Nat.reduceMul, Int.reduceToNat, ↓reduceIte, List.take_of_length_le, if_pos, if_neg, List.getElem?_set_self, List.set_set, cnE, cnV, Tryz.ntmps69, Tryz.results69,  hC.cn, h3, opQ_none])
  refine InlK_intro rfl rfl can_NewView ((hV.new sh hsh 1 _).mono ?_)
  rintro r L1 ⟨st, k7, rfl, rfl⟩
  repeat' (first | with_reducible first | refine kI (by kernel_rfl) ?_ | (first | refine kB1 ?_ ?_ | refine kB2 ?_ ?_) <;> intro hp | (first | refine kD1 ?_ ?_ | refine kD2 ?_ ?_ | refine kS1 ?_ ?_ | refine kS2 ?_ ?_) <;> intro hp <;> try simp only [hp] | simp -implicitDefEqProofs (disch := omega) only [go_sem, Nat.reduceAdd, Nat.reduceSub, reduceCtorEq, Nat.reduceLT, Nat.reduceLeDiff, Nat.reduceEqDiff, Nat.reduceMul, Int.reduceToNat, ↓reduceIte, List.take_of_length_le, if_pos, if_neg, List.getElem?_set_self, List.set_set, cnE, cnV, Tryz.ntmps69, Tryz.results69,  hC.cn, h0, opQ_none])
  refine InlK_intro rfl rfl can_pick ((isp_pick hS (hC.app _) hb _ (by omega) 10 (by omega)).mono ?_)
  rintro r L1 ⟨y, rfl, -, -, rfl⟩
  repeat' (first | with_reducible first | refine kI (by kernel_rfl) ?_ | (first | refine kB1 ?_ ?_ | refine kB2 ?_ ?_) <;> intro hp | (first | refine kD1 ?_ ?_ | refine kD2 ?_ ?_ | refine kS1 ?_ ?_ | refine kS2 ?_ ?_) <;> intro hp <;> try simp only [hp] | simp -implicitDefEqProofs (disch := omega) only [go_sem, Nat.reduceAdd, Nat.reduceSub, reduceCtorEq, Nat.reduceLT, Nat.reduceLeDiff, Nat.reduceEqDiff, Nat.reduceMul, Int.reduceToNat, ↓reduceIte, List.take_of_length_le, if_pos, if_neg, List.getElem?_set_self, List.set_set, cnE, cnV, Tryz.ntmps69, Tryz.results69,  hC.cn, h1, opQ_none])
  refine InlK_intro rfl rfl can_one ((isp_one hS h0 (hC.app _) hb _ (by omega) 2 [0, 0, 1, 3, y] (by simp)).mono ?_)
  rintro r L1 ⟨b0, rfl, -, rfl⟩
  repeat' (first | with_reducible first | refine kI (by kernel_rfl) ?_ | (first | refine kB1 ?_ ?_ | refine kB2 ?_ ?_) <;> intro hp | (first | refine kD1 ?_ ?_ | refine kD2 ?_ ?_ | refine kS1 ?_ ?_ | refine kS2 ?_ ?_) <;> intro hp <;> try simp only [hp] | simp -implicitDefEqProofs (disch := omega) only [go_sem, Nat.reduceAdd, Nat.reduceSub, reduceCtorEq, Nat.reduceLT, Nat.reduceLeDiff, Nat.reduceEqDiff, Nat.reduceMul, Int.reduceToNat, ↓reduceIte, List.take_of_length_le, if_pos, if_neg, List.getElem?_set_self, List.set_set, cnE, cnV, Tryz.ntmps69, Tryz.results69,  hC.cn, h0, opQ_none])
  refine InlK_intro rfl rfl can_pick ((isp_pick hS (hC.app _) hb _ (by omega) 4 (by omega)).mono ?_)
  rintro r L1 ⟨kk, rfl, k8, k9, rfl⟩
  repeat' (first | with_reducible first | refine kI (by kernel_rfl) ?_ | (first | refine kB1 ?_ ?_ | refine kB2 ?_ ?_) <;> intro hp | (first | refine kD1 ?_ ?_ | refine kD2 ?_ ?_ | refine kS1 ?_ ?_ | refine kS2 ?_ ?_) <;> intro hp <;> try simp only [hp] | simp -implicitDefEqProofs (disch := omega) only [go_sem, Nat.reduceAdd, Nat.reduceSub, reduceCtorEq, Nat.reduceLT, Nat.reduceLeDiff, Nat.reduceEqDiff, Nat.reduceMul, Int.reduceToNat, ↓reduceIte, List.take_of_length_le, if_pos, if_neg, List.getElem?_set_self, List.set_set, cnE, cnV, Tryz.ntmps69, Tryz.results69,  hC.cn])
  refine LoopQ.mix (fun t0 L0 nn ss => ∃ (k : Nat) (v : Vi) (i : Nat) (B : Blk) (Y : List Blk) (p2 : Int) (_ : Unit), (∃ x : Nat → AV, ss = ⟨mixL 0 (.k :: .k :: .k :: .k :: .v (i64 (k : Nat)) :: .s :: .s :: .s :: .k :: .k :: .k :: .k :: .k :: .k :: .k :: .k :: .k :: .k :: .k :: .s :: .s :: .s :: .s :: .s :: .s :: .s :: .s :: .s :: .s :: .s :: .s :: .s :: .s :: .s :: .s :: .s :: .s :: .s :: .s :: .s :: .s :: .s :: .s :: .s :: .s :: .s :: .s :: .s :: .s :: .s :: .s :: .s :: .s :: .s :: .s :: .s :: .s :: .s :: .s :: .s :: .s :: .s :: .s :: .s :: .s :: .s :: .s :: .s :: .s :: .s :: .s :: .s :: .s :: .s :: .s :: .s :: .s :: .s :: .s :: .s :: .s :: .s :: .s :: .s :: .s :: .s :: .s :: .s :: .s :: .s :: .s :: .s :: .s :: .s :: .s :: .s :: .s :: .s :: .s :: .s :: .s :: .k :: .k :: .k :: .k :: .k :: []) t0 x, rL p2 ++ (⟨3, [.agg [i64 0, .nilS, .nilS]]⟩ :: B :: ⟨3, [viS (n + i) v]⟩ :: Y)⟩) ∧ (k ≤ 3) ∧ (v.sh.length ≤ 4) ∧ (v.st.length = v.sh.length) ∧ (((⟨3, [.agg [i64 0, .nilS, .nilS]]⟩ : Blk) :: B :: ⟨3, [viS (n + i) v]⟩ :: Y)[i]? = some (stB v.st)) ∧ (p ≤ p2) ∧ (p2 + 40 * k ≤ p + 190) ∧ nn = 2 * k) ?_ ?_
  · exact ⟨_, kk.toNat, ⟨b0, sh, st⟩, 1, stB st, [], _, (), mixJ (by rw [show ((kk.toNat : Nat) : Int) = kk from by omega]; rfl) rfl, by omega, k1, k7, rfl, by omega, by omega, rfl⟩
  · rintro I0 hI0 mm ss ⟨k, v, i, B, Y, p2, _, ⟨y0, rfl⟩, g1, g2, g3, g4, g5, g6, rfl⟩
    have q1 := gValidV_eq (v := v) ⟨by omega, by omega⟩
    by_cases hx : k = 0 ∨ v.sh.length = 0
    · have htk := fun p A C => hC.tk p (A :: B :: C :: Y) (Y.length + 1 + 1 + 1) rfl
      have hil := (List.getElem?_eq_some_iff.1 g4).1
      have hi2 : i ≠ 2 := fun h => by subst h; simp at g4
      have hi0 : i ≠ 0 := fun h => by subst h; simp at g4
      cases e : viewOK v with
      | false =>
        rw [e] at q1
        have fin : ∀ p3, p ≤ p3 → p3 ≤ p + 200 → RetQ (rL p) (fun r L' => ∃ (v : Vi) (p' : Int), v.sh.length ≤ 4 ∧ v.st.length = v.sh.length ∧ r = viS n v ∧ p ≤ p' ∧ p' ≤ p + 200 ∧ L' = rL p' ++ [stB v.st]) (viS (n + i) ⟨0, v.sh, v.st⟩) (rL p3 ++ (⟨3, [viS (n + i) ⟨0, v.sh, v.st⟩]⟩ :: B :: ⟨3, [viS (n + i) ⟨0, v.sh, v.st⟩]⟩ :: Y)) := fun p3 w1 w2 => by
          refine hC.ret [n + i] (by simp) (by simp at hil ⊢; omega) ⟨⟨0, v.sh, v.st⟩, p3, g2, g3, selV_viS (v := ⟨0, v.sh, v.st⟩) rfl, w1, w2, ?_⟩
          have : (rL p3 ++ (⟨3, [viS (n + i) ⟨0, v.sh, v.st⟩]⟩ :: B :: ⟨3, [viS (n + i) ⟨0, v.sh, v.st⟩]⟩ :: Y))[n + i]? = some (stB v.st) := by
            rw [hC.at', ← g4]
            match i, hi0, hi2 with
            | 1, _, _ => rfl
            | i + 3, _, _ => rfl
          simp only [List.map_cons, List.map_nil, List.getD_eq_getElem?_getD, this, Option.getD_some, selB_ints]
        rcases hx with rfl | hv0
        · repeat' (first | with_reducible first | refine kI (by kernel_rfl) ?_ | refine kN (by kernel_rfl) ?_ | (first | refine kB1 ?_ ?_ | refine kB2 ?_ ?_) <;> intro hp | (first | refine kD1 ?_ ?_ | refine kD2 ?_ ?_ | refine kS1 ?_ ?_ | refine kS2 ?_ ?_) <;> intro hp <;> try simp only [hp] | simp -implicitDefEqProofs (disch := omega) only [go_sem, Nat.reduceAdd, Nat.reduceSub, reduceCtorEq, Nat.reduceLT, Nat.reduceLeDiff, Nat.reduceEqDiff, Nat.reduceMul, Int.reduceToNat, ↓reduceIte, List.take_of_length_le, if_pos, if_neg, List.getElem?_set_self, List.set_set, cnE, cnV, Tryz.ntmps69, Tryz.results69,  hC.cn, htk, g4, hv, q1])
          exact fin _ (by omega) (by omega)
        · have hv0' : ¬ (0 : Int) < (v.sh.length : Int) := by omega
          by_cases hk0 : k = 0
          · subst hk0
            repeat' (first | with_reducible first | refine kI (by kernel_rfl) ?_ | refine kN (by kernel_rfl) ?_ | (first | refine kB1 ?_ ?_ | refine kB2 ?_ ?_) <;> intro hp | (first | refine kD1 ?_ ?_ | refine kD2 ?_ ?_ | refine kS1 ?_ ?_ | refine kS2 ?_ ?_) <;> intro hp <;> try simp only [hp] | simp -implicitDefEqProofs (disch := omega) only [go_sem, Nat.reduceAdd, Nat.reduceSub, reduceCtorEq, Nat.reduceLT, Nat.reduceLeDiff, Nat.reduceEqDiff, Nat.reduceMul, Int.reduceToNat, ↓reduceIte, List.take_of_length_le, if_pos, if_neg, List.getElem?_set_self, List.set_set, cnE, cnV, Tryz.ntmps69, Tryz.results69,  hC.cn, htk, g4, hv, q1])
            exact fin _ (by omega) (by omega)
          · repeat' (first | with_reducible first | refine kI (by kernel_rfl) ?_ | refine kN (by kernel_rfl) ?_ | (first | refine kB1 ?_ ?_ | refine kB2 ?_ ?_) <;> intro hp | (first | refine kD1 ?_ ?_ | refine kD2 ?_ ?_ | refine kS1 ?_ ?_ | refine kS2 ?_ ?_) <;> intro hp <;> try simp only [hp] | simp -implicitDefEqProofs (disch := omega) only [go_sem, Nat.reduceAdd, Nat.reduceSub, reduceCtorEq, Nat.reduceLT, Nat.reduceLeDiff, Nat.reduceEqDiff, Nat.reduceMul, Int.reduceToNat, ↓reduceIte, List.take_of_length_le, if_pos, if_neg, List.getElem?_set_self, List.set_set, cnE, cnV, Tryz.ntmps69, Tryz.results69,  hC.cn, htk, g4, hv, q1, hv0'])
            exact fin _ (by omega) (by omega)
      | true =>
        rw [e] at q1
        have fin : ∀ p3, p ≤ p3 → p3 ≤ p + 200 → RetQ (rL p) (fun r L' => ∃ (v : Vi) (p' : Int), v.sh.length ≤ 4 ∧ v.st.length = v.sh.length ∧ r = viS n v ∧ p ≤ p' ∧ p' ≤ p + 200 ∧ L' = rL p' ++ [stB v.st]) (viS (n + i) v) (rL p3 ++ (⟨3, [viS (n + i) v]⟩ :: B :: ⟨3, [viS (n + i) v]⟩ :: Y)) := fun p3 w1 w2 => by
          refine hC.ret [n + i] (by simp) (by simp at hil ⊢; omega) ⟨v, p3, g2, g3, selV_viS rfl, w1, w2, ?_⟩
          have : (rL p3 ++ (⟨3, [viS (n + i) v]⟩ :: B :: ⟨3, [viS (n + i) v]⟩ :: Y))[n + i]? = some (stB v.st) := by
            rw [hC.at', ← g4]
            match i, hi0, hi2 with
            | 1, _, _ => rfl
            | i + 3, _, _ => rfl
          simp only [List.map_cons, List.map_nil, List.getD_eq_getElem?_getD, this, Option.getD_some, selB_ints]
        rcases hx with rfl | hv0
        · repeat' (first | with_reducible first | refine kI (by kernel_rfl) ?_ | refine kN (by kernel_rfl) ?_ | (first | refine kB1 ?_ ?_ | refine kB2 ?_ ?_) <;> intro hp | (first | refine kD1 ?_ ?_ | refine kD2 ?_ ?_ | refine kS1 ?_ ?_ | refine kS2 ?_ ?_) <;> intro hp <;> try simp only [hp] | simp -implicitDefEqProofs (disch := omega) only [go_sem, Nat.reduceAdd, Nat.reduceSub, reduceCtorEq, Nat.reduceLT, Nat.reduceLeDiff, Nat.reduceEqDiff, Nat.reduceMul, Int.reduceToNat, ↓reduceIte, List.take_of_length_le, if_pos, if_neg, List.getElem?_set_self, List.set_set, cnE, cnV, Tryz.ntmps69, Tryz.results69,  hC.cn, htk, g4, hv, q1])
          exact fin _ (by omega) (by omega)
        · have hv0' : ¬ (0 : Int) < (v.sh.length : Int) := by omega
          by_cases hk0 : k = 0
          · subst hk0
            repeat' (first | with_reducible first | refine kI (by kernel_rfl) ?_ | refine kN (by kernel_rfl) ?_ | (first | refine kB1 ?_ ?_ | refine kB2 ?_ ?_) <;> intro hp | (first | refine kD1 ?_ ?_ | refine kD2 ?_ ?_ | refine kS1 ?_ ?_ | refine kS2 ?_ ?_) <;> intro hp <;> try simp only [hp] | simp -implicitDefEqProofs (disch := omega) only [go_sem, Nat.reduceAdd, Nat.reduceSub, reduceCtorEq, Nat.reduceLT, Nat.reduceLeDiff, Nat.reduceEqDiff, Nat.reduceMul, Int.reduceToNat, ↓reduceIte, List.take_of_length_le, if_pos, if_neg, List.getElem?_set_self, List.set_set, cnE, cnV, Tryz.ntmps69, Tryz.results69,  hC.cn, htk, g4, hv, q1])
            exact fin _ (by omega) (by omega)
          · repeat' (first | with_reducible first | refine kI (by kernel_rfl) ?_ | refine kN (by kernel_rfl) ?_ | (first | refine kB1 ?_ ?_ | refine kB2 ?_ ?_) <;> intro hp | (first | refine kD1 ?_ ?_ | refine kD2 ?_ ?_ | refine kS1 ?_ ?_ | refine kS2 ?_ ?_) <;> intro hp <;> try simp only [hp] | simp -implicitDefEqProofs (disch := omega) only [go_sem, Nat.reduceAdd, Nat.reduceSub, reduceCtorEq, Nat.reduceLT, Nat.reduceLeDiff, Nat.reduceEqDiff, Nat.reduceMul, Int.reduceToNat, ↓reduceIte, List.take_of_length_le, if_pos, if_neg, List.getElem?_set_self, List.set_set, cnE, cnV, Tryz.ntmps69, Tryz.results69,  hC.cn, htk, g4, hv, q1, hv0'])
            exact fin _ (by omega) (by omega)
    · obtain ⟨rM, m, hM, e1, e2, c1, c2, s1, s2, t1, t2⟩ := gv_hide hC g4
      obtain ⟨j, rfl⟩ : ∃ j, k = j + 1 := ⟨k - 1, by omega⟩
      have hwj : IntKind.i64.wrap (((j + 1 : Nat) : Int) - 1) = (j : Int) := by rw [wrap_in (by omega)]; omega
      have hv0' : (0 : Int) < (v.sh.length : Int) := by omega
      have hmle : m ≤ m + 1 := Nat.le_succ m
      rw [e1]
      repeat' (first | with_reducible first | refine kI (by kernel_rfl) ?_ | (first | refine kB1 ?_ ?_ | refine kB2 ?_ ?_) <;> intro hp | (first | refine kD1 ?_ ?_ | refine kD2 ?_ ?_ | refine kS1 ?_ ?_ | refine kS2 ?_ ?_) <;> intro hp <;> try simp only [hp] | simp -implicitDefEqProofs (disch := omega) only [go_sem, Nat.reduceAdd, Nat.reduceSub, reduceCtorEq, Nat.reduceLT, Nat.reduceLeDiff, Nat.reduceEqDiff, Nat.reduceMul, Int.reduceToNat, ↓reduceIte, List.take_of_length_le, if_pos, if_neg, List.getElem?_set_self, List.set_set, cnE, cnV, Tryz.ntmps69, Tryz.results69,  hM.cn, c1, c2, s1, s2, t1, t2, hmle, hv0', h0, opQ_none])
      refine InlK_intro rfl rfl can_pick ((isp_pick hS hM hb _ (by omega) v.sh.length (by omega)).mono ?_)
      rintro r L1 ⟨dd, rfl, k10, k11, rfl⟩
      obtain ⟨d, rfl⟩ : ∃ d : Nat, dd = d := ⟨dd.toNat, by omega⟩
      have hd : d < v.sh.length := by omega
      clear k10 k11
      repeat' (first | with_reducible first | refine kI (by kernel_rfl) ?_ | (first | refine kB1 ?_ ?_ | refine kB2 ?_ ?_) <;> intro hp | (first | refine kD1 ?_ ?_ | refine kD2 ?_ ?_ | refine kS1 ?_ ?_ | refine kS2 ?_ ?_) <;> intro hp <;> try simp only [hp] | simp -implicitDefEqProofs (disch := omega) only [go_sem, Nat.reduceAdd, Nat.reduceSub, reduceCtorEq, Nat.reduceLT, Nat.reduceLeDiff, Nat.reduceEqDiff, Nat.reduceMul, Int.reduceToNat, ↓reduceIte, List.take_of_length_le, if_pos, if_neg, List.getElem?_set_self, List.set_set, cnE, cnV, Tryz.ntmps69, Tryz.results69,  hM.cn, c1, c2, s1, s2, t1, t2, hmle, h0, opQ_none])
      refine InlK_intro rfl rfl can_pick ((isp_pick hS (hM.app _) hb _ (by omega) 6 (by omega)).mono ?_)
      rintro r L1 ⟨ch, rfl, k10, k11, rfl⟩
      have hmi : m + 1 = n + (Y.length + 4) := by omega
      have hch : ch = 0 ∨ ch = 1 ∨ ch = 2 ∨ ch = 3 ∨ ch = 4 ∨ ch = 5 := by omega
      clear k10 k11
      rcases hch with rfl | rfl | rfl | rfl | rfl | rfl
      · repeat' (first | with_reducible first | refine kI (by kernel_rfl) ?_ | (first | refine kB1 ?_ ?_ | refine kB2 ?_ ?_) <;> intro hp | (first | refine kD1 ?_ ?_ | refine kD2 ?_ ?_ | refine kS1 ?_ ?_ | refine kS2 ?_ ?_) <;> intro hp <;> try simp only [hp] | simp -implicitDefEqProofs (disch := omega) only [go_sem, Nat.reduceAdd, Nat.reduceSub, reduceCtorEq, Nat.reduceLT, Nat.reduceLeDiff, Nat.reduceEqDiff, Nat.reduceMul, Int.reduceToNat, ↓reduceIte, List.take_of_length_le, if_pos, if_neg, List.getElem?_set_self, List.set_set, cnE, cnV, Tryz.ntmps69, Tryz.results69,  hM.cn, c1, c2, s1, s2, t1, t2, hmle])
        refine DrawQ.any2 [([0, 1, 2], 3, [0, 1]), ([], 4, [0, 1]), ([5, 6, 7], 8, [0, 1, 7])] [9] [0, 1, 7] (by kernel_rfl) ?_
        repeat' (first | with_reducible first | refine kI (by kernel_rfl) ?_ | (first | refine kB1 ?_ ?_ | refine kB2 ?_ ?_) <;> intro hp | (first | refine kD1 ?_ ?_ | refine kD2 ?_ ?_ | refine kS1 ?_ ?_ | refine kS2 ?_ ?_) <;> intro hp <;> try simp only [hp] | simp -implicitDefEqProofs (disch := omega) only [go_sem, Nat.reduceAdd, Nat.reduceSub, reduceCtorEq, Nat.reduceLT, Nat.reduceLeDiff, Nat.reduceEqDiff, Nat.reduceMul, Int.reduceToNat, ↓reduceIte, List.take_of_length_le, if_pos, if_neg, List.getElem?_set_self, List.set_set, cnE, cnV, Tryz.ntmps69, Tryz.results69,  hM.cn, c1, c2, s1, s2, t1, t2, hmle, h10, opQ_none])
        refine InlK_intro rfl rfl can_someSlice ((isp_someSlice hS h0 h1 (hM.app _) hb _ (by omega)).mono ?_)
        rintro r L1 ⟨s, p3, rfl, hs, k12, k13, rfl⟩
        repeat' (first | with_reducible first | refine kI (by kernel_rfl) ?_ | (first | refine kB1 ?_ ?_ | refine kB2 ?_ ?_) <;> intro hp | (first | refine kD1 ?_ ?_ | refine kD2 ?_ ?_ | refine kS1 ?_ ?_ | refine kS2 ?_ ?_) <;> intro hp <;> try simp only [hp] | simp -implicitDefEqProofs (disch := omega) only [go_sem, Nat.reduceAdd, Nat.reduceSub, reduceCtorEq, Nat.reduceLT, Nat.reduceLeDiff, Nat.reduceEqDiff, Nat.reduceMul, Int.reduceToNat, ↓reduceIte, List.take_of_length_le, if_pos, if_neg, List.getElem?_set_self, List.set_set, cnE, cnV, Tryz.ntmps69, Tryz.results69,  hM.cn, c1, c2, s1, s2, t1, t2, hmle, h4, opQ_none])
        refine InlK_intro rfl rfl can_SliceDim ((frz_md (hV.sli v d s ⟨g2, by omega⟩) _ _ (by simp only [go_sem, ints, s2])).mono ?_)
        rintro r L1 ho
        rw [hM.len'] at ho
        rcases ho with ⟨ho, rfl, rfl⟩ | ⟨w, ho, rfl, rfl⟩
        · repeat' (first | with_reducible first | refine kI (by kernel_rfl) ?_ | (first | refine kB1 ?_ ?_ | refine kB2 ?_ ?_) <;> intro hp | (first | refine kD1 ?_ ?_ | refine kD2 ?_ ?_ | refine kS1 ?_ ?_ | refine kS2 ?_ ?_) <;> intro hp <;> try simp only [hp] | simp -implicitDefEqProofs (disch := omega) only [go_sem, Nat.reduceAdd, Nat.reduceSub, reduceCtorEq, Nat.reduceLT, Nat.reduceLeDiff, Nat.reduceEqDiff, Nat.reduceMul, Int.reduceToNat, ↓reduceIte, List.take_of_length_le, if_pos, if_neg, List.getElem?_set_self, List.set_set, cnE, cnV, Tryz.ntmps69, Tryz.results69,  hM.cn, c1, c2, s1, s2, t1, t2, hmle, hv, hwj])
          exact ⟨2 * j, by omega, hI0 _ _ ⟨j, v, i, B, Y ++ [_], _, (), mixJ (by rfl) (by rw [← e1, List.append_assoc]; rfl), by omega, g2, g3, gi_app _ g4, by omega, by omega, rfl⟩⟩
        · have hw := sliF_ok ho
          have hw' := viewOK_iff.1 hw
          have hw4 := (shape_facts hw'.1).1
          have hw5 := hw'.2.1
          clear hw'
          have qw := gValidV_eq (v := w) ⟨by omega, by omega⟩
          rw [hw] at qw
          repeat' (first | with_reducible first | refine kI (by kernel_rfl) ?_ | (first | refine kB1 ?_ ?_ | refine kB2 ?_ ?_) <;> intro hp | (first | refine kD1 ?_ ?_ | refine kD2 ?_ ?_ | refine kS1 ?_ ?_ | refine kS2 ?_ ?_) <;> intro hp <;> try simp only [hp] | simp -implicitDefEqProofs (disch := omega) only [go_sem, Nat.reduceAdd, Nat.reduceSub, reduceCtorEq, Nat.reduceLT, Nat.reduceLeDiff, Nat.reduceEqDiff, Nat.reduceMul, Int.reduceToNat, ↓reduceIte, List.take_of_length_le, if_pos, if_neg, List.getElem?_set_self, List.set_set, cnE, cnV, Tryz.ntmps69, Tryz.results69,  hM.cn, c1, c2, s1, s2, t1, t2, hmle, hv, qw, hwj])
          exact ⟨2 * j, by omega, hI0 _ _ ⟨j, w, Y.length + 4, B, Y ++ [_, stB w.st], _, (), mixJ (by rfl) (by rw [← hmi]), by omega, hw4, hw5, gi_new _ _ _ _ _ _, by omega, by omega, rfl⟩⟩
      · repeat' (first | with_reducible first | refine kI (by kernel_rfl) ?_ | (first | refine kB1 ?_ ?_ | refine kB2 ?_ ?_) <;> intro hp | (first | refine kD1 ?_ ?_ | refine kD2 ?_ ?_ | refine kS1 ?_ ?_ | refine kS2 ?_ ?_) <;> intro hp <;> try simp only [hp] | simp -implicitDefEqProofs (disch := omega) only [go_sem, Nat.reduceAdd, Nat.reduceSub, reduceCtorEq, Nat.reduceLT, Nat.reduceLeDiff, Nat.reduceEqDiff, Nat.reduceMul, Int.reduceToNat, ↓reduceIte, List.take_of_length_le, if_pos, if_neg, List.getElem?_set_self, List.set_set, cnE, cnV, Tryz.ntmps69, Tryz.results69,  hM.cn, c1, c2, s1, s2, t1, t2, hmle, h5, opQ_none])
        refine InlK_intro rfl rfl can_FlipDim ((frz_md (hV.flip v d ⟨g2, by omega⟩) _ _ (by simp only [go_sem, ints, s2])).mono ?_)
        rintro r L1 ho
        rw [hM.len'] at ho
        rcases ho with ⟨ho, rfl, rfl⟩ | ⟨w, ho, rfl, rfl⟩
        · repeat' (first | with_reducible first | refine kI (by kernel_rfl) ?_ | (first | refine kB1 ?_ ?_ | refine kB2 ?_ ?_) <;> intro hp | (first | refine kD1 ?_ ?_ | refine kD2 ?_ ?_ | refine kS1 ?_ ?_ | refine kS2 ?_ ?_) <;> intro hp <;> try simp only [hp] | simp -implicitDefEqProofs (disch := omega) only [go_sem, Nat.reduceAdd, Nat.reduceSub, reduceCtorEq, Nat.reduceLT, Nat.reduceLeDiff, Nat.reduceEqDiff, Nat.reduceMul, Int.reduceToNat, ↓reduceIte, List.take_of_length_le, if_pos, if_neg, List.getElem?_set_self, List.set_set, cnE, cnV, Tryz.ntmps69, Tryz.results69,  hM.cn, c1, c2, s1, s2, t1, t2, hmle, hv, hwj])
          exact ⟨2 * j, by omega, hI0 _ _ ⟨j, v, i, B, Y ++ [_], _, (), mixJ (by rfl) (by rw [← e1, List.append_assoc]; rfl), by omega, g2, g3, gi_app _ g4, by omega, by omega, rfl⟩⟩
        · have hw := sliF_ok ho
          have hw' := viewOK_iff.1 hw
          have hw4 := (shape_facts hw'.1).1
          have hw5 := hw'.2.1
          clear hw'
          have qw := gValidV_eq (v := w) ⟨by omega, by omega⟩
          rw [hw] at qw
          repeat' (first | with_reducible first | refine kI (by kernel_rfl) ?_ | (first | refine kB1 ?_ ?_ | refine kB2 ?_ ?_) <;> intro hp | (first | refine kD1 ?_ ?_ | refine kD2 ?_ ?_ | refine kS1 ?_ ?_ | refine kS2 ?_ ?_) <;> intro hp <;> try simp only [hp] | simp -implicitDefEqProofs (disch := omega) only [go_sem, Nat.reduceAdd, Nat.reduceSub, reduceCtorEq, Nat.reduceLT, Nat.reduceLeDiff, Nat.reduceEqDiff, Nat.reduceMul, Int.reduceToNat, ↓reduceIte, List.take_of_length_le, if_pos, if_neg, List.getElem?_set_self, List.set_set, cnE, cnV, Tryz.ntmps69, Tryz.results69,  hM.cn, c1, c2, s1, s2, t1, t2, hmle, hv, qw, hwj])
          exact ⟨2 * j, by omega, hI0 _ _ ⟨j, w, Y.length + 4, B, Y ++ [_, stB w.st], _, (), mixJ (by rfl) (by rw [← hmi]), by omega, hw4, hw5, gi_new _ _ _ _ _ _, by omega, by omega, rfl⟩⟩
      · repeat' (first | with_reducible first | refine kI (by kernel_rfl) ?_ | (first | refine kB1 ?_ ?_ | refine kB2 ?_ ?_) <;> intro hp | (first | refine kD1 ?_ ?_ | refine kD2 ?_ ?_ | refine kS1 ?_ ?_ | refine kS2 ?_ ?_) <;> intro hp <;> try simp only [hp] | simp -implicitDefEqProofs (disch := omega) only [go_sem, Nat.reduceAdd, Nat.reduceSub, reduceCtorEq, Nat.reduceLT, Nat.reduceLeDiff, Nat.reduceEqDiff, Nat.reduceMul, Int.reduceToNat, ↓reduceIte, List.take_of_length_le, if_pos, if_neg, List.getElem?_set_self, List.set_set, cnE, cnV, Tryz.ntmps69, Tryz.results69,  hM.cn, c1, c2, s1, s2, t1, t2, hmle])
        refine DrawQ.any2 [([0, 1, 2, 3, 4, 5], 6, []), ([7, 8, 9], 10, [9])] [11] [9] (by kernel_rfl) ?_
        have qu := gUpV_eq (n := v.sh.length) (by omega)
        have qr := gRev_eq (l := upV v.sh.length) (by rw [upV_len]; omega)
        repeat' (first | with_reducible first | refine kI (by kernel_rfl) ?_ | (first | refine kB1 ?_ ?_ | refine kB2 ?_ ?_) <;> intro hp | (first | refine kD1 ?_ ?_ | refine kD2 ?_ ?_ | refine kS1 ?_ ?_ | refine kS2 ?_ ?_) <;> intro hp <;> try simp only [hp] | simp -implicitDefEqProofs (disch := omega) only [go_sem, Nat.reduceAdd, Nat.reduceSub, reduceCtorEq, Nat.reduceLT, Nat.reduceLeDiff, Nat.reduceEqDiff, Nat.reduceMul, Int.reduceToNat, ↓reduceIte, List.take_of_length_le, if_pos, if_neg, List.getElem?_set_self, List.set_set, cnE, cnV, Tryz.ntmps69, Tryz.results69,  hM.cn, c1, c2, s1, s2, t1, t2, hmle, hu, qu, hr, qr, h6, opQ_none])
        refine InlK_intro rfl rfl can_PermuteDims ((frz_md (hV.per v (upV v.sh.length).reverse ⟨g2, by omega⟩ (by omega) (by rw [List.length_reverse, upV_len]; omega)) _ _ (by simp only [go_sem, ints, s2])).mono ?_)
        rintro r L1 ho
        rw [hM.len'] at ho
        rcases ho with ⟨ho, rfl, rfl⟩ | ⟨w, ho, rfl, rfl⟩
        · repeat' (first | with_reducible first | refine kI (by kernel_rfl) ?_ | (first | refine kB1 ?_ ?_ | refine kB2 ?_ ?_) <;> intro hp | (first | refine kD1 ?_ ?_ | refine kD2 ?_ ?_ | refine kS1 ?_ ?_ | refine kS2 ?_ ?_) <;> intro hp <;> try simp only [hp] | simp -implicitDefEqProofs (disch := omega) only [go_sem, Nat.reduceAdd, Nat.reduceSub, reduceCtorEq, Nat.reduceLT, Nat.reduceLeDiff, Nat.reduceEqDiff, Nat.reduceMul, Int.reduceToNat, ↓reduceIte, List.take_of_length_le, if_pos, if_neg, List.getElem?_set_self, List.set_set, cnE, cnV, Tryz.ntmps69, Tryz.results69,  hM.cn, c1, c2, s1, s2, t1, t2, hmle, hv, hwj])
          exact ⟨2 * j, by omega, hI0 _ _ ⟨j, v, i, B, Y ++ [_], _, (), mixJ (by rfl) (by rw [← e1, List.append_assoc]; rfl), by omega, g2, g3, gi_app _ g4, by omega, by omega, rfl⟩⟩
        · have hw := perD_ok ho
          have hw' := viewOK_iff.1 hw
          have hw4 := (shape_facts hw'.1).1
          have hw5 := hw'.2.1
          clear hw'
          have qw := gValidV_eq (v := w) ⟨by omega, by omega⟩
          rw [hw] at qw
          repeat' (first | with_reducible first | refine kI (by kernel_rfl) ?_ | (first | refine kB1 ?_ ?_ | refine kB2 ?_ ?_) <;> intro hp | (first | refine kD1 ?_ ?_ | refine kD2 ?_ ?_ | refine kS1 ?_ ?_ | refine kS2 ?_ ?_) <;> intro hp <;> try simp only [hp] | simp -implicitDefEqProofs (disch := omega) only [go_sem, Nat.reduceAdd, Nat.reduceSub, reduceCtorEq, Nat.reduceLT, Nat.reduceLeDiff, Nat.reduceEqDiff, Nat.reduceMul, Int.reduceToNat, ↓reduceIte, List.take_of_length_le, if_pos, if_neg, List.getElem?_set_self, List.set_set, cnE, cnV, Tryz.ntmps69, Tryz.results69,  hM.cn, c1, c2, s1, s2, t1, t2, hmle, hv, qw, hwj])
          exact ⟨2 * j, by omega, hI0 _ _ ⟨j, w, Y.length + 4, B, Y ++ [_, stB w.st], _, (), mixJ (by rfl) (by rw [← hmi]), by omega, hw4, hw5, gi_new _ _ _ _ _ _, by omega, by omega, rfl⟩⟩
      · repeat' (first | with_reducible first | refine kI (by kernel_rfl) ?_ | (first | refine kB1 ?_ ?_ | refine kB2 ?_ ?_) <;> intro hp | (first | refine kD1 ?_ ?_ | refine kD2 ?_ ?_ | refine kS1 ?_ ?_ | refine kS2 ?_ ?_) <;> intro hp <;> try simp only [hp] | simp -implicitDefEqProofs (disch := omega) only [go_sem, Nat.reduceAdd, Nat.reduceSub, reduceCtorEq, Nat.reduceLT, Nat.reduceLeDiff, Nat.reduceEqDiff, Nat.reduceMul, Int.reduceToNat, ↓reduceIte, List.take_of_length_le, if_pos, if_neg, List.getElem?_set_self, List.set_set, cnE, cnV, Tryz.ntmps69, Tryz.results69,  hM.cn, c1, c2, s1, s2, t1, t2, hmle])
        refine DrawQ.any2 [([0, 1, 2], 3, [0, 1]), ([4], 5, [0, 1]), ([6, 7, 8], 9, [0, 1, 8])] [10] [0, 1, 8] (by kernel_rfl) ?_
        repeat' (first | with_reducible first | refine kI (by kernel_rfl) ?_ | (first | refine kB1 ?_ ?_ | refine kB2 ?_ ?_) <;> intro hp | (first | refine kD1 ?_ ?_ | refine kD2 ?_ ?_ | refine kS1 ?_ ?_ | refine kS2 ?_ ?_) <;> intro hp <;> try simp only [hp] | simp -implicitDefEqProofs (disch := omega) only [go_sem, Nat.reduceAdd, Nat.reduceSub, reduceCtorEq, Nat.reduceLT, Nat.reduceLeDiff, Nat.reduceEqDiff, Nat.reduceMul, Int.reduceToNat, ↓reduceIte, List.take_of_length_le, if_pos, if_neg, List.getElem?_set_self, List.set_set, cnE, cnV, Tryz.ntmps69, Tryz.results69,  hM.cn, c1, c2, s1, s2, t1, t2, hmle, h0, opQ_none])
        refine InlK_intro rfl rfl can_pick ((isp_pick hS (hM.app _) hb _ (by omega) 3 (by omega)).mono ?_)
        rintro r L1 ⟨sz, rfl, k10, k11, rfl⟩
        have hsz : IntKind.i64.wrap (1 + sz) = 1 + sz := wrap_in (by omega)
        repeat' (first | with_reducible first | refine kI (by kernel_rfl) ?_ | (first | refine kB1 ?_ ?_ | refine kB2 ?_ ?_) <;> intro hp | (first | refine kD1 ?_ ?_ | refine kD2 ?_ ?_ | refine kS1 ?_ ?_ | refine kS2 ?_ ?_) <;> intro hp <;> try simp only [hp] | simp -implicitDefEqProofs (disch := omega) only [go_sem, Nat.reduceAdd, Nat.reduceSub, reduceCtorEq, Nat.reduceLT, Nat.reduceLeDiff, Nat.reduceEqDiff, Nat.reduceMul, Int.reduceToNat, ↓reduceIte, List.take_of_length_le, if_pos, if_neg, List.getElem?_set_self, List.set_set, cnE, cnV, Tryz.ntmps69, Tryz.results69,  hM.cn, c1, c2, s1, s2, t1, t2, hmle, hsz, h7, opQ_none])
        refine InlK_intro rfl rfl can_WindowsOf ((frz_md (hV.win v d (1 + sz) ⟨g2, by omega⟩ hd) _ _ (by simp only [go_sem, ints, s2])).mono ?_)
        rintro r L1 ho
        rw [hM.len'] at ho
        rcases ho with ⟨ho, rfl, rfl⟩ | ⟨w, ho, rfl, rfl⟩
        · repeat' (first | with_reducible first | refine kI (by kernel_rfl) ?_ | (first | refine kB1 ?_ ?_ | refine kB2 ?_ ?_) <;> intro hp | (first | refine kD1 ?_ ?_ | refine kD2 ?_ ?_ | refine kS1 ?_ ?_ | refine kS2 ?_ ?_) <;> intro hp <;> try simp only [hp] | simp -implicitDefEqProofs (disch := omega) only [go_sem, Nat.reduceAdd, Nat.reduceSub, reduceCtorEq, Nat.reduceLT, Nat.reduceLeDiff, Nat.reduceEqDiff, Nat.reduceMul, Int.reduceToNat, ↓reduceIte, List.take_of_length_le, if_pos, if_neg, List.getElem?_set_self, List.set_set, cnE, cnV, Tryz.ntmps69, Tryz.results69,  hM.cn, c1, c2, s1, s2, t1, t2, hmle, hv, hwj])
          exact ⟨2 * j, by omega, hI0 _ _ ⟨j, v, i, B, Y ++ [_], _, (), mixJ (by rfl) (by rw [← e1, List.append_assoc]; rfl), by omega, g2, g3, gi_app _ g4, by omega, by omega, rfl⟩⟩
        · have hw := winF_ok ho
          have hw' := viewOK_iff.1 hw
          have hw4 := (shape_facts hw'.1).1
          have hw5 := hw'.2.1
          clear hw'
          have qw := gValidV_eq (v := w) ⟨by omega, by omega⟩
          rw [hw] at qw
          repeat' (first | with_reducible first | refine kI (by kernel_rfl) ?_ | (first | refine kB1 ?_ ?_ | refine kB2 ?_ ?_) <;> intro hp | (first | refine kD1 ?_ ?_ | refine kD2 ?_ ?_ | refine kS1 ?_ ?_ | refine kS2 ?_ ?_) <;> intro hp <;> try simp only [hp] | simp -implicitDefEqProofs (disch := omega) only [go_sem, Nat.reduceAdd, Nat.reduceSub, reduceCtorEq, Nat.reduceLT, Nat.reduceLeDiff, Nat.reduceEqDiff, Nat.reduceMul, Int.reduceToNat, ↓reduceIte, List.take_of_length_le, if_pos, if_neg, List.getElem?_set_self, List.set_set, cnE, cnV, Tryz.ntmps69, Tryz.results69,  hM.cn, c1, c2, s1, s2, t1, t2, hmle, hv, qw, hwj])
          exact ⟨2 * j, by omega, hI0 _ _ ⟨j, w, Y.length + 4, B, Y ++ [_, stB w.st], _, (), mixJ (by rfl) (by rw [← hmi]), by omega, hw4, hw5, gi_new _ _ _ _ _ _, by omega, by omega, rfl⟩⟩
      · repeat' (first | with_reducible first | refine kI (by kernel_rfl) ?_ | (first | refine kB1 ?_ ?_ | refine kB2 ?_ ?_) <;> intro hp | (first | refine kD1 ?_ ?_ | refine kD2 ?_ ?_ | refine kS1 ?_ ?_ | refine kS2 ?_ ?_) <;> intro hp <;> try simp only [hp] | simp -implicitDefEqProofs (disch := omega) only [go_sem, Nat.reduceAdd, Nat.reduceSub, reduceCtorEq, Nat.reduceLT, Nat.reduceLeDiff, Nat.reduceEqDiff, Nat.reduceMul, Int.reduceToNat, ↓reduceIte, List.take_of_length_le, if_pos, if_neg, List.getElem?_set_self, List.set_set, cnE, cnV, Tryz.ntmps69, Tryz.results69,  hM.cn, c1, c2, s1, s2, t1, t2, hmle, h8, opQ_none])
        refine InlK_intro rfl rfl can_AddDim ((frz_md (hV.add v d ⟨g2, by omega⟩ hd) _ _ (by simp only [go_sem, ints, s2])).mono ?_)
        rintro r L1 ho
        rw [hM.len'] at ho
        rcases ho with ⟨ho, rfl, rfl⟩ | ⟨w, ho, rfl, rfl⟩
        · repeat' (first | with_reducible first | refine kI (by kernel_rfl) ?_ | (first | refine kB1 ?_ ?_ | refine kB2 ?_ ?_) <;> intro hp | (first | refine kD1 ?_ ?_ | refine kD2 ?_ ?_ | refine kS1 ?_ ?_ | refine kS2 ?_ ?_) <;> intro hp <;> try simp only [hp] | simp -implicitDefEqProofs (disch := omega) only [go_sem, Nat.reduceAdd, Nat.reduceSub, reduceCtorEq, Nat.reduceLT, Nat.reduceLeDiff, Nat.reduceEqDiff, Nat.reduceMul, Int.reduceToNat, ↓reduceIte, List.take_of_length_le, if_pos, if_neg, List.getElem?_set_self, List.set_set, cnE, cnV, Tryz.ntmps69, Tryz.results69,  hM.cn, c1, c2, s1, s2, t1, t2, hmle, hv, hwj])
          exact ⟨2 * j, by omega, hI0 _ _ ⟨j, v, i, B, Y ++ [_], _, (), mixJ (by rfl) (by rw [← e1, List.append_assoc]; rfl), by omega, g2, g3, gi_app _ g4, by omega, by omega, rfl⟩⟩
        · have hw := addF_ok ho
          have hw' := viewOK_iff.1 hw
          have hw4 := (shape_facts hw'.1).1
          have hw5 := hw'.2.1
          clear hw'
          have qw := gValidV_eq (v := w) ⟨by omega, by omega⟩
          rw [hw] at qw
          repeat' (first | with_reducible first | refine kI (by kernel_rfl) ?_ | (first | refine kB1 ?_ ?_ | refine kB2 ?_ ?_) <;> intro hp | (first | refine kD1 ?_ ?_ | refine kD2 ?_ ?_ | refine kS1 ?_ ?_ | refine kS2 ?_ ?_) <;> intro hp <;> try simp only [hp] | simp -implicitDefEqProofs (disch := omega) only [go_sem, Nat.reduceAdd, Nat.reduceSub, reduceCtorEq, Nat.reduceLT, Nat.reduceLeDiff, Nat.reduceEqDiff, Nat.reduceMul, Int.reduceToNat, ↓reduceIte, List.take_of_length_le, if_pos, if_neg, List.getElem?_set_self, List.set_set, cnE, cnV, Tryz.ntmps69, Tryz.results69,  hM.cn, c1, c2, s1, s2, t1, t2, hmle, hv, qw, hwj])
          exact ⟨2 * j, by omega, hI0 _ _ ⟨j, w, Y.length + 4, B, Y ++ [_, stB w.st], _, (), mixJ (by rfl) (by rw [← hmi]), by omega, hw4, hw5, gi_new _ _ _ _ _ _, by omega, by omega, rfl⟩⟩
      · repeat' (first | with_reducible first | refine kI (by kernel_rfl) ?_ | (first | refine kB1 ?_ ?_ | refine kB2 ?_ ?_) <;> intro hp | (first | refine kD1 ?_ ?_ | refine kD2 ?_ ?_ | refine kS1 ?_ ?_ | refine kS2 ?_ ?_) <;> intro hp <;> try simp only [hp] | simp -implicitDefEqProofs (disch := omega) only [go_sem, Nat.reduceAdd, Nat.reduceSub, reduceCtorEq, Nat.reduceLT, Nat.reduceLeDiff, Nat.reduceEqDiff, Nat.reduceMul, Int.reduceToNat, ↓reduceIte, List.take_of_length_le, if_pos, if_neg, List.getElem?_set_self, List.set_set, cnE, cnV, Tryz.ntmps69, Tryz.results69,  hM.cn, c1, c2, s1, s2, t1, t2, hmle, h9, opQ_none])
        refine InlK_intro rfl rfl can_copyView ((frz_cv (hV.cpy v ⟨by omega, by omega⟩) _ _ (by simp only [go_sem, ints, s2])).mono ?_)
        rintro r L1 ho
        rw [hM.len'] at ho
        obtain ⟨rfl, rfl⟩ := ho
        repeat' (first | with_reducible first | refine kI (by kernel_rfl) ?_ | (first | refine kB1 ?_ ?_ | refine kB2 ?_ ?_) <;> intro hp | (first | refine kD1 ?_ ?_ | refine kD2 ?_ ?_ | refine kS1 ?_ ?_ | refine kS2 ?_ ?_) <;> intro hp <;> try simp only [hp] | simp -implicitDefEqProofs (disch := omega) only [go_sem, Nat.reduceAdd, Nat.reduceSub, reduceCtorEq, Nat.reduceLT, Nat.reduceLeDiff, Nat.reduceEqDiff, Nat.reduceMul, Int.reduceToNat, ↓reduceIte, List.take_of_length_le, if_pos, if_neg, List.getElem?_set_self, List.set_set, cnE, cnV, Tryz.ntmps69, Tryz.results69,  hM.cn, c1, c2, s1, s2, t1, t2, hmle])
        refine DrawQ.any [([0, 1, 2, 3, 4], 5), ([6], 7)] [] [0, 1, 2] (by kernel_rfl) ?_
        repeat' (first | with_reducible first | refine kI (by kernel_rfl) ?_ | (first | refine kB1 ?_ ?_ | refine kB2 ?_ ?_) <;> intro hp | (first | refine kD1 ?_ ?_ | refine kD2 ?_ ?_ | refine kS1 ?_ ?_ | refine kS2 ?_ ?_) <;> intro hp <;> try simp only [hp] | simp -implicitDefEqProofs (disch := omega) only [go_sem, Nat.reduceAdd, Nat.reduceSub, reduceCtorEq, Nat.reduceLT, Nat.reduceLeDiff, Nat.reduceEqDiff, Nat.reduceMul, Int.reduceToNat, ↓reduceIte, List.take_of_length_le, if_pos, if_neg, List.getElem?_set_self, List.set_set, cnE, cnV, Tryz.ntmps69, Tryz.results69,  hM.cn, c1, c2, s1, s2, t1, t2, hmle, h1, opQ_none])
        refine InlK_intro rfl rfl can_one ((isp_one hS h0 (hM.app _) hb _ (by omega) 2 [0, 2, 3, 1, -1, 5] (by decide)).mono ?_)
        rintro r L1 ⟨x, rfl, -, rfl⟩
        have hds : d < v.st.length := by omega
        have qw := gValidV_eq (v := ⟨v.b, v.sh, v.st.set d x⟩) ⟨by dsimp only; omega, by dsimp only; rw [List.length_set]; omega⟩
        have htk2 : List.take v.st.length (v.st.set d x) = v.st.set d x := List.take_of_length_le (by simp)
        have hls : (v.st.set d x).length = v.st.length := List.length_set
        cases e : viewOK ⟨v.b, v.sh, v.st.set d x⟩ with
        | false =>
          rw [e] at qw
          repeat' (first | with_reducible first | refine kI (by kernel_rfl) ?_ | (first | refine kB1 ?_ ?_ | refine kB2 ?_ ?_) <;> intro hp | (first | refine kD1 ?_ ?_ | refine kD2 ?_ ?_ | refine kS1 ?_ ?_ | refine kS2 ?_ ?_) <;> intro hp <;> try simp only [hp] | simp -implicitDefEqProofs (disch := omega) only [go_sem, Nat.reduceAdd, Nat.reduceSub, reduceCtorEq, Nat.reduceLT, Nat.reduceLeDiff, Nat.reduceEqDiff, Nat.reduceMul, Int.reduceToNat, ↓reduceIte, List.take_of_length_le, if_pos, if_neg, List.getElem?_set_self, List.set_set, cnE, cnV, Tryz.ntmps69, Tryz.results69,  hM.cn, c1, c2, s1, s2, t1, t2, hmle, map_setI, htk2, hv, qw, hwj])
          exact ⟨2 * j, by omega, hI0 _ _ ⟨j, v, i, B, Y ++ [_, _], _, (), mixJ (by rfl) (by rw [← e1, List.append_assoc]; rfl), by omega, g2, g3, gi_app _ g4, by omega, by omega, rfl⟩⟩
        | true =>
          rw [e] at qw
          repeat' (first | with_reducible first | refine kI (by kernel_rfl) ?_ | (first | refine kB1 ?_ ?_ | refine kB2 ?_ ?_) <;> intro hp | (first | refine kD1 ?_ ?_ | refine kD2 ?_ ?_ | refine kS1 ?_ ?_ | refine kS2 ?_ ?_) <;> intro hp <;> try simp only [hp] | simp -implicitDefEqProofs (disch := omega) only [go_sem, Nat.reduceAdd, Nat.reduceSub, reduceCtorEq, Nat.reduceLT, Nat.reduceLeDiff, Nat.reduceEqDiff, Nat.reduceMul, Int.reduceToNat, ↓reduceIte, List.take_of_length_le, if_pos, if_neg, List.getElem?_set_self, List.set_set, cnE, cnV, Tryz.ntmps69, Tryz.results69,  hM.cn, c1, c2, s1, s2, t1, t2, hmle, map_setI, htk2, hv, qw, hwj])
          exact ⟨2 * j, by omega, hI0 _ _ ⟨j, ⟨v.b, v.sh, v.st.set d x⟩, Y.length + 4, B, Y ++ [_, stB (v.st.set d x)], _, (), mixJ (by rfl) (by rw [← hmi]; simp only [viS, hls]; rfl), by omega, g2, by dsimp only; omega, gi_new _ _ _ _ _ _, by omega, by omega, rfl⟩⟩
end Go.Proofs.YtokpibajolhelaaGreat
namespace Go.Proofs.YtokpibajolhelaaGreat
open Go Go.Ev Go.RowKit Go.Ev.Enc Go.Pl

abbrev viD (v : Vi) : AV := .agg [i64 v.b, ints 1 v.sh, ints 1 v.st]
theorem gR_ge {n k : Nat} (h : n ≤ k) : gR n [] k = none := by
  unfold gR
  rw [if_neg (by omega)]; rfl
theorem fr_vi {L : List Blk} {n k : Nat} {v : Vi} (hk : n ≤ k) {m : Nat} (hm : v.st.length = m) (h : L[k]? = some (stB v.st)) : selV (gR n []) L (.agg [i64 v.b, ints 1 v.sh, .sl k m 0 m m]) = viD v := by
  subst hm
  rw [selV_agg]
  simp only [List.map_cons, List.map_nil, selC_ints (gR_ge hk) h, selC_d, selC_int]
theorem evApp_rcI {bs : List UInt8} {b n : Nat} {rL : Int → List Blk} (hC : RC bs b n rL) (p : Int) (A : Blk) (X : List Blk) {by' k : Nat} {q : List Int} {x : Int} (hk : q.length = k) (h1 : (k + 1) * by' ≤ 140737488355328) (h2 : k + 1 ≤ 9223372036854775807) :
    evApp (rL p ++ (A :: ⟨1, q.map fun n => .int .i64 n⟩ :: X)) (.sl (n + 1) k 0 k k) [.int .i64 x] 1 by' = some (.sl (n + 1) (k + 1) 0 (k + 1) (k + 1), rL p ++ (A :: ⟨1, (q ++ [x]).map fun n => .int .i64 n⟩ :: X)) := by
  rw [evApp_int (q := q) (by rw [hC.at']; rfl) hk h1 h2, hC.sat']; rfl
set_option maxHeartbeats 4000000 in
set_option maxRecDepth 100000 in
theorem isp_someView {Sg : FuncId → Option (List AV → Option AV)} (hS : Sound Tryz.prog Sg) (h0 : Sg 59 = none) (h1 : Sg 50 = none) (h2 : Sg 69 = none) {bs : List UInt8} {b n : Nat} {rL : Int → List Blk} (hC : RC bs b n rL) (hb : bs.length ≤ 2000) (p : Int) (hp : 0 ≤ p ∧ p ≤ 800000000) (hgv : ∀ {b n : Nat} {rL : Int → List Blk} (hC : RC bs b n rL) (p : Int) (hp : 0 ≤ p ∧ p ≤ 800000000), ISpec Tryz.prog 69 [.ptr b 1 0 0] (rL p) fun r L' => ∃ (v : Vi) (p' : Int), v.sh.length ≤ 4 ∧ v.st.length = v.sh.length ∧ r = viS n v ∧ p ≤ p' ∧ p' ≤ p + 200 ∧ L' = rL p' ++ [stB v.st]) : ISpec Tryz.prog 35 [.ptr b 1 0 0] (rL p) (fun r L' => ∃ (v : Vi) (p' : Int), v.sh.length ≤ 4 ∧ v.st.length ≤ 5 ∧ r = viD v ∧ p ≤ p' ∧ p' ≤ p + 210 ∧ L' = rL p') := by
  refine ISpec.ret Tryz.func35 rfl (vc3_sound Tryz.pf hS hS _ _ _ ?_)
  repeat' (first | with_reducible first | refine kI (by kernel_rfl) ?_ | (first | refine kB1 ?_ ?_ | refine kB2 ?_ ?_) <;> intro hp | (first | refine kD1 ?_ ?_ | refine kD2 ?_ ?_ | refine kS1 ?_ ?_ | refine kS2 ?_ ?_) <;> intro hp <;> try simp only [hp] | simp -implicitDefEqProofs (disch := omega) only [go_sem, Nat.reduceAdd, Nat.reduceSub, reduceCtorEq, Nat.reduceLT, Nat.reduceLeDiff, Nat.reduceEqDiff, Nat.reduceMul, Int.reduceToNat, ↓reduceIte, List.take_of_length_le, if_pos, if_neg, List.getElem?_set_self, List.set_set, cnE, cnV, Tryz.ntmps35, Tryz.results35,  hC.cn, h2, opQ_none])
  refine InlK_intro rfl rfl can_goodView ((hgv (hC.app [_]) p (by omega)).mono ?_)
  rintro r L1 ⟨v, p1, k1, k2, rfl, k3, k4, rfl⟩
  have hA := fun p X => evApp_rcI hC p ⟨3, [.agg [i64 0, .nilS, .nilS]]⟩ X (by' := 8) (k := v.st.length) (q := v.st) (x := 1) rfl (by omega) (by omega)
  repeat' (first | with_reducible first | refine kI (by kernel_rfl) ?_ | (first | refine kB1 ?_ ?_ | refine kB2 ?_ ?_) <;> intro hp | (first | refine kD1 ?_ ?_ | refine kD2 ?_ ?_ | refine kS1 ?_ ?_ | refine kS2 ?_ ?_) <;> intro hp <;> try simp only [hp] | simp -implicitDefEqProofs (disch := omega) only [go_sem, Nat.reduceAdd, Nat.reduceSub, reduceCtorEq, Nat.reduceLT, Nat.reduceLeDiff, Nat.reduceEqDiff, Nat.reduceMul, Int.reduceToNat, ↓reduceIte, List.take_of_length_le, if_pos, if_neg, List.getElem?_set_self, List.set_set, cnE, cnV, Tryz.ntmps35, Tryz.results35,  hC.cn, h0, opQ_none])
  refine InlK_intro rfl rfl can_pick ((isp_pick hS (hC.app _) hb _ (by omega) 24 (by omega)).mono ?_)
  rintro r L1 ⟨ch, rfl, -, -, rfl⟩
  have fin : ∀ (p2 b' : Int) (A B : Blk) (st' : List Int) (m : Nat), p ≤ p2 → p2 ≤ p + 210 → st'.length ≤ 5 → st'.length = m → RetQ (rL p) (fun r L' => ∃ (v : Vi) (p' : Int), v.sh.length ≤ 4 ∧ v.st.length ≤ 5 ∧ r = viD v ∧ p ≤ p' ∧ p' ≤ p + 210 ∧ L' = rL p') (.agg [i64 b', ints 1 v.sh, .sl (n + 1) m 0 m m]) (rL p2 ++ [A, stB st', B]) := fun p2 b' A B st' m w1 w2 w3 w4 =>
    hC.ret0 ⟨⟨b', v.sh, st'⟩, p2, k1, w3, fr_vi (v := ⟨b', v.sh, st'⟩) (by omega) w4 (by rw [hC.at']; rfl), w1, w2, rfl⟩
  repeat' (first | with_reducible first | refine kI (by kernel_rfl) ?_ | (first | refine kB1 ?_ ?_ | refine kB2 ?_ ?_) <;> intro hp | (first | refine kD1 ?_ ?_ | refine kD2 ?_ ?_ | refine kS1 ?_ ?_ | refine kS2 ?_ ?_) <;> intro hp <;> try simp only [hp] | simp -implicitDefEqProofs (disch := omega) only [go_sem, Nat.reduceAdd, Nat.reduceSub, reduceCtorEq, Nat.reduceLT, Nat.reduceLeDiff, Nat.reduceEqDiff, Nat.reduceMul, Int.reduceToNat, ↓reduceIte, List.take_of_length_le, if_pos, if_neg, List.getElem?_set_self, List.set_set, cnE, cnV, Tryz.ntmps35, Tryz.results35,  hC.cn, h1, opQ_none, hA])
  · refine InlK_intro rfl rfl can_one ((isp_one hS h0 (hC.app _) hb _ (by omega) 2 [-1, 60, 61] (by decide)).mono ?_)
    rintro r L1 ⟨x, rfl, -, rfl⟩
    repeat' (first | with_reducible first | refine kI (by kernel_rfl) ?_ | (first | refine kB1 ?_ ?_ | refine kB2 ?_ ?_) <;> intro hp | (first | refine kD1 ?_ ?_ | refine kD2 ?_ ?_ | refine kS1 ?_ ?_ | refine kS2 ?_ ?_) <;> intro hp <;> try simp only [hp] | simp -implicitDefEqProofs (disch := omega) only [go_sem, Nat.reduceAdd, Nat.reduceSub, reduceCtorEq, Nat.reduceLT, Nat.reduceLeDiff, Nat.reduceEqDiff, Nat.reduceMul, Int.reduceToNat, ↓reduceIte, List.take_of_length_le, if_pos, if_neg, List.getElem?_set_self, List.set_set, cnE, cnV, Tryz.ntmps35, Tryz.results35,  hC.cn])
    exact fin _ _ _ _ _ _ (by omega) (by omega) (by omega) rfl
  · exact fin _ _ _ _ (v.st ++ [1]) _ (by omega) (by omega) (by rw [List.length_append]; simp only [List.length_cons, List.length_nil]; omega) (by simp)
  · refine DrawQ.any [([0, 1, 2, 3], 4), ([5], 6)] [] [0, 1] (by kernel_rfl) ?_
    repeat' (first | with_reducible first | refine kI (by kernel_rfl) ?_ | (first | refine kB1 ?_ ?_ | refine kB2 ?_ ?_) <;> intro hp | (first | refine kD1 ?_ ?_ | refine kD2 ?_ ?_ | refine kS1 ?_ ?_ | refine kS2 ?_ ?_) <;> intro hp <;> try simp only [hp] | simp -implicitDefEqProofs (disch := omega) only [go_sem, Nat.reduceAdd, Nat.reduceSub, reduceCtorEq, Nat.reduceLT, Nat.reduceLeDiff, Nat.reduceEqDiff, Nat.reduceMul, Int.reduceToNat, ↓reduceIte, List.take_of_length_le, if_pos, if_neg, List.getElem?_set_self, List.set_set, cnE, cnV, Tryz.ntmps35, Tryz.results35,  hC.cn, h1, opQ_none])
    refine InlK_intro rfl rfl can_one ((isp_one hS h0 (hC.app _) hb _ (by omega) 2 [61, -61, 60] (by decide)).mono ?_)
    rintro r L1 ⟨x, rfl, -, rfl⟩
    have htk2 : List.take v.st.length (v.st.set 0 x) = v.st.set 0 x := List.take_of_length_le (by simp)
    repeat' (first | with_reducible first | refine kI (by kernel_rfl) ?_ | (first | refine kB1 ?_ ?_ | refine kB2 ?_ ?_) <;> intro hp | (first | refine kD1 ?_ ?_ | refine kD2 ?_ ?_ | refine kS1 ?_ ?_ | refine kS2 ?_ ?_) <;> intro hp <;> try simp only [hp] | simp -implicitDefEqProofs (disch := omega) only [go_sem, Nat.reduceAdd, Nat.reduceSub, reduceCtorEq, Nat.reduceLT, Nat.reduceLeDiff, Nat.reduceEqDiff, Nat.reduceMul, Int.reduceToNat, ↓reduceIte, List.take_of_length_le, if_pos, if_neg, List.getElem?_set_self, List.set_set, cnE, cnV, Tryz.ntmps35, Tryz.results35,  hC.cn, map_setI, htk2])
    exact fin _ _ _ _ (v.st.set 0 x) _ (by omega) (by omega) (by rw [List.length_set]; omega) List.length_set
  · exact fin _ _ _ _ _ _ (by omega) (by omega) (by omega) rfl
  · exact fin _ _ _ _ _ _ (by omega) (by omega) (by omega) rfl
end Go.Proofs.YtokpibajolhelaaGreat
namespace Go.Proofs.YtokpibajolhelaaGreat
open Go Go.Ev Go.RowKit Go.Ev.Enc Go.Pl

theorem offF_60 {v : Vi} (h : shapeOK v.sh = true) : (offF v).length ≤ 60 := by
  have := shape_facts h
  rw [offF_len]; omega
theorem sub_len : ∀ {B A : List Int}, B.Nodup → (∀ x ∈ B, x ∈ A) → B.length ≤ A.length
  | [], A, _, _ => Nat.zero_le _
  | b :: B, A, hn, hs => by
    obtain ⟨h1, h2⟩ := List.nodup_cons.1 hn
    have hb : b ∈ A := hs b (by simp)
    have := sub_len (B := B) (A := A.erase b) h2 fun x hx => by
      have hxb : x ≠ b := fun h => h1 (h ▸ hx)
      exact (List.mem_erase_of_ne hxb).2 (hs x (by simp [hx]))
    rw [List.length_erase_of_mem hb] at this
    have := List.length_pos_of_mem hb
    simp only [List.length_cons]; omega
end Go.Proofs.YtokpibajolhelaaGreat
namespace Go.Proofs.YtokpibajolhelaaGreat
open Go Go.Ev Go.RowKit Go.Ev.Enc Go.Pl

theorem can_someView : CanCall Tryz.prog 35 := ⟨_, Tryz.func35, rfl, rfl⟩
theorem can_newRd : CanCall Tryz.prog 33 := ⟨_, Tryz.func33, rfl, rfl⟩
def SomeV : Prop := ∀ {bs : List UInt8} {b n : Nat} {rL : Int → List Blk} (hC : RC bs b n rL) (hb : bs.length ≤ 2000) (p : Int) (hp : 0 ≤ p ∧ p ≤ 800000000), ISpec Tryz.prog 35 [.ptr b 1 0 0] (rL p) fun r L' => ∃ (v : Vi) (p' : Int), v.sh.length ≤ 4 ∧ v.st.length ≤ 5 ∧ r = viD v ∧ p ≤ p' ∧ p' ≤ p + 210 ∧ L' = rL p'
def gTrueW (bs : List UInt8) : Option Bool := gd (bs.length < 9223372036854775808) true
end Go.Proofs.YtokpibajolhelaaGreat
namespace Go.Proofs.YtokpibajolhelaaGreat
open Go Go.Ev Go.RowKit Go.Ev.Enc Go.Pl

abbrev viB0 (v : Vi) : Blk := ⟨3, [.agg [i64 v.b, ints 0 v.sh, ints 0 v.st]]⟩
end Go.Proofs.YtokpibajolhelaaGreat
namespace Go.Proofs.YtokpibajolhelaaGreat
open Go Go.Ev Go.RowKit Go.Ev.Enc Go.Pl

end Go.Proofs.YtokpibajolhelaaGreat
namespace Go.Proofs.YtokpibajolhelaaGreat
open Go Go.Ev Go.RowKit Go.Ev.Enc Go.Pl

end Go.Proofs.YtokpibajolhelaaGreat
