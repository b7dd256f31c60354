/- Contracts of functions on views and memories that the laws of this seat call. -/
import Derived.Test.YtjmkdnnfhphckaaVA
import Derived.Test.YtjmkdnnfhphckaaFA
set_option linter.all false
namespace Go.Proofs.Ytjmkdnnfhphckaa
open Go Go.Ev Go.RowKit Go.Ev.Enc Go.Pl

theorem frz_md {f : FuncId} {args : List AV} {o : Option Vi} (h : OSpec Try.prog f args (mdR o) (mdN o)) (L : List Blk) (xs : List AV) (hx : xs.map (exp 0 L) = args) :
    ISpec Try.prog f xs L fun r L' => (o = none ∧ r = .tup [.agg [i64 0, .nilS, .nilS], .bool false] ∧ L' = L) ∨ ∃ v, o = some v ∧ r = .tup [viS L.length v, .bool true] ∧ L' = L ++ [stB v.st] := by
  refine ISpec.fin ((h L xs hx).mono ?_)
  rintro r L' ⟨rfl, rfl⟩
  cases o with
  | none => exact RetQ.top (X := []) (.inl ⟨rfl, rfl, rfl⟩)
  | some v =>
    refine RetQ.one (X := viN v) 1 (by simp) (.inr ⟨v, rfl, ?_, congrArg (fun k => L ++ [k]) (selB_ints _ _ _)⟩)
    show selV _ _ (.tup [viA L.length (L.length + 1) v, .bool true]) = _
    have e0 : gR L.length [L.length + 1] L.length = none := by simp [gR, List.idxOf?_cons]
    have e1 := selC_ints (g := gR L.length [L.length + 1]) (L := L ++ viN v) (b := L.length) (l := v.sh) e0 (by simp)
    rw [selV_tup]
    simp only [List.map_cons, List.map_nil, expE, selC_keep gR_one, e1]
    rfl
theorem frz_cv {f : FuncId} {args : List AV} {v : Vi} (h : OSpec Try.prog f args (fun n => viA n (n + 1) v) (fun _ => viN v)) (L : List Blk) (xs : List AV) (hx : xs.map (exp 0 L) = args) :
    ISpec Try.prog f xs L fun r L' => r = viS L.length v ∧ L' = L ++ [stB v.st] := by
  refine ISpec.fin ((h L xs hx).mono ?_)
  rintro r L' ⟨rfl, rfl⟩
  refine RetQ.one (X := viN v) 1 (by simp) ⟨?_, congrArg (fun k => L ++ [k]) (selB_ints _ _ _)⟩
  have e0 : gR L.length [L.length + 1] L.length = none := by simp [gR, List.idxOf?_cons]
  have e1 := selC_ints (g := gR L.length [L.length + 1]) (L := L ++ viN v) (b := L.length) (l := v.sh) e0 (by simp)
  rw [selV_agg]
  simp only [List.map_cons, List.map_nil, selC_keep gR_one, e1]
  rfl
theorem can_someSlice : CanCall Try.prog 48 := ⟨_, Try.func48, rfl, rfl⟩
set_option maxHeartbeats 4000000 in
set_option maxRecDepth 100000 in
theorem isp_someSlice {Sg : FuncId → Option (List AV → Option AV)} (hS : Sound Try.prog Sg) (h0 : Sg 16 = none) (h1 : Sg 17 = none) {bs : List UInt8} {b n : Nat} {rL : Int → List Blk} (hC : RC bs b n rL) (hb : bs.length ≤ 2000) (p : Int) (hp : 0 ≤ p ∧ p ≤ 900000000) : ISpec Try.prog 48 [.ptr b 1 0 0] (rL p) (fun r L' => ∃ (s : Sl) (p' : Int), r = slA s ∧ slB s ∧ p ≤ p' ∧ p' ≤ p + 20 ∧ L' = rL p') := by
  refine ISpec.ret Try.func48 rfl (vc3_sound Try.pf hS hS _ _ _ ?_)
  repeat' (first | with_reducible first | refine kI (by kernel_rfl) ?_ | refine kN (by kernel_rfl) ?_ | (first | refine kB1 ?_ ?_ | refine kB2 ?_ ?_) <;> intro hp | (first | refine kD1 ?_ ?_ | refine kD2 ?_ ?_ | refine kS1 ?_ ?_ | refine kS2 ?_ ?_) <;> intro hp <;> try simp only [hp] | simp -implicitDefEqProofs (disch := omega) only [go_sem, Nat.reduceAdd, Nat.reduceSub, reduceCtorEq, Nat.reduceLT, Nat.reduceLeDiff, Nat.reduceEqDiff, Nat.reduceMul, Int.reduceToNat, ↓reduceIte, List.take_of_length_le, if_pos, if_neg, List.getElem?_set_self, List.set_set, cnE, cnV, Try.ntmps48, Try.results48,  hC.cn, h1, opQ_none])
  refine InlK_intro rfl rfl can_one ((isp_one hS h0 (hC.app _) hb p (by omega) 2 [1, 2, -1, 3, -2, 1, 5] (by decide)).mono ?_)
  rintro r L1 ⟨v0, rfl, m0, rfl⟩
  have hv0 : -500 ≤ v0 ∧ v0 ≤ 500 := by simp at m0; omega
  clear m0
  repeat' (first | with_reducible first | refine kI (by kernel_rfl) ?_ | refine kN (by kernel_rfl) ?_ | (first | refine kB1 ?_ ?_ | refine kB2 ?_ ?_) <;> intro hp | (first | refine kD1 ?_ ?_ | refine kD2 ?_ ?_ | refine kS1 ?_ ?_ | refine kS2 ?_ ?_) <;> intro hp <;> try simp only [hp] | simp -implicitDefEqProofs (disch := omega) only [go_sem, Nat.reduceAdd, Nat.reduceSub, reduceCtorEq, Nat.reduceLT, Nat.reduceLeDiff, Nat.reduceEqDiff, Nat.reduceMul, Int.reduceToNat, ↓reduceIte, List.take_of_length_le, if_pos, if_neg, List.getElem?_set_self, List.set_set, cnE, cnV, Try.ntmps48, Try.results48,  hC.cn, h0, opQ_none])
  refine InlK_intro rfl rfl can_pick ((isp_pick hS (hC.app _) hb (p + 1) (by omega) 2 (by omega)).mono ?_)
  rintro r L1 ⟨x1, rfl, -, -, rfl⟩
  repeat' (first | with_reducible first | refine kI (by kernel_rfl) ?_ | refine kN (by kernel_rfl) ?_ | (first | refine kB1 ?_ ?_ | refine kB2 ?_ ?_) <;> intro hp | (first | refine kD1 ?_ ?_ | refine kD2 ?_ ?_ | refine kS1 ?_ ?_ | refine kS2 ?_ ?_) <;> intro hp <;> try simp only [hp] | simp -implicitDefEqProofs (disch := omega) only [go_sem, Nat.reduceAdd, Nat.reduceSub, reduceCtorEq, Nat.reduceLT, Nat.reduceLeDiff, Nat.reduceEqDiff, Nat.reduceMul, Int.reduceToNat, ↓reduceIte, List.take_of_length_le, if_pos, if_neg, List.getElem?_set_self, List.set_set, cnE, cnV, Try.ntmps48, Try.results48,  hC.cn, h0, opQ_none])
  all_goals
    try
      refine InlK_intro rfl rfl can_pick ((isp_pick hS (hC.app _) hb _ (by omega) 12 (by omega)).mono ?_)
      rintro r L1 ⟨y1, rfl, k1, k2, rfl⟩
      repeat' (first | with_reducible first | refine kI (by kernel_rfl) ?_ | refine kN (by kernel_rfl) ?_ | (first | refine kB1 ?_ ?_ | refine kB2 ?_ ?_) <;> intro hp | (first | refine kD1 ?_ ?_ | refine kD2 ?_ ?_ | refine kS1 ?_ ?_ | refine kS2 ?_ ?_) <;> intro hp <;> try simp only [hp] | simp -implicitDefEqProofs (disch := omega) only [go_sem, Nat.reduceAdd, Nat.reduceSub, reduceCtorEq, Nat.reduceLT, Nat.reduceLeDiff, Nat.reduceEqDiff, Nat.reduceMul, Int.reduceToNat, ↓reduceIte, List.take_of_length_le, if_pos, if_neg, List.getElem?_set_self, List.set_set, cnE, cnV, Try.ntmps48, Try.results48,  hC.cn, h1, opQ_none])
      refine InlK_intro rfl rfl can_one ((isp_one hS h0 (hC.app _) hb _ (by omega) 2 [1, 2, 0, -1, -3, y1, 30, -30] (by simp)).mono ?_)
      rintro r L1 ⟨v1, rfl, m1, rfl⟩
      have hv1 : -500 ≤ v1 ∧ v1 ≤ 500 := by simp at m1; omega
      clear m1
      repeat' (first | with_reducible first | refine kI (by kernel_rfl) ?_ | refine kN (by kernel_rfl) ?_ | (first | refine kB1 ?_ ?_ | refine kB2 ?_ ?_) <;> intro hp | (first | refine kD1 ?_ ?_ | refine kD2 ?_ ?_ | refine kS1 ?_ ?_ | refine kS2 ?_ ?_) <;> intro hp <;> try simp only [hp] | simp -implicitDefEqProofs (disch := omega) only [go_sem, Nat.reduceAdd, Nat.reduceSub, reduceCtorEq, Nat.reduceLT, Nat.reduceLeDiff, Nat.reduceEqDiff, Nat.reduceMul, Int.reduceToNat, ↓reduceIte, List.take_of_length_le, if_pos, if_neg, List.getElem?_set_self, List.set_set, cnE, cnV, Try.ntmps48, Try.results48,  hC.cn, h0, opQ_none])
  all_goals
    refine InlK_intro rfl rfl can_pick ((isp_pick hS (hC.app _) hb _ (by omega) 2 (by omega)).mono ?_)
    rintro r L1 ⟨x2, rfl, -, -, rfl⟩
    repeat' (first | with_reducible first | refine kI (by kernel_rfl) ?_ | refine kN (by kernel_rfl) ?_ | (first | refine kB1 ?_ ?_ | refine kB2 ?_ ?_) <;> intro hp | (first | refine kD1 ?_ ?_ | refine kD2 ?_ ?_ | refine kS1 ?_ ?_ | refine kS2 ?_ ?_) <;> intro hp <;> try simp only [hp] | simp -implicitDefEqProofs (disch := omega) only [go_sem, Nat.reduceAdd, Nat.reduceSub, reduceCtorEq, Nat.reduceLT, Nat.reduceLeDiff, Nat.reduceEqDiff, Nat.reduceMul, Int.reduceToNat, ↓reduceIte, List.take_of_length_le, if_pos, if_neg, List.getElem?_set_self, List.set_set, cnE, cnV, Try.ntmps48, Try.results48,  hC.cn, h0, opQ_none])
  all_goals
    try
      refine InlK_intro rfl rfl can_pick ((isp_pick hS (hC.app _) hb _ (by omega) 12 (by omega)).mono ?_)
      rintro r L1 ⟨y2, rfl, k1, k2, rfl⟩
      repeat' (first | with_reducible first | refine kI (by kernel_rfl) ?_ | refine kN (by kernel_rfl) ?_ | (first | refine kB1 ?_ ?_ | refine kB2 ?_ ?_) <;> intro hp | (first | refine kD1 ?_ ?_ | refine kD2 ?_ ?_ | refine kS1 ?_ ?_ | refine kS2 ?_ ?_) <;> intro hp <;> try simp only [hp] | simp -implicitDefEqProofs (disch := omega) only [go_sem, Nat.reduceAdd, Nat.reduceSub, reduceCtorEq, Nat.reduceLT, Nat.reduceLeDiff, Nat.reduceEqDiff, Nat.reduceMul, Int.reduceToNat, ↓reduceIte, List.take_of_length_le, if_pos, if_neg, List.getElem?_set_self, List.set_set, cnE, cnV, Try.ntmps48, Try.results48,  hC.cn, h1, opQ_none])
      refine InlK_intro rfl rfl can_one ((isp_one hS h0 (hC.app _) hb _ (by omega) 2 [4, 3, -1, -2, 0, y2, 30, -30] (by simp)).mono ?_)
      rintro r L1 ⟨v2, rfl, m2, rfl⟩
      have hv2 : -500 ≤ v2 ∧ v2 ≤ 500 := by simp at m2; omega
      clear m2
      repeat' (first | with_reducible first | refine kI (by kernel_rfl) ?_ | refine kN (by kernel_rfl) ?_ | (first | refine kB1 ?_ ?_ | refine kB2 ?_ ?_) <;> intro hp | (first | refine kD1 ?_ ?_ | refine kD2 ?_ ?_ | refine kS1 ?_ ?_ | refine kS2 ?_ ?_) <;> intro hp <;> try simp only [hp] | simp -implicitDefEqProofs (disch := omega) only [go_sem, Nat.reduceAdd, Nat.reduceSub, reduceCtorEq, Nat.reduceLT, Nat.reduceLeDiff, Nat.reduceEqDiff, Nat.reduceMul, Int.reduceToNat, ↓reduceIte, List.take_of_length_le, if_pos, if_neg, List.getElem?_set_self, List.set_set, cnE, cnV, Try.ntmps48, Try.results48,  hC.cn, h0, opQ_none])
  all_goals
    refine InlK_intro rfl rfl can_pick ((isp_pick hS (hC.app _) hb _ (by omega) 24 (by omega)).mono ?_)
    rintro r L1 ⟨x3, rfl, -, -, rfl⟩
    repeat' (first | with_reducible first | refine kI (by kernel_rfl) ?_ | refine kN (by kernel_rfl) ?_ | (first | refine kB1 ?_ ?_ | refine kB2 ?_ ?_) <;> intro hp | (first | refine kD1 ?_ ?_ | refine kD2 ?_ ?_ | refine kS1 ?_ ?_ | refine kS2 ?_ ?_) <;> intro hp <;> try simp only [hp] | simp -implicitDefEqProofs (disch := omega) only [go_sem, Nat.reduceAdd, Nat.reduceSub, reduceCtorEq, Nat.reduceLT, Nat.reduceLeDiff, Nat.reduceEqDiff, Nat.reduceMul, Int.reduceToNat, ↓reduceIte, List.take_of_length_le, if_pos, if_neg, List.getElem?_set_self, List.set_set, cnE, cnV, Try.ntmps48, Try.results48,  hC.cn, h1, opQ_none])
  all_goals
    try
      refine InlK_intro rfl rfl can_one ((isp_one hS h0 (hC.app _) hb _ (by omega) 2 [0, 201] (by decide)).mono ?_)
      rintro r L1 ⟨v3, rfl, m3, rfl⟩
      have hv3 : -500 ≤ v3 ∧ v3 ≤ 500 := by simp at m3; omega
      clear m3
      repeat' (first | with_reducible first | refine kI (by kernel_rfl) ?_ | refine kN (by kernel_rfl) ?_ | (first | refine kB1 ?_ ?_ | refine kB2 ?_ ?_) <;> intro hp | (first | refine kD1 ?_ ?_ | refine kD2 ?_ ?_ | refine kS1 ?_ ?_ | refine kS2 ?_ ?_) <;> intro hp <;> try simp only [hp] | simp -implicitDefEqProofs (disch := omega) only [go_sem, Nat.reduceAdd, Nat.reduceSub, reduceCtorEq, Nat.reduceLT, Nat.reduceLeDiff, Nat.reduceEqDiff, Nat.reduceMul, Int.reduceToNat, ↓reduceIte, List.take_of_length_le, if_pos, if_neg, List.getElem?_set_self, List.set_set, cnE, cnV, Try.ntmps48, Try.results48,  hC.cn])
  all_goals
    try
      refine InlK_intro rfl rfl can_one ((isp_one hS h0 (hC.app _) hb _ (by omega) 2 [1, -101] (by decide)).mono ?_)
      rintro r L1 ⟨v3, rfl, m3, rfl⟩
      have hv3 : -500 ≤ v3 ∧ v3 ≤ 500 := by simp at m3; omega
      clear m3
      repeat' (first | with_reducible first | refine kI (by kernel_rfl) ?_ | refine kN (by kernel_rfl) ?_ | (first | refine kB1 ?_ ?_ | refine kB2 ?_ ?_) <;> intro hp | (first | refine kD1 ?_ ?_ | refine kD2 ?_ ?_ | refine kS1 ?_ ?_ | refine kS2 ?_ ?_) <;> intro hp <;> try simp only [hp] | simp -implicitDefEqProofs (disch := omega) only [go_sem, Nat.reduceAdd, Nat.reduceSub, reduceCtorEq, Nat.reduceLT, Nat.reduceLeDiff, Nat.reduceEqDiff, Nat.reduceMul, Int.reduceToNat, ↓reduceIte, List.take_of_length_le, if_pos, if_neg, List.getElem?_set_self, List.set_set, cnE, cnV, Try.ntmps48, Try.results48,  hC.cn])
  all_goals
    refine hC.ret0 ⟨⟨_, _, _, _, _⟩, _, rfl, ?_, ?_, ?_, rfl⟩
    · unfold slB
      dsimp only
      omega
    · omega
    · omega
end Go.Proofs.Ytjmkdnnfhphckaa
namespace Go.Proofs.Ytjmkdnnfhphckaa
open Go Go.Ev Go.RowKit Go.Ev.Enc Go.Pl

theorem gv_hide {bs : List UInt8} {b n : Nat} {rL : Int → List Blk} (hC : RC bs b n rL) {A B C s : Blk} {Y : List Blk} {i : Nat} (hi : (A :: B :: C :: Y)[i]? = some s) :
    ∃ (rM : Int → List Blk) (m : Nat), RC bs b m rM ∧ (∀ p, rL p ++ (A :: B :: C :: Y) = rM p) ∧ m = n + (3 + Y.length) ∧ (∀ p, (rM p)[n + 2]? = some C) ∧ (∀ p Z, (rM p ++ Z)[n + 2]? = some C) ∧ (∀ p, (rM p)[n + i]? = some s) ∧ (∀ p Z, (rM p ++ Z)[n + i]? = some s) ∧
      (∀ p k, (rM p).set (n + 2) k = rL p ++ (A :: B :: k :: Y)) ∧ ∀ p Z k, (rM p ++ Z).set (n + 2) k = rL p ++ (A :: B :: k :: (Y ++ Z)) := by
  have hi' : ∀ p, (rL p ++ (A :: B :: C :: Y))[n + i]? = some s := fun p => by rw [hC.at']; exact hi
  have h2' : ∀ p, (rL p ++ (A :: B :: C :: Y))[n + 2]? = some C := fun p => by rw [hC.at']; rfl
  refine ⟨fun p => rL p ++ (A :: B :: C :: Y), n + (A :: B :: C :: Y).length, hC.app _, fun _ => rfl, ?_, h2', fun p Z => ?_, hi', fun p Z => ?_, fun p k => ?_, fun p Z k => ?_⟩
  · simp only [List.length_cons]; omega
  · rw [List.getElem?_append_left (List.getElem?_eq_some_iff.1 (h2' p)).1, h2']
  · rw [List.getElem?_append_left (List.getElem?_eq_some_iff.1 (hi' p)).1, hi']
  · rw [hC.sat']; rfl
  · rw [List.append_assoc, hC.sat']; rfl
theorem can_NewView : CanCall Try.prog 46 := ⟨_, Try.func46, rfl, rfl⟩
theorem can_goodView : CanCall Try.prog 33 := ⟨_, Try.func33, rfl, rfl⟩
theorem can_FlipDim : CanCall Try.prog 49 := ⟨_, Try.func49, rfl, rfl⟩
theorem can_PermuteDims : CanCall Try.prog 50 := ⟨_, Try.func50, rfl, rfl⟩
theorem can_WindowsOf : CanCall Try.prog 53 := ⟨_, Try.func53, rfl, rfl⟩
theorem can_AddDim : CanCall Try.prog 54 := ⟨_, Try.func54, rfl, rfl⟩
def NewV : Prop := ∀ (s : List Int), shapeOK s = true → ∀ (t : Nat) (L : List Blk), ISpec Try.prog 46 [ints t s] L fun r L' => ∃ st, st.length = s.length ∧ r = viS L.length ⟨0, s, st⟩ ∧ L' = L ++ [stB st]
structure ChgV : Prop where
  new : NewV
  cpy : CopyVi
  sli : SliV
  flip : ∀ (v : Vi) (d : Int), v.sh.length ≤ 4 ∧ v.st.length ≤ 5 → OSpec Try.prog 49 [.agg [i64 v.b, ints 0 v.sh, ints 0 v.st], i64 d] (mdR (sliF v d flipS)) (mdN (sliF v d flipS))
  per : ∀ (v : Vi) (o : List Int), v.sh.length ≤ 4 ∧ v.st.length ≤ 5 → 0 < v.sh.length → o.length ≤ 1000 → OSpec Try.prog 50 [.agg [i64 v.b, ints 0 v.sh, ints 0 v.st], ints 0 o] (mdR (perD v o)) (mdN (perD v o))
  win : ∀ (v : Vi) (d : Nat) (k : Int), v.sh.length ≤ 4 ∧ v.st.length ≤ 5 → d < v.sh.length → OSpec Try.prog 53 [.agg [i64 v.b, ints 0 v.sh, ints 0 v.st], i64 (d : Nat), i64 k] (mdR (winF v d k)) (mdN (winF v d k))
  add : ∀ (v : Vi) (d : Nat), v.sh.length ≤ 4 ∧ v.st.length ≤ 5 → d < v.sh.length → OSpec Try.prog 54 [.agg [i64 v.b, ints 0 v.sh, ints 0 v.st], i64 (d : Nat)] (mdR (addF v d)) (mdN (addF v d))
theorem shapeOK_of {l : List Int} (h1 : l.length ≤ 4) (h2 : ∀ x ∈ l, 0 ≤ x ∧ x ≤ 5) (h3 : prodW l ≤ 60) : shapeOK l = true := by
  unfold shapeOK inExt
  simp only [Bool.and_eq_true, decide_eq_true_eq, List.all_eq_true]
  exact ⟨⟨h1, fun x hx => by have := h2 x hx; omega⟩, h3⟩
theorem sliF_ok {v w : Vi} {d : Int} {s : Sl} (h : sliF v d s = some w) : viewOK w = true := by
  unfold sliF at h
  split at h
  · exact madeF_ok h
  · cases h
theorem perD_ok {v w : Vi} {o : List Int} (h : perD v o = some w) : viewOK w = true := by
  unfold perD at h
  split at h
  · exact madeF_ok h
  · cases h
theorem winF_ok {v w : Vi} {d : Nat} {k : Int} (h : winF v d k = some w) : viewOK w = true := by
  unfold winF at h
  split at h
  · exact madeF_ok h
  · cases h
theorem addF_ok {v w : Vi} {d : Nat} (h : addF v d = some w) : viewOK w = true := by
  unfold addF at h
  split at h
  · exact madeF_ok h
  · cases h
theorem gi_app {A B C s : Blk} {Y : List Blk} (Z : List Blk) {i : Nat} (h : (A :: B :: C :: Y)[i]? = some s) : (A :: B :: C :: (Y ++ Z))[i]? = some s := by
  show ((A :: B :: C :: Y) ++ Z)[i]? = some s
  rw [List.getElem?_append_left (List.getElem?_eq_some_iff.1 h).1, h]
theorem gi_new (A B C x y : Blk) (Y : List Blk) : (A :: B :: C :: (Y ++ [x, y]))[Y.length + 4]? = some y := by
  show (Y ++ [x, y])[Y.length + 1]? = some y
  rw [List.getElem?_append_right (by omega), Nat.add_sub_cancel_left]
  rfl
set_option maxHeartbeats 4000000 in
set_option maxRecDepth 100000 in
theorem isp_goodView {Sg : FuncId → Option (List AV → Option AV)} (hS : Sound Try.prog Sg) (h0 : Sg 16 = none) (h1 : Sg 17 = none) (h2 : Sg 34 = none) (hc : Sg 40 = some (F1 gCount)) (h3 : Sg 46 = none) (h4 : Sg 47 = none) (h5 : Sg 49 = none) (h6 : Sg 50 = none) (h7 : Sg 53 = none) (h8 : Sg 54 = none) (h9 : Sg 42 = none) (h10 : Sg 48 = none) (hv : Sg 23 = some (F1 gValidV)) (hu : Sg 52 = some (F1 gUpV)) (hr : Sg 51 = some (F1 gRev)) {bs : List UInt8} {b n : Nat} {rL : Int → List Blk} (hC : RC bs b n rL) (hb : bs.length ≤ 2000) (p : Int) (hp : 0 ≤ p ∧ p ≤ 800000000) (hV : ChgV) : ISpec Try.prog 33 [.ptr b 1 0 0] (rL p) (fun r L' => ∃ (v : Vi) (p' : Int), v.sh.length ≤ 4 ∧ v.st.length = v.sh.length ∧ r = viS n v ∧ p ≤ p' ∧ p' ≤ p + 200 ∧ L' = rL p' ++ [stB v.st]) := by
  refine ISpec.ret Try.func33 rfl (vc3_sound Try.pf hS hS _ _ _ ?_)
  repeat' (first | with_reducible first | refine kI (by kernel_rfl) ?_ | (first | refine kB1 ?_ ?_ | refine kB2 ?_ ?_) <;> intro hp | (first | refine kD1 ?_ ?_ | refine kD2 ?_ ?_ | refine kS1 ?_ ?_ | refine kS2 ?_ ?_) <;> intro hp <;> try simp only [hp] | simp -implicitDefEqProofs (disch := omega) only [go_sem, Nat.reduceAdd, Nat.reduceSub, reduceCtorEq, Nat.reduceLT, Nat.reduceLeDiff, Nat.reduceEqDiff, Nat.reduceMul, Int.reduceToNat, ↓reduceIte, List.take_of_length_le, if_pos, if_neg, List.getElem?_set_self, List.set_set, cnE, cnV, Try.ntmps33, Try.results33,  hC.cn, h2, opQ_none])
  refine InlK_intro rfl rfl can_goodShape ((isp_goodShape hS h0 h1 hc (hC.app [_]) hb p (by omega)).mono ?_)
  rintro r L1 ⟨sh, p1, rfl, k1, k2, k3, k4, k5, k6, rfl⟩
  have hsh := shapeOK_of k1 k2 k4
  repeat' (first | with_reducible first | refine kI (by kernel_rfl) ?_ | (first | refine kB1 ?_ ?_ | refine kB2 ?_ ?_) <;> intro hp | (first | refine kD1 ?_ ?_ | refine kD2 ?_ ?_ | refine kS1 ?_ ?_ | refine kS2 ?_ ?_) <;> intro hp <;> try simp only [hp] | simp -implicitDefEqProofs (disch := omega) only [go_sem, Nat.reduceAdd, Nat.reduceSub, reduceCtorEq, Nat.reduceLT, Nat.reduceLeDiff, Nat.reduceEqDiff, Nat.reduceMul, Int.reduceToNat, ↓reduceIte, List.take_of_length_le, if_pos, if_neg, List.getElem?_set_self, List.set_set, cnE, cnV, Try.ntmps33, Try.results33,  hC.cn, h3, opQ_none])
  refine InlK_intro rfl rfl can_NewView ((hV.new sh hsh 1 _).mono ?_)
  rintro r L1 ⟨st, k7, rfl, rfl⟩
  repeat' (first | with_reducible first | refine kI (by kernel_rfl) ?_ | (first | refine kB1 ?_ ?_ | refine kB2 ?_ ?_) <;> intro hp | (first | refine kD1 ?_ ?_ | refine kD2 ?_ ?_ | refine kS1 ?_ ?_ | refine kS2 ?_ ?_) <;> intro hp <;> try simp only [hp] | simp -implicitDefEqProofs (disch := omega) only [go_sem, Nat.reduceAdd, Nat.reduceSub, reduceCtorEq, Nat.reduceLT, Nat.reduceLeDiff, Nat.reduceEqDiff, Nat.reduceMul, Int.reduceToNat, ↓reduceIte, List.take_of_length_le, if_pos, if_neg, List.getElem?_set_self, List.set_set, cnE, cnV, Try.ntmps33, Try.results33,  hC.cn, h0, opQ_none])
  refine InlK_intro rfl rfl can_pick ((isp_pick hS (hC.app _) hb _ (by omega) 10 (by omega)).mono ?_)
  rintro r L1 ⟨y, rfl, -, -, rfl⟩
  repeat' (first | with_reducible first | refine kI (by kernel_rfl) ?_ | (first | refine kB1 ?_ ?_ | refine kB2 ?_ ?_) <;> intro hp | (first | refine kD1 ?_ ?_ | refine kD2 ?_ ?_ | refine kS1 ?_ ?_ | refine kS2 ?_ ?_) <;> intro hp <;> try simp only [hp] | simp -implicitDefEqProofs (disch := omega) only [go_sem, Nat.reduceAdd, Nat.reduceSub, reduceCtorEq, Nat.reduceLT, Nat.reduceLeDiff, Nat.reduceEqDiff, Nat.reduceMul, Int.reduceToNat, ↓reduceIte, List.take_of_length_le, if_pos, if_neg, List.getElem?_set_self, List.set_set, cnE, cnV, Try.ntmps33, Try.results33,  hC.cn, h1, opQ_none])
  refine InlK_intro rfl rfl can_one ((isp_one hS h0 (hC.app _) hb _ (by omega) 2 [0, 0, 1, 3, y] (by simp)).mono ?_)
  rintro r L1 ⟨b0, rfl, -, rfl⟩
  repeat' (first | with_reducible first | refine kI (by kernel_rfl) ?_ | (first | refine kB1 ?_ ?_ | refine kB2 ?_ ?_) <;> intro hp | (first | refine kD1 ?_ ?_ | refine kD2 ?_ ?_ | refine kS1 ?_ ?_ | refine kS2 ?_ ?_) <;> intro hp <;> try simp only [hp] | simp -implicitDefEqProofs (disch := omega) only [go_sem, Nat.reduceAdd, Nat.reduceSub, reduceCtorEq, Nat.reduceLT, Nat.reduceLeDiff, Nat.reduceEqDiff, Nat.reduceMul, Int.reduceToNat, ↓reduceIte, List.take_of_length_le, if_pos, if_neg, List.getElem?_set_self, List.set_set, cnE, cnV, Try.ntmps33, Try.results33,  hC.cn, h0, opQ_none])
  refine InlK_intro rfl rfl can_pick ((isp_pick hS (hC.app _) hb _ (by omega) 4 (by omega)).mono ?_)
  rintro r L1 ⟨kk, rfl, k8, k9, rfl⟩
  repeat' (first | with_reducible first | refine kI (by kernel_rfl) ?_ | (first | refine kB1 ?_ ?_ | refine kB2 ?_ ?_) <;> intro hp | (first | refine kD1 ?_ ?_ | refine kD2 ?_ ?_ | refine kS1 ?_ ?_ | refine kS2 ?_ ?_) <;> intro hp <;> try simp only [hp] | simp -implicitDefEqProofs (disch := omega) only [go_sem, Nat.reduceAdd, Nat.reduceSub, reduceCtorEq, Nat.reduceLT, Nat.reduceLeDiff, Nat.reduceEqDiff, Nat.reduceMul, Int.reduceToNat, ↓reduceIte, List.take_of_length_le, if_pos, if_neg, List.getElem?_set_self, List.set_set, cnE, cnV, Try.ntmps33, Try.results33,  hC.cn])
  refine LoopQ.mix (fun t0 L0 nn ss => ∃ (k : Nat) (v : Vi) (i : Nat) (B : Blk) (Y : List Blk) (p2 : Int) (_ : Unit), (∃ x : Nat → AV, ss = ⟨mixL 0 (.k :: .k :: .k :: .k :: .v (i64 (k : Nat)) :: .s :: .s :: .s :: .k :: .k :: .k :: .k :: .k :: .k :: .k :: .k :: .k :: .k :: .k :: .s :: .s :: .s :: .s :: .s :: .s :: .s :: .s :: .s :: .s :: .s :: .s :: .s :: .s :: .s :: .s :: .s :: .s :: .s :: .s :: .s :: .s :: .s :: .s :: .s :: .s :: .s :: .s :: .s :: .s :: .s :: .s :: .s :: .s :: .s :: .s :: .s :: .s :: .s :: .s :: .s :: .s :: .s :: .s :: .s :: .s :: .s :: .s :: .s :: .s :: .s :: .s :: .s :: .s :: .s :: .s :: .s :: .s :: .s :: .s :: .s :: .s :: .s :: .s :: .s :: .s :: .s :: .s :: .s :: .s :: .s :: .s :: .s :: .s :: .s :: .s :: .s :: .s :: .s :: .s :: .s :: .s :: .k :: .k :: .k :: .k :: .k :: []) t0 x, rL p2 ++ (⟨3, [.agg [i64 0, .nilS, .nilS]]⟩ :: B :: ⟨3, [viS (n + i) v]⟩ :: Y)⟩) ∧ (k ≤ 3) ∧ (v.sh.length ≤ 4) ∧ (v.st.length = v.sh.length) ∧ (((⟨3, [.agg [i64 0, .nilS, .nilS]]⟩ : Blk) :: B :: ⟨3, [viS (n + i) v]⟩ :: Y)[i]? = some (stB v.st)) ∧ (p ≤ p2) ∧ (p2 + 40 * k ≤ p + 190) ∧ nn = 2 * k) ?_ ?_
  · exact ⟨_, kk.toNat, ⟨b0, sh, st⟩, 1, stB st, [], _, (), mixJ (by rw [show ((kk.toNat : Nat) : Int) = kk from by omega]; rfl) rfl, by omega, k1, k7, rfl, by omega, by omega, rfl⟩
  · rintro I0 hI0 mm ss ⟨k, v, i, B, Y, p2, _, ⟨y0, rfl⟩, g1, g2, g3, g4, g5, g6, rfl⟩
    have q1 := gValidV_eq (v := v) ⟨by omega, by omega⟩
    by_cases hx : k = 0 ∨ v.sh.length = 0
    · have htk := fun p A C => hC.tk p (A :: B :: C :: Y) (Y.length + 1 + 1 + 1) rfl
      have hil := (List.getElem?_eq_some_iff.1 g4).1
      have hi2 : i ≠ 2 := fun h => by subst h; simp at g4
      have hi0 : i ≠ 0 := fun h => by subst h; simp at g4
      cases e : viewOK v with
      | false =>
        rw [e] at q1
        have fin : ∀ p3, p ≤ p3 → p3 ≤ p + 200 → RetQ (rL p) (fun r L' => ∃ (v : Vi) (p' : Int), v.sh.length ≤ 4 ∧ v.st.length = v.sh.length ∧ r = viS n v ∧ p ≤ p' ∧ p' ≤ p + 200 ∧ L' = rL p' ++ [stB v.st]) (viS (n + i) ⟨0, v.sh, v.st⟩) (rL p3 ++ (⟨3, [viS (n + i) ⟨0, v.sh, v.st⟩]⟩ :: B :: ⟨3, [viS (n + i) ⟨0, v.sh, v.st⟩]⟩ :: Y)) := fun p3 w1 w2 => by
          refine hC.ret [n + i] (by simp) (by simp at hil ⊢; omega) ⟨⟨0, v.sh, v.st⟩, p3, g2, g3, selV_viS (v := ⟨0, v.sh, v.st⟩) rfl, w1, w2, ?_⟩
          have : (rL p3 ++ (⟨3, [viS (n + i) ⟨0, v.sh, v.st⟩]⟩ :: B :: ⟨3, [viS (n + i) ⟨0, v.sh, v.st⟩]⟩ :: Y))[n + i]? = some (stB v.st) := by
            rw [hC.at', ← g4]
            match i, hi0, hi2 with
            | 1, _, _ => rfl
            | i + 3, _, _ => rfl
          simp only [List.map_cons, List.map_nil, List.getD_eq_getElem?_getD, this, Option.getD_some, selB_ints]
        rcases hx with rfl | hv0
        · repeat' (first | with_reducible first | refine kI (by kernel_rfl) ?_ | refine kN (by kernel_rfl) ?_ | (first | refine kB1 ?_ ?_ | refine kB2 ?_ ?_) <;> intro hp | (first | refine kD1 ?_ ?_ | refine kD2 ?_ ?_ | refine kS1 ?_ ?_ | refine kS2 ?_ ?_) <;> intro hp <;> try simp only [hp] | simp -implicitDefEqProofs (disch := omega) only [go_sem, Nat.reduceAdd, Nat.reduceSub, reduceCtorEq, Nat.reduceLT, Nat.reduceLeDiff, Nat.reduceEqDiff, Nat.reduceMul, Int.reduceToNat, ↓reduceIte, List.take_of_length_le, if_pos, if_neg, List.getElem?_set_self, List.set_set, cnE, cnV, Try.ntmps33, Try.results33,  hC.cn, htk, g4, hv, q1])
          exact fin _ (by omega) (by omega)
        · have hv0' : ¬ (0 : Int) < (v.sh.length : Int) := by omega
          by_cases hk0 : k = 0
          · subst hk0
            repeat' (first | with_reducible first | refine kI (by kernel_rfl) ?_ | refine kN (by kernel_rfl) ?_ | (first | refine kB1 ?_ ?_ | refine kB2 ?_ ?_) <;> intro hp | (first | refine kD1 ?_ ?_ | refine kD2 ?_ ?_ | refine kS1 ?_ ?_ | refine kS2 ?_ ?_) <;> intro hp <;> try simp only [hp] | simp -implicitDefEqProofs (disch := omega) only [go_sem, Nat.reduceAdd, Nat.reduceSub, reduceCtorEq, Nat.reduceLT, Nat.reduceLeDiff, Nat.reduceEqDiff, Nat.reduceMul, Int.reduceToNat, ↓reduceIte, List.take_of_length_le, if_pos, if_neg, List.getElem?_set_self, List.set_set, cnE, cnV, Try.ntmps33, Try.results33,  hC.cn, htk, g4, hv, q1])
            exact fin _ (by omega) (by omega)
          · repeat' (first | with_reducible first | refine kI (by kernel_rfl) ?_ | refine kN (by kernel_rfl) ?_ | (first | refine kB1 ?_ ?_ | refine kB2 ?_ ?_) <;> intro hp | (first | refine kD1 ?_ ?_ | refine kD2 ?_ ?_ | refine kS1 ?_ ?_ | refine kS2 ?_ ?_) <;> intro hp <;> try simp only [hp] | simp -implicitDefEqProofs (disch := omega) only [go_sem, Nat.reduceAdd, Nat.reduceSub, reduceCtorEq, Nat.reduceLT, Nat.reduceLeDiff, Nat.reduceEqDiff, Nat.reduceMul, Int.reduceToNat, ↓reduceIte, List.take_of_length_le, if_pos, if_neg, List.getElem?_set_self, List.set_set, cnE, cnV, Try.ntmps33, Try.results33,  hC.cn, htk, g4, hv, q1, hv0'])
            exact fin _ (by omega) (by omega)
      | true =>
        rw [e] at q1
        have fin : ∀ p3, p ≤ p3 → p3 ≤ p + 200 → RetQ (rL p) (fun r L' => ∃ (v : Vi) (p' : Int), v.sh.length ≤ 4 ∧ v.st.length = v.sh.length ∧ r = viS n v ∧ p ≤ p' ∧ p' ≤ p + 200 ∧ L' = rL p' ++ [stB v.st]) (viS (n + i) v) (rL p3 ++ (⟨3, [viS (n + i) v]⟩ :: B :: ⟨3, [viS (n + i) v]⟩ :: Y)) := fun p3 w1 w2 => by
          refine hC.ret [n + i] (by simp) (by simp at hil ⊢; omega) ⟨v, p3, g2, g3, selV_viS rfl, w1, w2, ?_⟩
          have : (rL p3 ++ (⟨3, [viS (n + i) v]⟩ :: B :: ⟨3, [viS (n + i) v]⟩ :: Y))[n + i]? = some (stB v.st) := by
            rw [hC.at', ← g4]
            match i, hi0, hi2 with
            | 1, _, _ => rfl
            | i + 3, _, _ => rfl
          simp only [List.map_cons, List.map_nil, List.getD_eq_getElem?_getD, this, Option.getD_some, selB_ints]
        rcases hx with rfl | hv0
        · repeat' (first | with_reducible first | refine kI (by kernel_rfl) ?_ | refine kN (by kernel_rfl) ?_ | (first | refine kB1 ?_ ?_ | refine kB2 ?_ ?_) <;> intro hp | (first | refine kD1 ?_ ?_ | refine kD2 ?_ ?_ | refine kS1 ?_ ?_ | refine kS2 ?_ ?_) <;> intro hp <;> try simp only [hp] | simp -implicitDefEqProofs (disch := omega) only [go_sem, Nat.reduceAdd, Nat.reduceSub, reduceCtorEq, Nat.reduceLT, Nat.reduceLeDiff, Nat.reduceEqDiff, Nat.reduceMul, Int.reduceToNat, ↓reduceIte, List.take_of_length_le, if_pos, if_neg, List.getElem?_set_self, List.set_set, cnE, cnV, Try.ntmps33, Try.results33,  hC.cn, htk, g4, hv, q1])
          exact fin _ (by omega) (by omega)
        · have hv0' : ¬ (0 : Int) < (v.sh.length : Int) := by omega
          by_cases hk0 : k = 0
          · subst hk0
            repeat' (first | with_reducible first | refine kI (by kernel_rfl) ?_ | refine kN (by kernel_rfl) ?_ | (first | refine kB1 ?_ ?_ | refine kB2 ?_ ?_) <;> intro hp | (first | refine kD1 ?_ ?_ | refine kD2 ?_ ?_ | refine kS1 ?_ ?_ | refine kS2 ?_ ?_) <;> intro hp <;> try simp only [hp] | simp -implicitDefEqProofs (disch := omega) only [go_sem, Nat.reduceAdd, Nat.reduceSub, reduceCtorEq, Nat.reduceLT, Nat.reduceLeDiff, Nat.reduceEqDiff, Nat.reduceMul, Int.reduceToNat, ↓reduceIte, List.take_of_length_le, if_pos, if_neg, List.getElem?_set_self, List.set_set, cnE, cnV, Try.ntmps33, Try.results33,  hC.cn, htk, g4, hv, q1])
            exact fin _ (by omega) (by omega)
          · repeat' (first | with_reducible first | refine kI (by kernel_rfl) ?_ | refine kN (by kernel_rfl) ?_ | (first | refine kB1 ?_ ?_ | refine kB2 ?_ ?_) <;> intro hp | (first | refine kD1 ?_ ?_ | refine kD2 ?_ ?_ | refine kS1 ?_ ?_ | refine kS2 ?_ ?_) <;> intro hp <;> try simp only [hp] | simp -implicitDefEqProofs (disch := omega) only [go_sem, Nat.reduceAdd, Nat.reduceSub, reduceCtorEq, Nat.reduceLT, Nat.reduceLeDiff, Nat.reduceEqDiff, Nat.reduceMul, Int.reduceToNat, ↓reduceIte, List.take_of_length_le, if_pos, if_neg, List.getElem?_set_self, List.set_set, cnE, cnV, Try.ntmps33, Try.results33,  hC.cn, htk, g4, hv, q1, hv0'])
            exact fin _ (by omega) (by omega)
    · obtain ⟨rM, m, hM, e1, e2, c1, c2, s1, s2, t1, t2⟩ := gv_hide hC g4
      obtain ⟨j, rfl⟩ : ∃ j, k = j + 1 := ⟨k - 1, by omega⟩
      have hwj : IntKind.i64.wrap (((j + 1 : Nat) : Int) - 1) = (j : Int) := by rw [wrap_in (by omega)]; omega
      have hv0' : (0 : Int) < (v.sh.length : Int) := by omega
      have hmle : m ≤ m + 1 := Nat.le_succ m
      rw [e1]
      repeat' (first | with_reducible first | refine kI (by kernel_rfl) ?_ | (first | refine kB1 ?_ ?_ | refine kB2 ?_ ?_) <;> intro hp | (first | refine kD1 ?_ ?_ | refine kD2 ?_ ?_ | refine kS1 ?_ ?_ | refine kS2 ?_ ?_) <;> intro hp <;> try simp only [hp] | simp -implicitDefEqProofs (disch := omega) only [go_sem, Nat.reduceAdd, Nat.reduceSub, reduceCtorEq, Nat.reduceLT, Nat.reduceLeDiff, Nat.reduceEqDiff, Nat.reduceMul, Int.reduceToNat, ↓reduceIte, List.take_of_length_le, if_pos, if_neg, List.getElem?_set_self, List.set_set, cnE, cnV, Try.ntmps33, Try.results33,  hM.cn, c1, c2, s1, s2, t1, t2, hmle, hv0', h0, opQ_none])
      refine InlK_intro rfl rfl can_pick ((isp_pick hS hM hb _ (by omega) v.sh.length (by omega)).mono ?_)
      rintro r L1 ⟨dd, rfl, k10, k11, rfl⟩
      obtain ⟨d, rfl⟩ : ∃ d : Nat, dd = d := ⟨dd.toNat, by omega⟩
      have hd : d < v.sh.length := by omega
      clear k10 k11
      repeat' (first | with_reducible first | refine kI (by kernel_rfl) ?_ | (first | refine kB1 ?_ ?_ | refine kB2 ?_ ?_) <;> intro hp | (first | refine kD1 ?_ ?_ | refine kD2 ?_ ?_ | refine kS1 ?_ ?_ | refine kS2 ?_ ?_) <;> intro hp <;> try simp only [hp] | simp -implicitDefEqProofs (disch := omega) only [go_sem, Nat.reduceAdd, Nat.reduceSub, reduceCtorEq, Nat.reduceLT, Nat.reduceLeDiff, Nat.reduceEqDiff, Nat.reduceMul, Int.reduceToNat, ↓reduceIte, List.take_of_length_le, if_pos, if_neg, List.getElem?_set_self, List.set_set, cnE, cnV, Try.ntmps33, Try.results33,  hM.cn, c1, c2, s1, s2, t1, t2, hmle, h0, opQ_none])
      refine InlK_intro rfl rfl can_pick ((isp_pick hS (hM.app _) hb _ (by omega) 6 (by omega)).mono ?_)
      rintro r L1 ⟨ch, rfl, k10, k11, rfl⟩
      have hmi : m + 1 = n + (Y.length + 4) := by omega
      have hch : ch = 0 ∨ ch = 1 ∨ ch = 2 ∨ ch = 3 ∨ ch = 4 ∨ ch = 5 := by omega
      clear k10 k11
      rcases hch with rfl | rfl | rfl | rfl | rfl | rfl
      · repeat' (first | with_reducible first | refine kI (by kernel_rfl) ?_ | (first | refine kB1 ?_ ?_ | refine kB2 ?_ ?_) <;> intro hp | (first | refine kD1 ?_ ?_ | refine kD2 ?_ ?_ | refine kS1 ?_ ?_ | refine kS2 ?_ ?_) <;> intro hp <;> try simp only [hp] | simp -implicitDefEqProofs (disch := omega) only [go_sem, Nat.reduceAdd, Nat.reduceSub, reduceCtorEq, Nat.reduceLT, Nat.reduceLeDiff, Nat.reduceEqDiff, Nat.reduceMul, Int.reduceToNat, ↓reduceIte, List.take_of_length_le, if_pos, if_neg, List.getElem?_set_self, List.set_set, cnE, cnV, Try.ntmps33, Try.results33,  hM.cn, c1, c2, s1, s2, t1, t2, hmle])
        refine DrawQ.any2 [([0, 1, 2], 3, [0, 1]), ([], 4, [0, 1]), ([5, 6, 7], 8, [0, 1, 7])] [9] [0, 1, 7] (by kernel_rfl) ?_
        repeat' (first | with_reducible first | refine kI (by kernel_rfl) ?_ | (first | refine kB1 ?_ ?_ | refine kB2 ?_ ?_) <;> intro hp | (first | refine kD1 ?_ ?_ | refine kD2 ?_ ?_ | refine kS1 ?_ ?_ | refine kS2 ?_ ?_) <;> intro hp <;> try simp only [hp] | simp -implicitDefEqProofs (disch := omega) only [go_sem, Nat.reduceAdd, Nat.reduceSub, reduceCtorEq, Nat.reduceLT, Nat.reduceLeDiff, Nat.reduceEqDiff, Nat.reduceMul, Int.reduceToNat, ↓reduceIte, List.take_of_length_le, if_pos, if_neg, List.getElem?_set_self, List.set_set, cnE, cnV, Try.ntmps33, Try.results33,  hM.cn, c1, c2, s1, s2, t1, t2, hmle, h10, opQ_none])
        refine InlK_intro rfl rfl can_someSlice ((isp_someSlice hS h0 h1 (hM.app _) hb _ (by omega)).mono ?_)
        rintro r L1 ⟨s, p3, rfl, hs, k12, k13, rfl⟩
        repeat' (first | with_reducible first | refine kI (by kernel_rfl) ?_ | (first | refine kB1 ?_ ?_ | refine kB2 ?_ ?_) <;> intro hp | (first | refine kD1 ?_ ?_ | refine kD2 ?_ ?_ | refine kS1 ?_ ?_ | refine kS2 ?_ ?_) <;> intro hp <;> try simp only [hp] | simp -implicitDefEqProofs (disch := omega) only [go_sem, Nat.reduceAdd, Nat.reduceSub, reduceCtorEq, Nat.reduceLT, Nat.reduceLeDiff, Nat.reduceEqDiff, Nat.reduceMul, Int.reduceToNat, ↓reduceIte, List.take_of_length_le, if_pos, if_neg, List.getElem?_set_self, List.set_set, cnE, cnV, Try.ntmps33, Try.results33,  hM.cn, c1, c2, s1, s2, t1, t2, hmle, h4, opQ_none])
        refine InlK_intro rfl rfl can_SliceDim ((frz_md (hV.sli v d s ⟨g2, by omega⟩) _ _ (by simp only [go_sem, ints, s2])).mono ?_)
        rintro r L1 ho
        rw [hM.len'] at ho
        rcases ho with ⟨ho, rfl, rfl⟩ | ⟨w, ho, rfl, rfl⟩
        · repeat' (first | with_reducible first | refine kI (by kernel_rfl) ?_ | (first | refine kB1 ?_ ?_ | refine kB2 ?_ ?_) <;> intro hp | (first | refine kD1 ?_ ?_ | refine kD2 ?_ ?_ | refine kS1 ?_ ?_ | refine kS2 ?_ ?_) <;> intro hp <;> try simp only [hp] | simp -implicitDefEqProofs (disch := omega) only [go_sem, Nat.reduceAdd, Nat.reduceSub, reduceCtorEq, Nat.reduceLT, Nat.reduceLeDiff, Nat.reduceEqDiff, Nat.reduceMul, Int.reduceToNat, ↓reduceIte, List.take_of_length_le, if_pos, if_neg, List.getElem?_set_self, List.set_set, cnE, cnV, Try.ntmps33, Try.results33,  hM.cn, c1, c2, s1, s2, t1, t2, hmle, hv, hwj])
          exact ⟨2 * j, by omega, hI0 _ _ ⟨j, v, i, B, Y ++ [_], _, (), mixJ (by rfl) (by rw [← e1, List.append_assoc]; rfl), by omega, g2, g3, gi_app _ g4, by omega, by omega, rfl⟩⟩
        · have hw := sliF_ok ho
          have hw' := viewOK_iff.1 hw
          have hw4 := (shape_facts hw'.1).1
          have hw5 := hw'.2.1
          clear hw'
          have qw := gValidV_eq (v := w) ⟨by omega, by omega⟩
          rw [hw] at qw
          repeat' (first | with_reducible first | refine kI (by kernel_rfl) ?_ | (first | refine kB1 ?_ ?_ | refine kB2 ?_ ?_) <;> intro hp | (first | refine kD1 ?_ ?_ | refine kD2 ?_ ?_ | refine kS1 ?_ ?_ | refine kS2 ?_ ?_) <;> intro hp <;> try simp only [hp] | simp -implicitDefEqProofs (disch := omega) only [go_sem, Nat.reduceAdd, Nat.reduceSub, reduceCtorEq, Nat.reduceLT, Nat.reduceLeDiff, Nat.reduceEqDiff, Nat.reduceMul, Int.reduceToNat, ↓reduceIte, List.take_of_length_le, if_pos, if_neg, List.getElem?_set_self, List.set_set, cnE, cnV, Try.ntmps33, Try.results33,  hM.cn, c1, c2, s1, s2, t1, t2, hmle, hv, qw, hwj])
          exact ⟨2 * j, by omega, hI0 _ _ ⟨j, w, Y.length + 4, B, Y ++ [_, stB w.st], _, (), mixJ (by rfl) (by rw [← hmi]), by omega, hw4, hw5, gi_new _ _ _ _ _ _, by omega, by omega, rfl⟩⟩
      · repeat' (first | with_reducible first | refine kI (by kernel_rfl) ?_ | (first | refine kB1 ?_ ?_ | refine kB2 ?_ ?_) <;> intro hp | (first | refine kD1 ?_ ?_ | refine kD2 ?_ ?_ | refine kS1 ?_ ?_ | refine kS2 ?_ ?_) <;> intro hp <;> try simp only [hp] | simp -implicitDefEqProofs (disch := omega) only [go_sem, Nat.reduceAdd, Nat.reduceSub, reduceCtorEq, Nat.reduceLT, Nat.reduceLeDiff, Nat.reduceEqDiff, Nat.reduceMul, Int.reduceToNat, ↓reduceIte, List.take_of_length_le, if_pos, if_neg, List.getElem?_set_self, List.set_set, cnE, cnV, Try.ntmps33, Try.results33,  hM.cn, c1, c2, s1, s2, t1, t2, hmle, h5, opQ_none])
        refine InlK_intro rfl rfl can_FlipDim ((frz_md (hV.flip v d ⟨g2, by omega⟩) _ _ (by simp only [go_sem, ints, s2])).mono ?_)
        rintro r L1 ho
        rw [hM.len'] at ho
        rcases ho with ⟨ho, rfl, rfl⟩ | ⟨w, ho, rfl, rfl⟩
        · repeat' (first | with_reducible first | refine kI (by kernel_rfl) ?_ | (first | refine kB1 ?_ ?_ | refine kB2 ?_ ?_) <;> intro hp | (first | refine kD1 ?_ ?_ | refine kD2 ?_ ?_ | refine kS1 ?_ ?_ | refine kS2 ?_ ?_) <;> intro hp <;> try simp only [hp] | simp -implicitDefEqProofs (disch := omega) only [go_sem, Nat.reduceAdd, Nat.reduceSub, reduceCtorEq, Nat.reduceLT, Nat.reduceLeDiff, Nat.reduceEqDiff, Nat.reduceMul, Int.reduceToNat, ↓reduceIte, List.take_of_length_le, if_pos, if_neg, List.getElem?_set_self, List.set_set, cnE, cnV, Try.ntmps33, Try.results33,  hM.cn, c1, c2, s1, s2, t1, t2, hmle, hv, hwj])
          exact ⟨2 * j, by omega, hI0 _ _ ⟨j, v, i, B, Y ++ [_], _, (), mixJ (by rfl) (by rw [← e1, List.append_assoc]; rfl), by omega, g2, g3, gi_app _ g4, by omega, by omega, rfl⟩⟩
        · have hw := sliF_ok ho
          have hw' := viewOK_iff.1 hw
          have hw4 := (shape_facts hw'.1).1
          have hw5 := hw'.2.1
          clear hw'
          have qw := gValidV_eq (v := w) ⟨by omega, by omega⟩
          rw [hw] at qw
          repeat' (first | with_reducible first | refine kI (by kernel_rfl) ?_ | (first | refine kB1 ?_ ?_ | refine kB2 ?_ ?_) <;> intro hp | (first | refine kD1 ?_ ?_ | refine kD2 ?_ ?_ | refine kS1 ?_ ?_ | refine kS2 ?_ ?_) <;> intro hp <;> try simp only [hp] | simp -implicitDefEqProofs (disch := omega) only [go_sem, Nat.reduceAdd, Nat.reduceSub, reduceCtorEq, Nat.reduceLT, Nat.reduceLeDiff, Nat.reduceEqDiff, Nat.reduceMul, Int.reduceToNat, ↓reduceIte, List.take_of_length_le, if_pos, if_neg, List.getElem?_set_self, List.set_set, cnE, cnV, Try.ntmps33, Try.results33,  hM.cn, c1, c2, s1, s2, t1, t2, hmle, hv, qw, hwj])
          exact ⟨2 * j, by omega, hI0 _ _ ⟨j, w, Y.length + 4, B, Y ++ [_, stB w.st], _, (), mixJ (by rfl) (by rw [← hmi]), by omega, hw4, hw5, gi_new _ _ _ _ _ _, by omega, by omega, rfl⟩⟩
      · repeat' (first | with_reducible first | refine kI (by kernel_rfl) ?_ | (first | refine kB1 ?_ ?_ | refine kB2 ?_ ?_) <;> intro hp | (first | refine kD1 ?_ ?_ | refine kD2 ?_ ?_ | refine kS1 ?_ ?_ | refine kS2 ?_ ?_) <;> intro hp <;> try simp only [hp] | simp -implicitDefEqProofs (disch := omega) only [go_sem, Nat.reduceAdd, Nat.reduceSub, reduceCtorEq, Nat.reduceLT, Nat.reduceLeDiff, Nat.reduceEqDiff, Nat.reduceMul, Int.reduceToNat, ↓reduceIte, List.take_of_length_le, if_pos, if_neg, List.getElem?_set_self, List.set_set, cnE, cnV, Try.ntmps33, Try.results33,  hM.cn, c1, c2, s1, s2, t1, t2, hmle])
        refine DrawQ.any2 [([0, 1, 2, 3, 4, 5], 6, []), ([7, 8, 9], 10, [9])] [11] [9] (by kernel_rfl) ?_
        have qu := gUpV_eq (n := v.sh.length) (by omega)
        have qr := gRev_eq (l := upV v.sh.length) (by rw [upV_len]; omega)
        repeat' (first | with_reducible first | refine kI (by kernel_rfl) ?_ | (first | refine kB1 ?_ ?_ | refine kB2 ?_ ?_) <;> intro hp | (first | refine kD1 ?_ ?_ | refine kD2 ?_ ?_ | refine kS1 ?_ ?_ | refine kS2 ?_ ?_) <;> intro hp <;> try simp only [hp] | simp -implicitDefEqProofs (disch := omega) only [go_sem, Nat.reduceAdd, Nat.reduceSub, reduceCtorEq, Nat.reduceLT, Nat.reduceLeDiff, Nat.reduceEqDiff, Nat.reduceMul, Int.reduceToNat, ↓reduceIte, List.take_of_length_le, if_pos, if_neg, List.getElem?_set_self, List.set_set, cnE, cnV, Try.ntmps33, Try.results33,  hM.cn, c1, c2, s1, s2, t1, t2, hmle, hu, qu, hr, qr, h6, opQ_none])
        refine InlK_intro rfl rfl can_PermuteDims ((frz_md (hV.per v (upV v.sh.length).reverse ⟨g2, by omega⟩ (by omega) (by rw [List.length_reverse, upV_len]; omega)) _ _ (by simp only [go_sem, ints, s2])).mono ?_)
        rintro r L1 ho
        rw [hM.len'] at ho
        rcases ho with ⟨ho, rfl, rfl⟩ | ⟨w, ho, rfl, rfl⟩
        · repeat' (first | with_reducible first | refine kI (by kernel_rfl) ?_ | (first | refine kB1 ?_ ?_ | refine kB2 ?_ ?_) <;> intro hp | (first | refine kD1 ?_ ?_ | refine kD2 ?_ ?_ | refine kS1 ?_ ?_ | refine kS2 ?_ ?_) <;> intro hp <;> try simp only [hp] | simp -implicitDefEqProofs (disch := omega) only [go_sem, Nat.reduceAdd, Nat.reduceSub, reduceCtorEq, Nat.reduceLT, Nat.reduceLeDiff, Nat.reduceEqDiff, Nat.reduceMul, Int.reduceToNat, ↓reduceIte, List.take_of_length_le, if_pos, if_neg, List.getElem?_set_self, List.set_set, cnE, cnV, Try.ntmps33, Try.results33,  hM.cn, c1, c2, s1, s2, t1, t2, hmle, hv, hwj])
          exact ⟨2 * j, by omega, hI0 _ _ ⟨j, v, i, B, Y ++ [_], _, (), mixJ (by rfl) (by rw [← e1, List.append_assoc]; rfl), by omega, g2, g3, gi_app _ g4, by omega, by omega, rfl⟩⟩
        · have hw := perD_ok ho
          have hw' := viewOK_iff.1 hw
          have hw4 := (shape_facts hw'.1).1
          have hw5 := hw'.2.1
          clear hw'
          have qw := gValidV_eq (v := w) ⟨by omega, by omega⟩
          rw [hw] at qw
          repeat' (first | with_reducible first | refine kI (by kernel_rfl) ?_ | (first | refine kB1 ?_ ?_ | refine kB2 ?_ ?_) <;> intro hp | (first | refine kD1 ?_ ?_ | refine kD2 ?_ ?_ | refine kS1 ?_ ?_ | refine kS2 ?_ ?_) <;> intro hp <;> try simp only [hp] | simp -implicitDefEqProofs (disch := omega) only [go_sem, Nat.reduceAdd, Nat.reduceSub, reduceCtorEq, Nat.reduceLT, Nat.reduceLeDiff, Nat.reduceEqDiff, Nat.reduceMul, Int.reduceToNat, ↓reduceIte, List.take_of_length_le, if_pos, if_neg, List.getElem?_set_self, List.set_set, cnE, cnV, Try.ntmps33, Try.results33,  hM.cn, c1, c2, s1, s2, t1, t2, hmle, hv, qw, hwj])
          exact ⟨2 * j, by omega, hI0 _ _ ⟨j, w, Y.length + 4, B, Y ++ [_, stB w.st], _, (), mixJ (by rfl) (by rw [← hmi]), by omega, hw4, hw5, gi_new _ _ _ _ _ _, by omega, by omega, rfl⟩⟩
      · repeat' (first | with_reducible first | refine kI (by kernel_rfl) ?_ | (first | refine kB1 ?_ ?_ | refine kB2 ?_ ?_) <;> intro hp | (first | refine kD1 ?_ ?_ | refine kD2 ?_ ?_ | refine kS1 ?_ ?_ | refine kS2 ?_ ?_) <;> intro hp <;> try simp only [hp] | simp -implicitDefEqProofs (disch := omega) only [go_sem, Nat.reduceAdd, Nat.reduceSub, reduceCtorEq, Nat.reduceLT, Nat.reduceLeDiff, Nat.reduceEqDiff, Nat.reduceMul, Int.reduceToNat, ↓reduceIte, List.take_of_length_le, if_pos, if_neg, List.getElem?_set_self, List.set_set, cnE, cnV, Try.ntmps33, Try.results33,  hM.cn, c1, c2, s1, s2, t1, t2, hmle])
        refine DrawQ.any2 [([0, 1, 2], 3, [0, 1]), ([4], 5, [0, 1]), ([6, 7, 8], 9, [0, 1, 8])] [10] [0, 1, 8] (by kernel_rfl) ?_
        repeat' (first | with_reducible first | refine kI (by kernel_rfl) ?_ | (first | refine kB1 ?_ ?_ | refine kB2 ?_ ?_) <;> intro hp | (first | refine kD1 ?_ ?_ | refine kD2 ?_ ?_ | refine kS1 ?_ ?_ | refine kS2 ?_ ?_) <;> intro hp <;> try simp only [hp] | simp -implicitDefEqProofs (disch := omega) only [go_sem, Nat.reduceAdd, Nat.reduceSub, reduceCtorEq, Nat.reduceLT, Nat.reduceLeDiff, Nat.reduceEqDiff, Nat.reduceMul, Int.reduceToNat, ↓reduceIte, List.take_of_length_le, if_pos, if_neg, List.getElem?_set_self, List.set_set, cnE, cnV, Try.ntmps33, Try.results33,  hM.cn, c1, c2, s1, s2, t1, t2, hmle, h0, opQ_none])
        refine InlK_intro rfl rfl can_pick ((isp_pick hS (hM.app _) hb _ (by omega) 3 (by omega)).mono ?_)
        rintro r L1 ⟨sz, rfl, k10, k11, rfl⟩
        have hsz : IntKind.i64.wrap (1 + sz) = 1 + sz := wrap_in (by omega)
        repeat' (first | with_reducible first | refine kI (by kernel_rfl) ?_ | (first | refine kB1 ?_ ?_ | refine kB2 ?_ ?_) <;> intro hp | (first | refine kD1 ?_ ?_ | refine kD2 ?_ ?_ | refine kS1 ?_ ?_ | refine kS2 ?_ ?_) <;> intro hp <;> try simp only [hp] | simp -implicitDefEqProofs (disch := omega) only [go_sem, Nat.reduceAdd, Nat.reduceSub, reduceCtorEq, Nat.reduceLT, Nat.reduceLeDiff, Nat.reduceEqDiff, Nat.reduceMul, Int.reduceToNat, ↓reduceIte, List.take_of_length_le, if_pos, if_neg, List.getElem?_set_self, List.set_set, cnE, cnV, Try.ntmps33, Try.results33,  hM.cn, c1, c2, s1, s2, t1, t2, hmle, hsz, h7, opQ_none])
        refine InlK_intro rfl rfl can_WindowsOf ((frz_md (hV.win v d (1 + sz) ⟨g2, by omega⟩ hd) _ _ (by simp only [go_sem, ints, s2])).mono ?_)
        rintro r L1 ho
        rw [hM.len'] at ho
        rcases ho with ⟨ho, rfl, rfl⟩ | ⟨w, ho, rfl, rfl⟩
        · repeat' (first | with_reducible first | refine kI (by kernel_rfl) ?_ | (first | refine kB1 ?_ ?_ | refine kB2 ?_ ?_) <;> intro hp | (first | refine kD1 ?_ ?_ | refine kD2 ?_ ?_ | refine kS1 ?_ ?_ | refine kS2 ?_ ?_) <;> intro hp <;> try simp only [hp] | simp -implicitDefEqProofs (disch := omega) only [go_sem, Nat.reduceAdd, Nat.reduceSub, reduceCtorEq, Nat.reduceLT, Nat.reduceLeDiff, Nat.reduceEqDiff, Nat.reduceMul, Int.reduceToNat, ↓reduceIte, List.take_of_length_le, if_pos, if_neg, List.getElem?_set_self, List.set_set, cnE, cnV, Try.ntmps33, Try.results33,  hM.cn, c1, c2, s1, s2, t1, t2, hmle, hv, hwj])
          exact ⟨2 * j, by omega, hI0 _ _ ⟨j, v, i, B, Y ++ [_], _, (), mixJ (by rfl) (by rw [← e1, List.append_assoc]; rfl), by omega, g2, g3, gi_app _ g4, by omega, by omega, rfl⟩⟩
        · have hw := winF_ok ho
          have hw' := viewOK_iff.1 hw
          have hw4 := (shape_facts hw'.1).1
          have hw5 := hw'.2.1
          clear hw'
          have qw := gValidV_eq (v := w) ⟨by omega, by omega⟩
          rw [hw] at qw
          repeat' (first | with_reducible first | refine kI (by kernel_rfl) ?_ | (first | refine kB1 ?_ ?_ | refine kB2 ?_ ?_) <;> intro hp | (first | refine kD1 ?_ ?_ | refine kD2 ?_ ?_ | refine kS1 ?_ ?_ | refine kS2 ?_ ?_) <;> intro hp <;> try simp only [hp] | simp -implicitDefEqProofs (disch := omega) only [go_sem, Nat.reduceAdd, Nat.reduceSub, reduceCtorEq, Nat.reduceLT, Nat.reduceLeDiff, Nat.reduceEqDiff, Nat.reduceMul, Int.reduceToNat, ↓reduceIte, List.take_of_length_le, if_pos, if_neg, List.getElem?_set_self, List.set_set, cnE, cnV, Try.ntmps33, Try.results33,  hM.cn, c1, c2, s1, s2, t1, t2, hmle, hv, qw, hwj])
          exact ⟨2 * j, by omega, hI0 _ _ ⟨j, w, Y.length + 4, B, Y ++ [_, stB w.st], _, (), mixJ (by rfl) (by rw [← hmi]), by omega, hw4, hw5, gi_new _ _ _ _ _ _, by omega, by omega, rfl⟩⟩
      · repeat' (first | with_reducible first | refine kI (by kernel_rfl) ?_ | (first | refine kB1 ?_ ?_ | refine kB2 ?_ ?_) <;> intro hp | (first | refine kD1 ?_ ?_ | refine kD2 ?_ ?_ | refine kS1 ?_ ?_ | refine kS2 ?_ ?_) <;> intro hp <;> try simp only [hp] | simp -implicitDefEqProofs (disch := omega) only [go_sem, Nat.reduceAdd, Nat.reduceSub, reduceCtorEq, Nat.reduceLT, Nat.reduceLeDiff, Nat.reduceEqDiff, Nat.reduceMul, Int.reduceToNat, ↓reduceIte, List.take_of_length_le, if_pos, if_neg, List.getElem?_set_self, List.set_set, cnE, cnV, Try.ntmps33, Try.results33,  hM.cn, c1, c2, s1, s2, t1, t2, hmle, h8, opQ_none])
        refine InlK_intro rfl rfl can_AddDim ((frz_md (hV.add v d ⟨g2, by omega⟩ hd) _ _ (by simp only [go_sem, ints, s2])).mono ?_)
        rintro r L1 ho
        rw [hM.len'] at ho
        rcases ho with ⟨ho, rfl, rfl⟩ | ⟨w, ho, rfl, rfl⟩
        · repeat' (first | with_reducible first | refine kI (by kernel_rfl) ?_ | (first | refine kB1 ?_ ?_ | refine kB2 ?_ ?_) <;> intro hp | (first | refine kD1 ?_ ?_ | refine kD2 ?_ ?_ | refine kS1 ?_ ?_ | refine kS2 ?_ ?_) <;> intro hp <;> try simp only [hp] | simp -implicitDefEqProofs (disch := omega) only [go_sem, Nat.reduceAdd, Nat.reduceSub, reduceCtorEq, Nat.reduceLT, Nat.reduceLeDiff, Nat.reduceEqDiff, Nat.reduceMul, Int.reduceToNat, ↓reduceIte, List.take_of_length_le, if_pos, if_neg, List.getElem?_set_self, List.set_set, cnE, cnV, Try.ntmps33, Try.results33,  hM.cn, c1, c2, s1, s2, t1, t2, hmle, hv, hwj])
          exact ⟨2 * j, by omega, hI0 _ _ ⟨j, v, i, B, Y ++ [_], _, (), mixJ (by rfl) (by rw [← e1, List.append_assoc]; rfl), by omega, g2, g3, gi_app _ g4, by omega, by omega, rfl⟩⟩
        · have hw := addF_ok ho
          have hw' := viewOK_iff.1 hw
          have hw4 := (shape_facts hw'.1).1
          have hw5 := hw'.2.1
          clear hw'
          have qw := gValidV_eq (v := w) ⟨by omega, by omega⟩
          rw [hw] at qw
          repeat' (first | with_reducible first | refine kI (by kernel_rfl) ?_ | (first | refine kB1 ?_ ?_ | refine kB2 ?_ ?_) <;> intro hp | (first | refine kD1 ?_ ?_ | refine kD2 ?_ ?_ | refine kS1 ?_ ?_ | refine kS2 ?_ ?_) <;> intro hp <;> try simp only [hp] | simp -implicitDefEqProofs (disch := omega) only [go_sem, Nat.reduceAdd, Nat.reduceSub, reduceCtorEq, Nat.reduceLT, Nat.reduceLeDiff, Nat.reduceEqDiff, Nat.reduceMul, Int.reduceToNat, ↓reduceIte, List.take_of_length_le, if_pos, if_neg, List.getElem?_set_self, List.set_set, cnE, cnV, Try.ntmps33, Try.results33,  hM.cn, c1, c2, s1, s2, t1, t2, hmle, hv, qw, hwj])
          exact ⟨2 * j, by omega, hI0 _ _ ⟨j, w, Y.length + 4, B, Y ++ [_, stB w.st], _, (), mixJ (by rfl) (by rw [← hmi]), by omega, hw4, hw5, gi_new _ _ _ _ _ _, by omega, by omega, rfl⟩⟩
      · repeat' (first | with_reducible first | refine kI (by kernel_rfl) ?_ | (first | refine kB1 ?_ ?_ | refine kB2 ?_ ?_) <;> intro hp | (first | refine kD1 ?_ ?_ | refine kD2 ?_ ?_ | refine kS1 ?_ ?_ | refine kS2 ?_ ?_) <;> intro hp <;> try simp only [hp] | simp -implicitDefEqProofs (disch := omega) only [go_sem, Nat.reduceAdd, Nat.reduceSub, reduceCtorEq, Nat.reduceLT, Nat.reduceLeDiff, Nat.reduceEqDiff, Nat.reduceMul, Int.reduceToNat, ↓reduceIte, List.take_of_length_le, if_pos, if_neg, List.getElem?_set_self, List.set_set, cnE, cnV, Try.ntmps33, Try.results33,  hM.cn, c1, c2, s1, s2, t1, t2, hmle, h9, opQ_none])
        refine InlK_intro rfl rfl can_copyView ((frz_cv (hV.cpy v ⟨by omega, by omega⟩) _ _ (by simp only [go_sem, ints, s2])).mono ?_)
        rintro r L1 ho
        rw [hM.len'] at ho
        obtain ⟨rfl, rfl⟩ := ho
        repeat' (first | with_reducible first | refine kI (by kernel_rfl) ?_ | (first | refine kB1 ?_ ?_ | refine kB2 ?_ ?_) <;> intro hp | (first | refine kD1 ?_ ?_ | refine kD2 ?_ ?_ | refine kS1 ?_ ?_ | refine kS2 ?_ ?_) <;> intro hp <;> try simp only [hp] | simp -implicitDefEqProofs (disch := omega) only [go_sem, Nat.reduceAdd, Nat.reduceSub, reduceCtorEq, Nat.reduceLT, Nat.reduceLeDiff, Nat.reduceEqDiff, Nat.reduceMul, Int.reduceToNat, ↓reduceIte, List.take_of_length_le, if_pos, if_neg, List.getElem?_set_self, List.set_set, cnE, cnV, Try.ntmps33, Try.results33,  hM.cn, c1, c2, s1, s2, t1, t2, hmle])
        refine DrawQ.any [([0, 1, 2, 3, 4], 5), ([6], 7)] [] [0, 1, 2] (by kernel_rfl) ?_
        repeat' (first | with_reducible first | refine kI (by kernel_rfl) ?_ | (first | refine kB1 ?_ ?_ | refine kB2 ?_ ?_) <;> intro hp | (first | refine kD1 ?_ ?_ | refine kD2 ?_ ?_ | refine kS1 ?_ ?_ | refine kS2 ?_ ?_) <;> intro hp <;> try simp only [hp] | simp -implicitDefEqProofs (disch := omega) only [go_sem, Nat.reduceAdd, Nat.reduceSub, reduceCtorEq, Nat.reduceLT, Nat.reduceLeDiff, Nat.reduceEqDiff, Nat.reduceMul, Int.reduceToNat, ↓reduceIte, List.take_of_length_le, if_pos, if_neg, List.getElem?_set_self, List.set_set, cnE, cnV, Try.ntmps33, Try.results33,  hM.cn, c1, c2, s1, s2, t1, t2, hmle, h1, opQ_none])
        refine InlK_intro rfl rfl can_one ((isp_one hS h0 (hM.app _) hb _ (by omega) 2 [0, 2, 3, 1, -1, 5] (by decide)).mono ?_)
        rintro r L1 ⟨x, rfl, -, rfl⟩
        have hds : d < v.st.length := by omega
        have qw := gValidV_eq (v := ⟨v.b, v.sh, v.st.set d x⟩) ⟨by dsimp only; omega, by dsimp only; rw [List.length_set]; omega⟩
        have htk2 : List.take v.st.length (v.st.set d x) = v.st.set d x := List.take_of_length_le (by simp)
        have hls : (v.st.set d x).length = v.st.length := List.length_set
        cases e : viewOK ⟨v.b, v.sh, v.st.set d x⟩ with
        | false =>
          rw [e] at qw
          repeat' (first | with_reducible first | refine kI (by kernel_rfl) ?_ | (first | refine kB1 ?_ ?_ | refine kB2 ?_ ?_) <;> intro hp | (first | refine kD1 ?_ ?_ | refine kD2 ?_ ?_ | refine kS1 ?_ ?_ | refine kS2 ?_ ?_) <;> intro hp <;> try simp only [hp] | simp -implicitDefEqProofs (disch := omega) only [go_sem, Nat.reduceAdd, Nat.reduceSub, reduceCtorEq, Nat.reduceLT, Nat.reduceLeDiff, Nat.reduceEqDiff, Nat.reduceMul, Int.reduceToNat, ↓reduceIte, List.take_of_length_le, if_pos, if_neg, List.getElem?_set_self, List.set_set, cnE, cnV, Try.ntmps33, Try.results33,  hM.cn, c1, c2, s1, s2, t1, t2, hmle, map_setI, htk2, hv, qw, hwj])
          exact ⟨2 * j, by omega, hI0 _ _ ⟨j, v, i, B, Y ++ [_, _], _, (), mixJ (by rfl) (by rw [← e1, List.append_assoc]; rfl), by omega, g2, g3, gi_app _ g4, by omega, by omega, rfl⟩⟩
        | true =>
          rw [e] at qw
          repeat' (first | with_reducible first | refine kI (by kernel_rfl) ?_ | (first | refine kB1 ?_ ?_ | refine kB2 ?_ ?_) <;> intro hp | (first | refine kD1 ?_ ?_ | refine kD2 ?_ ?_ | refine kS1 ?_ ?_ | refine kS2 ?_ ?_) <;> intro hp <;> try simp only [hp] | simp -implicitDefEqProofs (disch := omega) only [go_sem, Nat.reduceAdd, Nat.reduceSub, reduceCtorEq, Nat.reduceLT, Nat.reduceLeDiff, Nat.reduceEqDiff, Nat.reduceMul, Int.reduceToNat, ↓reduceIte, List.take_of_length_le, if_pos, if_neg, List.getElem?_set_self, List.set_set, cnE, cnV, Try.ntmps33, Try.results33,  hM.cn, c1, c2, s1, s2, t1, t2, hmle, map_setI, htk2, hv, qw, hwj])
          exact ⟨2 * j, by omega, hI0 _ _ ⟨j, ⟨v.b, v.sh, v.st.set d x⟩, Y.length + 4, B, Y ++ [_, stB (v.st.set d x)], _, (), mixJ (by rfl) (by rw [← hmi]; simp only [viS, hls]; rfl), by omega, g2, by dsimp only; omega, gi_new _ _ _ _ _ _, by omega, by omega, rfl⟩⟩
end Go.Proofs.Ytjmkdnnfhphckaa
namespace Go.Proofs.Ytjmkdnnfhphckaa
open Go Go.Ev Go.RowKit Go.Ev.Enc Go.Pl

/-- a view that is data -/
abbrev viD (v : Vi) : AV := .agg [i64 v.b, ints 1 v.sh, ints 1 v.st]
theorem gR_ge {n k : Nat} (h : n ≤ k) : gR n [] k = none := by
  unfold gR
  rw [if_neg (by omega)]; rfl
theorem fr_vi {L : List Blk} {n k : Nat} {v : Vi} (hk : n ≤ k) {m : Nat} (hm : v.st.length = m) (h : L[k]? = some (stB v.st)) : selV (gR n []) L (.agg [i64 v.b, ints 1 v.sh, .sl k m 0 m m]) = viD v := by
  subst hm
  rw [selV_agg]
  simp only [List.map_cons, List.map_nil, selC_ints (gR_ge hk) h, selC_d, selC_int]
theorem evApp_rcI {bs : List UInt8} {b n : Nat} {rL : Int → List Blk} (hC : RC bs b n rL) (p : Int) (A : Blk) (X : List Blk) {by' k : Nat} {q : List Int} {x : Int} (hk : q.length = k) (h1 : (k + 1) * by' ≤ 140737488355328) (h2 : k + 1 ≤ 9223372036854775807) :
    evApp (rL p ++ (A :: ⟨1, q.map fun n => .int .i64 n⟩ :: X)) (.sl (n + 1) k 0 k k) [.int .i64 x] 1 by' = some (.sl (n + 1) (k + 1) 0 (k + 1) (k + 1), rL p ++ (A :: ⟨1, (q ++ [x]).map fun n => .int .i64 n⟩ :: X)) := by
  rw [evApp_int (q := q) (by rw [hC.at']; rfl) hk h1 h2, hC.sat']; rfl
set_option maxHeartbeats 4000000 in
set_option maxRecDepth 100000 in
theorem isp_someView {Sg : FuncId → Option (List AV → Option AV)} (hS : Sound Try.prog Sg) (h0 : Sg 16 = none) (h1 : Sg 17 = none) (h2 : Sg 33 = none) {bs : List UInt8} {b n : Nat} {rL : Int → List Blk} (hC : RC bs b n rL) (hb : bs.length ≤ 2000) (p : Int) (hp : 0 ≤ p ∧ p ≤ 800000000) (hgv : ∀ {b n : Nat} {rL : Int → List Blk} (hC : RC bs b n rL) (p : Int) (hp : 0 ≤ p ∧ p ≤ 800000000), ISpec Try.prog 33 [.ptr b 1 0 0] (rL p) fun r L' => ∃ (v : Vi) (p' : Int), v.sh.length ≤ 4 ∧ v.st.length = v.sh.length ∧ r = viS n v ∧ p ≤ p' ∧ p' ≤ p + 200 ∧ L' = rL p' ++ [stB v.st]) : ISpec Try.prog 14 [.ptr b 1 0 0] (rL p) (fun r L' => ∃ (v : Vi) (p' : Int), v.sh.length ≤ 4 ∧ v.st.length ≤ 5 ∧ r = viD v ∧ p ≤ p' ∧ p' ≤ p + 210 ∧ L' = rL p') := by
  refine ISpec.ret Try.func14 rfl (vc3_sound Try.pf hS hS _ _ _ ?_)
  repeat' (first | with_reducible first | refine kI (by kernel_rfl) ?_ | (first | refine kB1 ?_ ?_ | refine kB2 ?_ ?_) <;> intro hp | (first | refine kD1 ?_ ?_ | refine kD2 ?_ ?_ | refine kS1 ?_ ?_ | refine kS2 ?_ ?_) <;> intro hp <;> try simp only [hp] | simp -implicitDefEqProofs (disch := omega) only [go_sem, Nat.reduceAdd, Nat.reduceSub, reduceCtorEq, Nat.reduceLT, Nat.reduceLeDiff, Nat.reduceEqDiff, Nat.reduceMul, Int.reduceToNat, ↓reduceIte, List.take_of_length_le, if_pos, if_neg, List.getElem?_set_self, List.set_set, cnE, cnV, Try.ntmps14, Try.results14,  hC.cn, h2, opQ_none])
  refine InlK_intro rfl rfl can_goodView ((hgv (hC.app [_]) p (by omega)).mono ?_)
  rintro r L1 ⟨v, p1, k1, k2, rfl, k3, k4, rfl⟩
  have hA := fun p X => evApp_rcI hC p ⟨3, [.agg [i64 0, .nilS, .nilS]]⟩ X (by' := 8) (k := v.st.length) (q := v.st) (x := 1) rfl (by omega) (by omega)
  repeat' (first | with_reducible first | refine kI (by kernel_rfl) ?_ | (first | refine kB1 ?_ ?_ | refine kB2 ?_ ?_) <;> intro hp | (first | refine kD1 ?_ ?_ | refine kD2 ?_ ?_ | refine kS1 ?_ ?_ | refine kS2 ?_ ?_) <;> intro hp <;> try simp only [hp] | simp -implicitDefEqProofs (disch := omega) only [go_sem, Nat.reduceAdd, Nat.reduceSub, reduceCtorEq, Nat.reduceLT, Nat.reduceLeDiff, Nat.reduceEqDiff, Nat.reduceMul, Int.reduceToNat, ↓reduceIte, List.take_of_length_le, if_pos, if_neg, List.getElem?_set_self, List.set_set, cnE, cnV, Try.ntmps14, Try.results14,  hC.cn, h0, opQ_none])
  refine InlK_intro rfl rfl can_pick ((isp_pick hS (hC.app _) hb _ (by omega) 24 (by omega)).mono ?_)
  rintro r L1 ⟨ch, rfl, -, -, rfl⟩
  have fin : ∀ (p2 b' : Int) (A B : Blk) (st' : List Int) (m : Nat), p ≤ p2 → p2 ≤ p + 210 → st'.length ≤ 5 → st'.length = m → RetQ (rL p) (fun r L' => ∃ (v : Vi) (p' : Int), v.sh.length ≤ 4 ∧ v.st.length ≤ 5 ∧ r = viD v ∧ p ≤ p' ∧ p' ≤ p + 210 ∧ L' = rL p') (.agg [i64 b', ints 1 v.sh, .sl (n + 1) m 0 m m]) (rL p2 ++ [A, stB st', B]) := fun p2 b' A B st' m w1 w2 w3 w4 =>
    hC.ret0 ⟨⟨b', v.sh, st'⟩, p2, k1, w3, fr_vi (v := ⟨b', v.sh, st'⟩) (by omega) w4 (by rw [hC.at']; rfl), w1, w2, rfl⟩
  repeat' (first | with_reducible first | refine kI (by kernel_rfl) ?_ | (first | refine kB1 ?_ ?_ | refine kB2 ?_ ?_) <;> intro hp | (first | refine kD1 ?_ ?_ | refine kD2 ?_ ?_ | refine kS1 ?_ ?_ | refine kS2 ?_ ?_) <;> intro hp <;> try simp only [hp] | simp -implicitDefEqProofs (disch := omega) only [go_sem, Nat.reduceAdd, Nat.reduceSub, reduceCtorEq, Nat.reduceLT, Nat.reduceLeDiff, Nat.reduceEqDiff, Nat.reduceMul, Int.reduceToNat, ↓reduceIte, List.take_of_length_le, if_pos, if_neg, List.getElem?_set_self, List.set_set, cnE, cnV, Try.ntmps14, Try.results14,  hC.cn, h1, opQ_none, hA])
  · refine InlK_intro rfl rfl can_one ((isp_one hS h0 (hC.app _) hb _ (by omega) 2 [-1, 60, 61] (by decide)).mono ?_)
    rintro r L1 ⟨x, rfl, -, rfl⟩
    repeat' (first | with_reducible first | refine kI (by kernel_rfl) ?_ | (first | refine kB1 ?_ ?_ | refine kB2 ?_ ?_) <;> intro hp | (first | refine kD1 ?_ ?_ | refine kD2 ?_ ?_ | refine kS1 ?_ ?_ | refine kS2 ?_ ?_) <;> intro hp <;> try simp only [hp] | simp -implicitDefEqProofs (disch := omega) only [go_sem, Nat.reduceAdd, Nat.reduceSub, reduceCtorEq, Nat.reduceLT, Nat.reduceLeDiff, Nat.reduceEqDiff, Nat.reduceMul, Int.reduceToNat, ↓reduceIte, List.take_of_length_le, if_pos, if_neg, List.getElem?_set_self, List.set_set, cnE, cnV, Try.ntmps14, Try.results14,  hC.cn])
    exact fin _ _ _ _ _ _ (by omega) (by omega) (by omega) rfl
  · exact fin _ _ _ _ (v.st ++ [1]) _ (by omega) (by omega) (by rw [List.length_append]; simp only [List.length_cons, List.length_nil]; omega) (by simp)
  · refine DrawQ.any [([0, 1, 2, 3], 4), ([5], 6)] [] [0, 1] (by kernel_rfl) ?_
    repeat' (first | with_reducible first | refine kI (by kernel_rfl) ?_ | (first | refine kB1 ?_ ?_ | refine kB2 ?_ ?_) <;> intro hp | (first | refine kD1 ?_ ?_ | refine kD2 ?_ ?_ | refine kS1 ?_ ?_ | refine kS2 ?_ ?_) <;> intro hp <;> try simp only [hp] | simp -implicitDefEqProofs (disch := omega) only [go_sem, Nat.reduceAdd, Nat.reduceSub, reduceCtorEq, Nat.reduceLT, Nat.reduceLeDiff, Nat.reduceEqDiff, Nat.reduceMul, Int.reduceToNat, ↓reduceIte, List.take_of_length_le, if_pos, if_neg, List.getElem?_set_self, List.set_set, cnE, cnV, Try.ntmps14, Try.results14,  hC.cn, h1, opQ_none])
    refine InlK_intro rfl rfl can_one ((isp_one hS h0 (hC.app _) hb _ (by omega) 2 [61, -61, 60] (by decide)).mono ?_)
    rintro r L1 ⟨x, rfl, -, rfl⟩
    have htk2 : List.take v.st.length (v.st.set 0 x) = v.st.set 0 x := List.take_of_length_le (by simp)
    repeat' (first | with_reducible first | refine kI (by kernel_rfl) ?_ | (first | refine kB1 ?_ ?_ | refine kB2 ?_ ?_) <;> intro hp | (first | refine kD1 ?_ ?_ | refine kD2 ?_ ?_ | refine kS1 ?_ ?_ | refine kS2 ?_ ?_) <;> intro hp <;> try simp only [hp] | simp -implicitDefEqProofs (disch := omega) only [go_sem, Nat.reduceAdd, Nat.reduceSub, reduceCtorEq, Nat.reduceLT, Nat.reduceLeDiff, Nat.reduceEqDiff, Nat.reduceMul, Int.reduceToNat, ↓reduceIte, List.take_of_length_le, if_pos, if_neg, List.getElem?_set_self, List.set_set, cnE, cnV, Try.ntmps14, Try.results14,  hC.cn, map_setI, htk2])
    exact fin _ _ _ _ (v.st.set 0 x) _ (by omega) (by omega) (by rw [List.length_set]; omega) List.length_set
  · exact fin _ _ _ _ _ _ (by omega) (by omega) (by omega) rfl
  · exact fin _ _ _ _ _ _ (by omega) (by omega) (by omega) rfl
end Go.Proofs.Ytjmkdnnfhphckaa
namespace Go.Proofs.Ytjmkdnnfhphckaa
open Go Go.Ev Go.RowKit Go.Ev.Enc Go.Pl

/-! ### what both have -/
def bothF (a b : List Int) : List Int := (upV 60).filter fun x => a.contains x && b.contains x
def bothT (a b : List Int) (k : Nat) : List Int := (upV k).filter fun x => a.contains x && b.contains x
theorem bothT_y {a b : List Int} {k : Nat} (h1 : (k : Int) ∈ a) (h2 : (k : Int) ∈ b) : bothT a b k ++ [(k : Int)] = bothT a b (k + 1) := by
  unfold bothT
  rw [← upV_snoc, List.filter_append]
  simp [h1, h2]
theorem bothT_n {a b : List Int} {k : Nat} (h : ¬ ((k : Int) ∈ a ∧ (k : Int) ∈ b)) : bothT a b (k + 1) = bothT a b k := by
  unfold bothT
  rw [← upV_snoc, List.filter_append]
  simp only [List.filter_cons, List.filter_nil, List.append_right_eq_self, ite_eq_right_iff, Bool.and_eq_true, List.contains_iff_mem]
  exact fun h' => absurd h' h
def gBoth (a b : List Int) : Option (List Int) := gd (a.length < 4294967296 ∧ b.length < 4294967296) (bothF a b)
theorem gBoth_eq {a b : List Int} (h : a.length < 4294967296 ∧ b.length < 4294967296) : gBoth a b = some (bothF a b) := gd_eq h
theorem mem_both {a b : List Int} {x : Int} : x ∈ bothF a b ↔ (0 ≤ x ∧ x < 60) ∧ x ∈ a ∧ x ∈ b := by
  unfold bothF
  rw [List.mem_filter, upV_mem]
  simp only [Bool.and_eq_true, List.contains_iff_mem]
  exact Iff.rfl
theorem both_asc (a b : List Int) : (bothF a b).Pairwise (· < ·) := (upV_asc 60).sublist List.filter_sublist
theorem both_len (a b : List Int) : (bothF a b).length ≤ 60 := by
  have := List.length_filter_le (fun x => a.contains x && b.contains x) (upV 60)
  rw [upV_len] at this
  exact this
def inC (l : List Int) : Prop := ∀ x ∈ l, 0 ≤ x ∧ x < 60
theorem srt_both {a : List Int} (h : inC a) : srt a = bothF a a :=
  srt_eq (both_asc a a) fun x => by
    rw [mem_both]
    exact ⟨fun h => h.2.1, fun hx => ⟨h x hx, hx, hx⟩⟩
theorem offF_in {v : Vi} (h : viewOK v = true) : inC (offF v) := (viewOK_iff.1 h).2.2.2.2
/-! ### cells -/
def gCells (v : Vi) : Option (List Int) := gd (shapeOK v.sh = true ∧ v.st.length = v.sh.length) (srt (offF v))
theorem gCells_eq {v : Vi} (h : shapeOK v.sh = true ∧ v.st.length = v.sh.length) : gCells v = some (srt (offF v)) := gd_eq h
def gUsed (v : Vi) : Option (List Int) := gd (shapeOK v.sh = true ∧ v.st.length = v.sh.length) (bothF (offF v) (offF v))
theorem gUsed_eq {v : Vi} (h : shapeOK v.sh = true ∧ v.st.length = v.sh.length) : gUsed v = some (bothF (offF v) (offF v)) := gd_eq h
theorem offF_60 {v : Vi} (h : shapeOK v.sh = true) : (offF v).length ≤ 60 := by
  have := shape_facts h
  rw [offF_len]; omega
theorem can_offsetsOf : CanCall Try.prog 36 := ⟨_, Try.func36, rfl, rfl⟩
def OffI : Prop := ∀ v : Vi, shapeOK v.sh = true → v.st.length = v.sh.length → OSpec Try.prog 36 [.agg [i64 v.b, ints 0 v.sh, ints 0 v.st]] (fun n => .sl n (offF v).length 0 (offF v).length (offF v).length) (fun _ => [⟨1, (offF v).map fun n => .int .i64 n⟩])
set_option maxHeartbeats 4000000 in
set_option maxRecDepth 100000 in
theorem o_cellsOf {Sg : FuncId → Option (List AV → Option AV)} (hS : Sound Try.prog Sg) (n1 : Sg 36 = none) (hs : Sg 44 = none) (hc : Sg 45 = none) (v : Vi) (h : shapeOK v.sh = true ∧ v.st.length = v.sh.length) (hof : OffI) : OSpec Try.prog 32 [.agg [i64 v.b, ints 0 v.sh, ints 0 v.st]] (fun n => .sl n (offF v).length 0 (srt (offF v)).length (offF v).length) (fun _ => [⟨1, (srt (offF v) ++ List.replicate ((offF v).length - (srt (offF v)).length) 0).map fun n => .int .i64 n⟩]) := by
  refine OSpec.intro Try.func32 rfl (vc3_sound Try.pf hS hS _ _ _ ?_)
  have h6 := offF_60 h.1
  repeat' (first | with_reducible first | refine kI (by kernel_rfl) ?_ | (first | refine kB1 ?_ ?_ | refine kB2 ?_ ?_) <;> intro hp | (first | refine kD1 ?_ ?_ | refine kD2 ?_ ?_ | refine kS1 ?_ ?_ | refine kS2 ?_ ?_) <;> intro hp <;> try simp only [hp] | simp -implicitDefEqProofs (disch := omega) only [go_sem, Nat.reduceAdd, Nat.reduceSub, reduceCtorEq, Nat.reduceLT, Nat.reduceLeDiff, Nat.reduceEqDiff, Nat.reduceMul, Int.reduceToNat, ↓reduceIte, List.take_of_length_le, if_pos, if_neg, List.getElem?_set_self, List.set_set, cnE, cnV, Try.ntmps32, Try.results32,  n1, opQ_none])
  refine InlK_intro rfl rfl can_offsetsOf ((hof v h.1 h.2).call (by simp only [go_sem, ints]) ?_)
  generalize offF v = A at *
  repeat' (first | with_reducible first | refine kI (by kernel_rfl) ?_ | (first | refine kB1 ?_ ?_ | refine kB2 ?_ ?_) <;> intro hp | (first | refine kD1 ?_ ?_ | refine kD2 ?_ ?_ | refine kS1 ?_ ?_ | refine kS2 ?_ ?_) <;> intro hp <;> try simp only [hp] | simp -implicitDefEqProofs (disch := omega) only [go_sem, Nat.reduceAdd, Nat.reduceSub, reduceCtorEq, Nat.reduceLT, Nat.reduceLeDiff, Nat.reduceEqDiff, Nat.reduceMul, Int.reduceToNat, ↓reduceIte, List.take_of_length_le, if_pos, if_neg, List.getElem?_set_self, List.set_set, cnE, cnV, Try.ntmps32, Try.results32,  hs, opQ_none])
  refine InlK_intro rfl rfl can_sort ((isp_sort (q := A) rfl rfl (by omega)).mono ?_)
  rintro r L' ⟨rfl, rfl⟩
  repeat' (first | with_reducible first | refine kI (by kernel_rfl) ?_ | (first | refine kB1 ?_ ?_ | refine kB2 ?_ ?_) <;> intro hp | (first | refine kD1 ?_ ?_ | refine kD2 ?_ ?_ | refine kS1 ?_ ?_ | refine kS2 ?_ ?_) <;> intro hp <;> try simp only [hp] | simp -implicitDefEqProofs (disch := omega) only [go_sem, Nat.reduceAdd, Nat.reduceSub, reduceCtorEq, Nat.reduceLT, Nat.reduceLeDiff, Nat.reduceEqDiff, Nat.reduceMul, Int.reduceToNat, ↓reduceIte, List.take_of_length_le, if_pos, if_neg, List.getElem?_set_self, List.set_set, cnE, cnV, Try.ntmps32, Try.results32,  hc, opQ_none])
  refine InlK_intro rfl rfl can_compact ((isp_compact (q := A.mergeSort fun x y => decide (x ≤ y)) rfl (by rw [List.length_mergeSort]) (by omega)).mono ?_)
  rintro r L' ⟨rfl, rfl⟩
  repeat' (first | with_reducible first | refine kI (by kernel_rfl) ?_ | (first | refine kB1 ?_ ?_ | refine kB2 ?_ ?_) <;> intro hp | (first | refine kD1 ?_ ?_ | refine kD2 ?_ ?_ | refine kS1 ?_ ?_ | refine kS2 ?_ ?_) <;> intro hp <;> try simp only [hp] | simp -implicitDefEqProofs (disch := omega) only [go_sem, Nat.reduceAdd, Nat.reduceSub, reduceCtorEq, Nat.reduceLT, Nat.reduceLeDiff, Nat.reduceEqDiff, Nat.reduceMul, Int.reduceToNat, ↓reduceIte, List.take_of_length_le, if_pos, if_neg, List.getElem?_set_self, List.set_set, cnE, cnV, Try.ntmps32, Try.results32])
  rw [List.length_mergeSort]
  exact ⟨[1], by simp, by simp, fun n => by simp [renV, expE, renC, gOf, List.idxOf?_cons, srt], fun n => by simp [renB, expE, renC, Function.comp_def, srt]⟩
theorem exp_ownT (q z : List Int) (n m : Nat) (h : q.length = n) (hm : (q ++ z).length = m) : exp 1 [⟨1, (q ++ z).map fun n => .int .i64 n⟩] (.sl 0 m 0 n m) = ints 1 q := by
  subst h hm
  simp [exp, expE, expC, stepC, ints, Function.comp_def]
theorem srt_60 (A : List Int) : (srt A).length ≤ A.length := srt_len A
set_option maxHeartbeats 4000000 in
set_option maxRecDepth 100000 in
theorem spec_cellsOf {Sg : FuncId → Option (List AV → Option AV)} (hS : Sound Try.prog Sg) (hc : Sg 27 = some (F1 gCountOf)) (hu : Sg 28 = some (F2 gUnrank)) (ho : Sg 30 = some (F2 gOffset)) (hs : Sg 44 = none) (hp : Sg 45 = none) : ∀ a r, F1 gCells a = some r → CSpec Try.prog 32 a r := by
  refine F1_spec ?_
  intro v r hr
  obtain ⟨⟨h1, h2⟩, rfl⟩ := gd_some hr
  have hof : OffI := fun v h1 h2 => o_offsetsI hS hc hu ho v h1 h2
  refine (o_cellsOf (hS.hide 36) (if_pos rfl) ((if_neg (by decide)).trans hs) ((if_neg (by decide)).trans hp) v ⟨h1, h2⟩ hof).cspec ?_ (own (srt (offF v))) (exp_ownT _ _ _ _ rfl (by have := srt_60 (offF v); rw [List.length_append, List.length_replicate]; omega))
  show [_] = [_]
  rw [map_vi0]
def gCellsT (v : Vi) : Option (List Int) := gd (viB v) (if viewOK v = true then srt (offF v) else [])
theorem gCellsT_eq {v : Vi} (h : viB v) : gCellsT v = some (if viewOK v = true then srt (offF v) else []) := gd_eq h
def gOffT (v : Vi) : Option (List Int) := gd (viB v) (if viewOK v = true then offF v else [])
theorem gOffT_eq {v : Vi} (h : viB v) : gOffT v = some (if viewOK v = true then offF v else []) := gd_eq h
def gCountT (l : List Int) : Option Int := gd (l.length < 4294967296) (if shapeOK l = true then prodW l else -1)
theorem gCountT_eq {l : List Int} (h : l.length < 4294967296) : gCountT l = some (if shapeOK l = true then prodW l else -1) := gd_eq h
set_option maxHeartbeats 4000000 in
set_option maxRecDepth 100000 in
theorem spec_CountOfI {Sg : FuncId → Option (List AV → Option AV)} (hS : Sound Try.prog Sg) (hs : Sg 21 = some (F1 gIsShape)) (hc : Sg 27 = some (F1 gCountOf)) : ∀ a r, F1 gCountT a = some r → CSpec Try.prog 8 a r := by
  refine F1_spec ?_
  intro l r hr
  obtain ⟨h, rfl⟩ := gd_some hr
  refine CSpec.intro Try.func8 rfl (own _) (vc3_sound Try.pf hS hS _ _ _ ?_)
  have q1 := gIsShape_eq (l := l) h
  have q2 := gCountOf_eq (l := l) h
  cases e1 : shapeOK l with
  | false =>
    rw [e1] at q1
    rw [if_neg (by simp)]
    repeat' (first | with_reducible first | refine kI (by kernel_rfl) ?_ | refine kN (by kernel_rfl) ?_ | (first | refine kB1 ?_ ?_ | refine kB2 ?_ ?_) <;> intro hp | (first | refine kD1 ?_ ?_ | refine kD2 ?_ ?_ | refine kS1 ?_ ?_ | refine kS2 ?_ ?_) <;> intro hp <;> try simp only [hp] | simp -implicitDefEqProofs (disch := omega) only [go_sem, Nat.reduceAdd, Nat.reduceSub, reduceCtorEq, Nat.reduceLT, Nat.reduceLeDiff, Nat.reduceEqDiff, Nat.reduceMul, Int.reduceToNat, ↓reduceIte, List.take_of_length_le, if_pos, if_neg, List.getElem?_set_self, List.set_set, cnE, cnV, Try.ntmps8, Try.results8,  hs, q1])
  | true =>
    rw [e1] at q1
    rw [if_pos rfl]
    repeat' (first | with_reducible first | refine kI (by kernel_rfl) ?_ | refine kN (by kernel_rfl) ?_ | (first | refine kB1 ?_ ?_ | refine kB2 ?_ ?_) <;> intro hp | (first | refine kD1 ?_ ?_ | refine kD2 ?_ ?_ | refine kS1 ?_ ?_ | refine kS2 ?_ ?_) <;> intro hp <;> try simp only [hp] | simp -implicitDefEqProofs (disch := omega) only [go_sem, Nat.reduceAdd, Nat.reduceSub, reduceCtorEq, Nat.reduceLT, Nat.reduceLeDiff, Nat.reduceEqDiff, Nat.reduceMul, Int.reduceToNat, ↓reduceIte, List.take_of_length_le, if_pos, if_neg, List.getElem?_set_self, List.set_set, cnE, cnV, Try.ntmps8, Try.results8,  hs, q1, hc, q2])
/-! ### all different -/
theorem sub_len : ∀ {B A : List Int}, B.Nodup → (∀ x ∈ B, x ∈ A) → B.length ≤ A.length
  | [], A, _, _ => Nat.zero_le _
  | b :: B, A, hn, hs => by
    obtain ⟨h1, h2⟩ := List.nodup_cons.1 hn
    have hb : b ∈ A := hs b (by simp)
    have := sub_len (B := B) (A := A.erase b) h2 fun x hx => by
      have hxb : x ≠ b := fun h => h1 (h ▸ hx)
      exact (List.mem_erase_of_ne hxb).2 (hs x (by simp [hx]))
    rw [List.length_erase_of_mem hb] at this
    have := List.length_pos_of_mem hb
    simp only [List.length_cons]; omega
theorem diffF_nodup {A : List Int} : diffF A = true ↔ A.Nodup := by
  unfold diffF
  rw [decide_eq_true_eq, List.nodup_iff_pairwise_ne, List.pairwise_iff_getElem]
  constructor
  · intro h i j hi hj hij he
    refine h j hj ?_
    rw [List.getD_eq_getElem?_getD, List.getElem?_eq_getElem hj, Option.getD_some, ← he]
    exact List.mem_take_iff_getElem.2 ⟨i, by omega, rfl⟩
  · intro h k hk hm
    rw [List.getD_eq_getElem?_getD, List.getElem?_eq_getElem hk, Option.getD_some] at hm
    obtain ⟨i, hi, he⟩ := List.mem_take_iff_getElem.1 hm
    exact h i k (by omega) hk (by omega) he
theorem srt_nodup (A : List Int) : (srt A).Nodup := (srt_asc A).imp fun h => by omega
theorem diff_srt (A : List Int) : diffF A = decide ((srt A).length = A.length) := by
  rw [Bool.eq_iff_iff, decide_eq_true_eq]
  constructor
  · intro h
    have := sub_len (diffF_nodup.1 h) fun x hx => (srt_mem A x).2 hx
    have := srt_len A
    omega
  · intro h
    unfold diffF
    rw [decide_eq_true_eq]
    intro k hk hm
    have hs := sub_len (B := srt A) (A := A.eraseIdx k) (srt_nodup A) fun x hx => by
      have hx := (srt_mem A x).1 hx
      obtain ⟨i, hi, rfl⟩ := List.mem_iff_getElem.1 hx
      rw [List.mem_eraseIdx_iff_getElem]
      by_cases hik : i = k
      · subst hik
        rw [List.getD_eq_getElem?_getD, List.getElem?_eq_getElem hk, Option.getD_some] at hm
        obtain ⟨j, hj, he⟩ := List.mem_take_iff_getElem.1 hm
        exact ⟨j, by omega, by omega, he⟩
      · exact ⟨i, hi, hik, rfl⟩
    rw [List.length_eraseIdx_of_lt hk] at hs
    omega
def gOneI (v : Vi) : Option Bool := gd (shapeOK v.sh = true ∧ v.st.length = v.sh.length) (diffF (offF v))
theorem gOneI_eq {v : Vi} (h : shapeOK v.sh = true ∧ v.st.length = v.sh.length) : gOneI v = some (diffF (offF v)) := gd_eq h
def gOneT (v : Vi) : Option Bool := gd (viB v) (viewOK v && diffF (offF v))
theorem gOneT_eq {v : Vi} (h : viB v) : gOneT v = some (viewOK v && diffF (offF v)) := gd_eq h
end Go.Proofs.Ytjmkdnnfhphckaa
namespace Go.Proofs.Ytjmkdnnfhphckaa
open Go Go.Ev Go.RowKit Go.Ev.Enc Go.Pl

theorem can_someView : CanCall Try.prog 14 := ⟨_, Try.func14, rfl, rfl⟩
theorem can_newRd : CanCall Try.prog 13 := ⟨_, Try.func13, rfl, rfl⟩
def SomeV : Prop := ∀ {bs : List UInt8} {b n : Nat} {rL : Int → List Blk} (hC : RC bs b n rL) (hb : bs.length ≤ 2000) (p : Int) (hp : 0 ≤ p ∧ p ≤ 800000000), ISpec Try.prog 14 [.ptr b 1 0 0] (rL p) fun r L' => ∃ (v : Vi) (p' : Int), v.sh.length ≤ 4 ∧ v.st.length ≤ 5 ∧ r = viD v ∧ p ≤ p' ∧ p' ≤ p + 210 ∧ L' = rL p'
def DrOne (f : FuncId) : Prop := ∀ (bs : List UInt8), bs.length ≤ 1048576 → ∀ L : List Blk, ISpec Try.prog f [bytesA 0 bs] L fun r L' => ∃ v : Vi, v.sh.length ≤ 4 ∧ v.st.length ≤ 5 ∧ r = viD v ∧ L' = L
def gTrueW (bs : List UInt8) : Option Bool := gd (bs.length < 9223372036854775808) true
theorem selV_viD {g : Nat → Option Nat} {L : List Blk} {v : Vi} : selV g L (viD v) = viD v := by
  rw [selV_agg]
  simp only [List.map_cons, List.map_nil, selC_d, selC_int]
theorem dec_i0 : (dec (AV.ds 0 []) : Option (List Int)) = some [] := (ok _ _).2 rfl
theorem within_mem {a b : List Int} (h : ∀ x ∈ a, x ∈ b) : (a.all fun x => b.contains x) = true := by
  rw [List.all_eq_true]
  exact fun x hx => List.contains_iff_mem.2 (h x hx)
end Go.Proofs.Ytjmkdnnfhphckaa
namespace Go.Proofs.Ytjmkdnnfhphckaa
open Go Go.Ev Go.RowKit Go.Ev.Enc Go.Pl

/-! ### cells of several indices -/
theorem plc_at {A : List Int} {x : Int} (h : x ∈ A) : ∃ j : Nat, plc A x = j ∧ j < A.length ∧ A.getD j 0 = x ∧ ∀ i, i < j → A.getD i 0 ≠ x := by
  have hl : A.findIdx (· == x) < A.length := List.findIdx_lt_length.2 ⟨x, h, by simp⟩
  refine ⟨A.findIdx (· == x), if_pos hl, hl, ?_, fun i hi he => ?_⟩
  · have := List.findIdx_getElem (w := hl)
    rw [List.getD_eq_getElem?_getD, List.getElem?_eq_getElem hl, Option.getD_some]
    simpa using this
  · have h1 := List.not_of_lt_findIdx hi
    rw [List.getD_eq_getElem?_getD, List.getElem?_eq_getElem (by omega), Option.getD_some] at he
    simp [he] at h1
theorem mem_dropI {A : List Int} {m : Nat} {x : Int} : x ∈ A.drop m ↔ ∃ i, m ≤ i ∧ i < A.length ∧ A.getD i 0 = x := by
  rw [List.mem_drop_iff_getElem]
  constructor
  · rintro ⟨i, hi, he⟩
    exact ⟨i + m, by omega, by omega, by rw [List.getD_eq_getElem?_getD, List.getElem?_eq_getElem (by omega), Option.getD_some, ← he]; congr 1; omega⟩
  · rintro ⟨i, h1, h2, he⟩
    refine ⟨i - m, by omega, ?_⟩
    rw [List.getD_eq_getElem?_getD, List.getElem?_eq_getElem h2, Option.getD_some] at he
    rw [← he]; congr 1; omega
theorem mem_takeI {A : List Int} {m : Nat} {x : Int} : x ∈ A.take m ↔ ∃ i, i < m ∧ i < A.length ∧ A.getD i 0 = x := by
  rw [List.mem_take_iff_getElem]
  constructor
  · rintro ⟨i, hi, he⟩
    exact ⟨i, by omega, by omega, by rw [List.getD_eq_getElem?_getD, List.getElem?_eq_getElem (by omega), Option.getD_some, ← he]⟩
  · rintro ⟨i, h1, h2, he⟩
    refine ⟨i, by omega, ?_⟩
    rw [List.getD_eq_getElem?_getD, List.getElem?_eq_getElem h2, Option.getD_some] at he
    exact he
def repC (A : List Int) (x : Int) : Bool := A.contains x && (A.drop ((plc A x).toNat + 1)).contains x
theorem repC_iff {A : List Int} {x : Int} : repC A x = true ↔ ∃ i, i < A.length ∧ A.getD i 0 = x ∧ x ∈ A.take i := by
  unfold repC
  simp only [Bool.and_eq_true, List.contains_iff_mem]
  constructor
  · rintro ⟨h1, h2⟩
    obtain ⟨j, e, hj, hx, hm⟩ := plc_at h1
    rw [e, Int.toNat_natCast] at h2
    obtain ⟨i, i1, i2, i3⟩ := mem_dropI.1 h2
    exact ⟨i, i2, i3, mem_takeI.2 ⟨j, by omega, by omega, hx⟩⟩
  · rintro ⟨i, h1, h2, h3⟩
    obtain ⟨k, k1, k2, k3⟩ := mem_takeI.1 h3
    have hA : x ∈ A := by rw [← h2]; exact gmem h1
    obtain ⟨j, e, hj, hx, hm⟩ := plc_at hA
    refine ⟨hA, ?_⟩
    rw [e, Int.toNat_natCast]
    have : ¬ k < j := fun hk => hm k hk k3
    exact mem_dropI.2 ⟨i, by omega, h1, h2⟩
def repT (A : List Int) (k : Nat) : List Int := (upV k).filter (repC A)
def repF (A : List Int) : List Int := repT A 60
theorem repT_y {A : List Int} {k : Nat} (h : repC A k = true) : repT A k ++ [(k : Int)] = repT A (k + 1) := by
  unfold repT
  rw [← upV_snoc, List.filter_append]
  simp [h]
theorem repT_n {A : List Int} {k : Nat} (h : repC A k = false) : repT A (k + 1) = repT A k := by
  unfold repT
  rw [← upV_snoc, List.filter_append]
  simp [h]
theorem rep_asc (A : List Int) : (repF A).Pairwise (· < ·) := (upV_asc 60).sublist List.filter_sublist
theorem mem_rep {A : List Int} {x : Int} : x ∈ repF A ↔ (0 ≤ x ∧ x < 60) ∧ repC A x = true := by
  unfold repF repT
  rw [List.mem_filter, upV_mem]; exact Iff.rfl
theorem rep_len (A : List Int) : (repF A).length ≤ 60 := by
  have := List.length_filter_le (repC A) (upV 60)
  rw [upV_len] at this
  exact this
def rpL (A : List Int) : Nat → List Int
  | 0 => []
  | k + 1 => if A.getD k 0 ∈ A.take k then rpL A k ++ [A.getD k 0] else rpL A k
theorem rpL_y {A : List Int} {k : Nat} (h : A.getD k 0 ∈ A.take k) : rpL A (k + 1) = rpL A k ++ [A.getD k 0] := if_pos h
theorem rpL_n {A : List Int} {k : Nat} (h : ¬ A.getD k 0 ∈ A.take k) : rpL A (k + 1) = rpL A k := if_neg h
theorem mem_rpL {A : List Int} {x : Int} : ∀ {k : Nat}, x ∈ rpL A k ↔ ∃ i, i < k ∧ A.getD i 0 = x ∧ x ∈ A.take i
  | 0 => by simp [rpL]
  | k + 1 => by
    by_cases h : A.getD k 0 ∈ A.take k
    · rw [rpL_y h, List.mem_append, mem_rpL]
      constructor
      · rintro (⟨i, h1, h2, h3⟩ | h1)
        · exact ⟨i, by omega, h2, h3⟩
        · simp at h1; subst h1; exact ⟨k, by omega, by simp, by simpa using h⟩
      · rintro ⟨i, h1, h2, h3⟩
        by_cases hik : i = k
        · subst hik; right; simp only [List.mem_singleton]; exact h2.symm
        · exact .inl ⟨i, by omega, h2, h3⟩
    · rw [rpL_n h, mem_rpL]
      constructor
      · rintro ⟨i, h1, h2, h3⟩
        exact ⟨i, by omega, h2, h3⟩
      · rintro ⟨i, h1, h2, h3⟩
        by_cases hik : i = k
        · subst hik; rw [h2] at h; exact absurd h3 h
        · exact ⟨i, by omega, h2, h3⟩
theorem rpL_len (A : List Int) : ∀ k, (rpL A k).length ≤ k
  | 0 => by simp [rpL]
  | k + 1 => by
    have := rpL_len A k
    unfold rpL
    split
    · simp; omega
    · omega
theorem srt_rpL {A : List Int} (h : inC A) : srt (rpL A A.length) = repF A :=
  srt_eq (rep_asc A) fun x => by
    rw [mem_rep, repC_iff, mem_rpL]
    constructor
    · rintro ⟨_, i, h1, h2, h3⟩; exact ⟨i, h1, h2, h3⟩
    · rintro ⟨i, h1, h2, h3⟩
      exact ⟨h x (by rw [← h2]; exact gmem h1), i, h1, h2, h3⟩
theorem rep_sub {A : List Int} {x : Int} (h : x ∈ repF A) : x ∈ A := by
  obtain ⟨i, h1, h2, _⟩ := repC_iff.1 (mem_rep.1 h).2
  rw [← h2]; exact gmem h1
theorem diff_rep {A : List Int} (h : inC A) : diffF A = decide ((repF A).length = 0) := by
  rw [Bool.eq_iff_iff, decide_eq_true_eq, List.length_eq_zero_iff]
  unfold diffF
  rw [decide_eq_true_eq]
  constructor
  · intro hd
    rw [List.eq_nil_iff_forall_not_mem]
    intro x hx
    obtain ⟨i, h1, h2, h3⟩ := repC_iff.1 (mem_rep.1 hx).2
    exact hd i h1 (by rw [h2]; exact h3)
  · intro he k hk hm
    have : A.getD k 0 ∈ repF A := mem_rep.2 ⟨h _ (gmem hk), repC_iff.2 ⟨k, hk, rfl, hm⟩⟩
    rw [he] at this
    simp at this
def gRep (v : Vi) : Option (List Int) := gd (viB v) (if viewOK v = true then repF (offF v) else [])
theorem gRep_eq {v : Vi} (h : viB v) : gRep v = some (if viewOK v = true then repF (offF v) else []) := gd_eq h
abbrev viB0 (v : Vi) : Blk := ⟨3, [.agg [i64 v.b, ints 0 v.sh, ints 0 v.st]]⟩
end Go.Proofs.Ytjmkdnnfhphckaa
namespace Go.Proofs.Ytjmkdnnfhphckaa
open Go Go.Ev Go.RowKit Go.Ev.Enc Go.Pl

theorem rep_drop {A : List Int} (h : inC A) {k j : Nat} (hk : k < A.length) (hj : plc A (A.getD k 0) = (j : Int)) : (repF A).contains (A.getD k 0) = (A.drop (j + 1)).contains (A.getD k 0) := by
  rw [Bool.eq_iff_iff, List.contains_iff_mem, mem_rep]
  unfold repC
  rw [hj, Int.toNat_natCast, List.contains_iff_mem.2 (gmem hk), Bool.true_and]
  exact ⟨fun h' => h'.2, fun h' => ⟨h _ (gmem hk), h'⟩⟩
end Go.Proofs.Ytjmkdnnfhphckaa
namespace Go.Proofs.Ytjmkdnnfhphckaa
open Go Go.Ev Go.RowKit Go.Ev.Enc Go.Pl

/-! ### the least and the greatest -/
def mnS (a b : Int) : Int := if b < a then b else a
def mxS (a b : Int) : Int := if a < b then b else a
def mnT (l : List Int) (k : Nat) : Int := (l.take k).foldl mnS (l.getD 0 0)
def mxT (l : List Int) (k : Nat) : Int := (l.take k).foldl mxS (l.getD 0 0)
theorem mxT_succ {l : List Int} {k : Nat} (h : k < l.length) : mxT l (k + 1) = mxS (mxT l k) (l.getD k 0) := by
  unfold mxT
  rw [take_snocI h, List.foldl_append]; rfl
theorem mxT_one {l : List Int} : mxT l 1 = l.getD 0 0 := by
  cases l with
  | nil => rfl
  | cons x l =>
    show mxS x x = x
    unfold mxS
    split <;> rfl
theorem mxT_b {l : List Int} : ∀ k, 0 < l.length → k ≤ l.length → (mxT l k ∈ l) ∧ ∀ i, i < k → l.getD i 0 ≤ mxT l k
  | 0, h0, _ => ⟨gmem h0, fun i hi => absurd hi (Nat.not_lt_zero _)⟩
  | k + 1, h0, hk => by
    obtain ⟨h1, h2⟩ := mxT_b k h0 (by omega)
    rw [mxT_succ (by omega)]
    unfold mxS
    split
    · refine ⟨gmem (by omega), fun i hi => ?_⟩
      by_cases hik : i = k
      · subst hik; omega
      · have := h2 i (by omega); omega
    · refine ⟨h1, fun i hi => ?_⟩
      by_cases hik : i = k
      · subst hik; omega
      · have := h2 i (by omega); omega
def gMx (l : List Int) : Option Int := gd (0 < l.length ∧ l.length < 4294967296) (mxT l l.length)
theorem gMx_eq {l : List Int} (h : 0 < l.length ∧ l.length < 4294967296) : gMx l = some (mxT l l.length) := gd_eq h
theorem mnT_succ {l : List Int} {k : Nat} (h : k < l.length) : mnT l (k + 1) = mnS (mnT l k) (l.getD k 0) := by
  unfold mnT
  rw [take_snocI h, List.foldl_append]; rfl
theorem mnT_one {l : List Int} : mnT l 1 = l.getD 0 0 := by
  cases l with
  | nil => rfl
  | cons x l =>
    show mnS x x = x
    unfold mnS
    split <;> rfl
theorem mnT_b {l : List Int} : ∀ k, 0 < l.length → k ≤ l.length → (mnT l k ∈ l) ∧ ∀ i, i < k → mnT l k ≤ l.getD i 0
  | 0, h0, _ => ⟨gmem h0, fun i hi => absurd hi (Nat.not_lt_zero _)⟩
  | k + 1, h0, hk => by
    obtain ⟨h1, h2⟩ := mnT_b k h0 (by omega)
    rw [mnT_succ (by omega)]
    unfold mnS
    split
    · refine ⟨gmem (by omega), fun i hi => ?_⟩
      by_cases hik : i = k
      · subst hik; omega
      · have := h2 i (by omega); omega
    · refine ⟨h1, fun i hi => ?_⟩
      by_cases hik : i = k
      · subst hik; omega
      · have := h2 i (by omega); omega
def gMn (l : List Int) : Option Int := gd (0 < l.length ∧ l.length < 4294967296) (mnT l l.length)
theorem gMn_eq {l : List Int} (h : 0 < l.length ∧ l.length < 4294967296) : gMn l = some (mnT l l.length) := gd_eq h
def bdF (v : Vi) : Int × Int := if viewOK v = true ∧ ¬ prodW v.sh = 0 then (mnT (offF v) (offF v).length, mxT (offF v) (offF v).length) else (-1, -1)
def gBounds (v : Vi) : Option (Int × Int) := gd (viB v) (bdF v)
theorem gBounds_eq {v : Vi} (h : viB v) : gBounds v = some (bdF v) := gd_eq h
theorem offF_pos {v : Vi} (h : viewOK v = true) (hz : ¬ prodW v.sh = 0) : 0 < (offF v).length := by
  obtain ⟨s1, s2, s3, s4, s5⟩ := shape_facts (viewOK_iff.1 h).1
  rw [offF_len]; omega
end Go.Proofs.Ytjmkdnnfhphckaa
