/- Contracts of functions that the laws of this seat call. -/
import Derived.Test.YtgpflkmelindfaaVi
set_option linter.all false
namespace Go.Proofs.Ytgpflkmelindfaa
open Go Go.Ev Go.RowKit Go.Ev.Enc Go.Pl

theorem gv_hide {bs : List UInt8} {b n : Nat} {rL : Int → List Blk} (hC : RC bs b n rL) {A B C s : Blk} {Y : List Blk} {i : Nat} (hi : (A :: B :: C :: Y)[i]? = some s) :
    ∃ (rM : Int → List Blk) (m : Nat), RC bs b m rM ∧ (∀ p, rL p ++ (A :: B :: C :: Y) = rM p) ∧ m = n + (3 + Y.length) ∧ (∀ p, (rM p)[n + 2]? = some C) ∧ (∀ p Z, (rM p ++ Z)[n + 2]? = some C) ∧ (∀ p, (rM p)[n + i]? = some s) ∧ (∀ p Z, (rM p ++ Z)[n + i]? = some s) ∧
      (∀ p k, (rM p).set (n + 2) k = rL p ++ (A :: B :: k :: Y)) ∧ ∀ p Z k, (rM p ++ Z).set (n + 2) k = rL p ++ (A :: B :: k :: (Y ++ Z)) := by
  have hi' : ∀ p, (rL p ++ (A :: B :: C :: Y))[n + i]? = some s := fun p => by rw [hC.at']; exact hi
  have h2' : ∀ p, (rL p ++ (A :: B :: C :: Y))[n + 2]? = some C := fun p => by rw [hC.at']; rfl
  refine ⟨fun p => rL p ++ (A :: B :: C :: Y), n + (A :: B :: C :: Y).length, hC.app _, fun _ => rfl, ?_, h2', fun p Z => ?_, hi', fun p Z => ?_, fun p k => ?_, fun p Z k => ?_⟩
  · simp only [List.length_cons]; omega
  · rw [List.getElem?_append_left (List.getElem?_eq_some_iff.1 (h2' p)).1, h2']
  · rw [List.getElem?_append_left (List.getElem?_eq_some_iff.1 (hi' p)).1, hi']
  · rw [hC.sat']; rfl
  · rw [List.append_assoc, hC.sat']; rfl
theorem can_NewView : CanCall Try.prog 132 := ⟨_, Try.func132, rfl, rfl⟩
theorem can_goodView : CanCall Try.prog 120 := ⟨_, Try.func120, rfl, rfl⟩
theorem can_FlipDim : CanCall Try.prog 11 := ⟨_, Try.func11, rfl, rfl⟩
theorem can_PermuteDims : CanCall Try.prog 134 := ⟨_, Try.func134, rfl, rfl⟩
theorem can_WindowsOf : CanCall Try.prog 137 := ⟨_, Try.func137, rfl, rfl⟩
theorem can_AddDim : CanCall Try.prog 138 := ⟨_, Try.func138, rfl, rfl⟩
def NewV : Prop := ∀ (s : List Int), shapeOK s = true → ∀ (t : Nat) (L : List Blk), ISpec Try.prog 132 [ints t s] L fun r L' => ∃ st, st.length = s.length ∧ r = viS L.length ⟨0, s, st⟩ ∧ L' = L ++ [stB st]
structure ChgV : Prop where
  new : NewV
  cpy : CopyVi
  sli : SliV
  flip : ∀ (v : Vi) (d : Int), v.sh.length ≤ 4 ∧ v.st.length ≤ 5 → OSpec Try.prog 11 [.agg [i64 v.b, ints 0 v.sh, ints 0 v.st], i64 d] (mdR (sliF v d flipS)) (mdN (sliF v d flipS))
  per : ∀ (v : Vi) (o : List Int), v.sh.length ≤ 4 ∧ v.st.length ≤ 5 → 0 < v.sh.length → o.length ≤ 1000 → OSpec Try.prog 134 [.agg [i64 v.b, ints 0 v.sh, ints 0 v.st], ints 0 o] (mdR (perD v o)) (mdN (perD v o))
  win : ∀ (v : Vi) (d : Nat) (k : Int), v.sh.length ≤ 4 ∧ v.st.length ≤ 5 → d < v.sh.length → OSpec Try.prog 137 [.agg [i64 v.b, ints 0 v.sh, ints 0 v.st], i64 (d : Nat), i64 k] (mdR (winF v d k)) (mdN (winF v d k))
  add : ∀ (v : Vi) (d : Nat), v.sh.length ≤ 4 ∧ v.st.length ≤ 5 → d < v.sh.length → OSpec Try.prog 138 [.agg [i64 v.b, ints 0 v.sh, ints 0 v.st], i64 (d : Nat)] (mdR (addF v d)) (mdN (addF v d))
theorem shapeOK_of {l : List Int} (h1 : l.length ≤ 4) (h2 : ∀ x ∈ l, 0 ≤ x ∧ x ≤ 5) (h3 : prodW l ≤ 60) : shapeOK l = true := by
  unfold shapeOK inExt
  simp only [Bool.and_eq_true, decide_eq_true_eq, List.all_eq_true]
  exact ⟨⟨h1, fun x hx => by have := h2 x hx; omega⟩, h3⟩
theorem sliF_ok {v w : Vi} {d : Int} {s : Sl} (h : sliF v d s = some w) : viewOK w = true := by
  unfold sliF at h
  split at h
  · exact madeF_ok h
  · cases h
theorem perD_ok {v w : Vi} {o : List Int} (h : perD v o = some w) : viewOK w = true := by
  unfold perD at h
  split at h
  · exact madeF_ok h
  · cases h
theorem winF_ok {v w : Vi} {d : Nat} {k : Int} (h : winF v d k = some w) : viewOK w = true := by
  unfold winF at h
  split at h
  · exact madeF_ok h
  · cases h
theorem addF_ok {v w : Vi} {d : Nat} (h : addF v d = some w) : viewOK w = true := by
  unfold addF at h
  split at h
  · exact madeF_ok h
  · cases h
theorem gi_app {A B C s : Blk} {Y : List Blk} (Z : List Blk) {i : Nat} (h : (A :: B :: C :: Y)[i]? = some s) : (A :: B :: C :: (Y ++ Z))[i]? = some s := by
  show ((A :: B :: C :: Y) ++ Z)[i]? = some s
  rw [List.getElem?_append_left (List.getElem?_eq_some_iff.1 h).1, h]
theorem gi_new (A B C x y : Blk) (Y : List Blk) : (A :: B :: C :: (Y ++ [x, y]))[Y.length + 4]? = some y := by
  show (Y ++ [x, y])[Y.length + 1]? = some y
  rw [List.getElem?_append_right (by omega), Nat.add_sub_cancel_left]
  rfl
set_option maxHeartbeats 4000000 in
set_option maxRecDepth 100000 in
theorem isp_goodView {Sg : FuncId → Option (List AV → Option AV)} (hS : Sound Try.prog Sg) (h0 : Sg 81 = none) (h1 : Sg 56 = none) (h2 : Sg 133 = none) (hc : Sg 109 = some (F1 gCount)) (h3 : Sg 132 = none) (h4 : Sg 41 = none) (h5 : Sg 11 = none) (h6 : Sg 134 = none) (h7 : Sg 137 = none) (h8 : Sg 138 = none) (h9 : Sg 114 = none) (h10 : Sg 89 = none) (hv : Sg 69 = some (F1 gValidV)) (hu : Sg 136 = some (F1 gUpV)) (hr : Sg 135 = some (F1 gRev)) {bs : List UInt8} {b n : Nat} {rL : Int → List Blk} (hC : RC bs b n rL) (hb : bs.length ≤ 2000) (p : Int) (hp : 0 ≤ p ∧ p ≤ 800000000) (hV : ChgV) : ISpec Try.prog 120 [.ptr b 1 0 0] (rL p) (fun r L' => ∃ (v : Vi) (p' : Int), v.sh.length ≤ 4 ∧ v.st.length = v.sh.length ∧ r = viS n v ∧ p ≤ p' ∧ p' ≤ p + 200 ∧ L' = rL p' ++ [stB v.st]) := by
  refine ISpec.ret Try.func120 rfl (vc3_sound Try.pf hS hS _ _ _ ?_)
  repeat' (first | with_reducible first | refine kI (by kernel_rfl) ?_ | (first | refine kB1 ?_ ?_ | refine kB2 ?_ ?_) <;> intro hp | (first | refine kD1 ?_ ?_ | refine kD2 ?_ ?_ | refine kS1 ?_ ?_ | refine kS2 ?_ ?_) <;> intro hp <;> try simp only [hp] | simp -implicitDefEqProofs (disch := omega) only [go_sem, Nat.reduceAdd, Nat.reduceSub, reduceCtorEq, Nat.reduceLT, Nat.reduceLeDiff, Nat.reduceEqDiff, Nat.reduceMul, Int.reduceToNat, ↓reduceIte, List.take_of_length_le, if_pos, if_neg, List.getElem?_set_self, List.set_set, cnE, cnV, Try.ntmps120, Try.results120,  hC.cn, h2, opQ_none])
  refine InlK_intro rfl rfl can_goodShape ((isp_goodShape hS h0 h1 hc (hC.app [_]) hb p (by omega)).mono ?_)
  rintro r L1 ⟨sh, p1, rfl, k1, k2, k3, k4, k5, k6, rfl⟩
  have hsh := shapeOK_of k1 k2 k4
  repeat' (first | with_reducible first | refine kI (by kernel_rfl) ?_ | (first | refine kB1 ?_ ?_ | refine kB2 ?_ ?_) <;> intro hp | (first | refine kD1 ?_ ?_ | refine kD2 ?_ ?_ | refine kS1 ?_ ?_ | refine kS2 ?_ ?_) <;> intro hp <;> try simp only [hp] | simp -implicitDefEqProofs (disch := omega) only [go_sem, Nat.reduceAdd, Nat.reduceSub, reduceCtorEq, Nat.reduceLT, Nat.reduceLeDiff, Nat.reduceEqDiff, Nat.reduceMul, Int.reduceToNat, ↓reduceIte, List.take_of_length_le, if_pos, if_neg, List.getElem?_set_self, List.set_set, cnE, cnV, Try.ntmps120, Try.results120,  hC.cn, h3, opQ_none])
  refine InlK_intro rfl rfl can_NewView ((hV.new sh hsh 1 _).mono ?_)
  rintro r L1 ⟨st, k7, rfl, rfl⟩
  repeat' (first | with_reducible first | refine kI (by kernel_rfl) ?_ | (first | refine kB1 ?_ ?_ | refine kB2 ?_ ?_) <;> intro hp | (first | refine kD1 ?_ ?_ | refine kD2 ?_ ?_ | refine kS1 ?_ ?_ | refine kS2 ?_ ?_) <;> intro hp <;> try simp only [hp] | simp -implicitDefEqProofs (disch := omega) only [go_sem, Nat.reduceAdd, Nat.reduceSub, reduceCtorEq, Nat.reduceLT, Nat.reduceLeDiff, Nat.reduceEqDiff, Nat.reduceMul, Int.reduceToNat, ↓reduceIte, List.take_of_length_le, if_pos, if_neg, List.getElem?_set_self, List.set_set, cnE, cnV, Try.ntmps120, Try.results120,  hC.cn, h0, opQ_none])
  refine InlK_intro rfl rfl can_pick ((isp_pick hS (hC.app _) hb _ (by omega) 10 (by omega)).mono ?_)
  rintro r L1 ⟨y, rfl, -, -, rfl⟩
  repeat' (first | with_reducible first | refine kI (by kernel_rfl) ?_ | (first | refine kB1 ?_ ?_ | refine kB2 ?_ ?_) <;> intro hp | (first | refine kD1 ?_ ?_ | refine kD2 ?_ ?_ | refine kS1 ?_ ?_ | refine kS2 ?_ ?_) <;> intro hp <;> try simp only [hp] | simp -implicitDefEqProofs (disch := omega) only [go_sem, Nat.reduceAdd, Nat.reduceSub, reduceCtorEq, Nat.reduceLT, Nat.reduceLeDiff, Nat.reduceEqDiff, Nat.reduceMul, Int.reduceToNat, ↓reduceIte, List.take_of_length_le, if_pos, if_neg, List.getElem?_set_self, List.set_set, cnE, cnV, Try.ntmps120, Try.results120,  hC.cn, h1, opQ_none])
  refine InlK_intro rfl rfl can_one ((isp_one hS h0 (hC.app _) hb _ (by omega) 2 [0, 0, 1, 3, y] (by simp)).mono ?_)
  rintro r L1 ⟨b0, rfl, -, rfl⟩
  repeat' (first | with_reducible first | refine kI (by kernel_rfl) ?_ | (first | refine kB1 ?_ ?_ | refine kB2 ?_ ?_) <;> intro hp | (first | refine kD1 ?_ ?_ | refine kD2 ?_ ?_ | refine kS1 ?_ ?_ | refine kS2 ?_ ?_) <;> intro hp <;> try simp only [hp] | simp -implicitDefEqProofs (disch := omega) only [go_sem, Nat.reduceAdd, Nat.reduceSub, reduceCtorEq, Nat.reduceLT, Nat.reduceLeDiff, Nat.reduceEqDiff, Nat.reduceMul, Int.reduceToNat, ↓reduceIte, List.take_of_length_le, if_pos, if_neg, List.getElem?_set_self, List.set_set, cnE, cnV, Try.ntmps120, Try.results120,  hC.cn, h0, opQ_none])
  refine InlK_intro rfl rfl can_pick ((isp_pick hS (hC.app _) hb _ (by omega) 4 (by omega)).mono ?_)
  rintro r L1 ⟨kk, rfl, k8, k9, rfl⟩
  repeat' (first | with_reducible first | refine kI (by kernel_rfl) ?_ | (first | refine kB1 ?_ ?_ | refine kB2 ?_ ?_) <;> intro hp | (first | refine kD1 ?_ ?_ | refine kD2 ?_ ?_ | refine kS1 ?_ ?_ | refine kS2 ?_ ?_) <;> intro hp <;> try simp only [hp] | simp -implicitDefEqProofs (disch := omega) only [go_sem, Nat.reduceAdd, Nat.reduceSub, reduceCtorEq, Nat.reduceLT, Nat.reduceLeDiff, Nat.reduceEqDiff, Nat.reduceMul, Int.reduceToNat, ↓reduceIte, List.take_of_length_le, if_pos, if_neg, List.getElem?_set_self, List.set_set, cnE, cnV, Try.ntmps120, Try.results120,  hC.cn])
  refine LoopQ.mix (fun t0 L0 nn ss => ∃ (k : Nat) (v : Vi) (i : Nat) (B : Blk) (Y : List Blk) (p2 : Int) (_ : Unit), (∃ x : Nat → AV, ss = ⟨mixL 0 (.k :: .k :: .k :: .k :: .v (i64 (k : Nat)) :: .s :: .s :: .s :: .k :: .k :: .k :: .k :: .k :: .k :: .k :: .k :: .k :: .k :: .k :: .s :: .s :: .s :: .s :: .s :: .s :: .s :: .s :: .s :: .s :: .s :: .s :: .s :: .s :: .s :: .s :: .s :: .s :: .s :: .s :: .s :: .s :: .s :: .s :: .s :: .s :: .s :: .s :: .s :: .s :: .s :: .s :: .s :: .s :: .s :: .s :: .s :: .s :: .s :: .s :: .s :: .s :: .s :: .s :: .s :: .s :: .s :: .s :: .s :: .s :: .s :: .s :: .s :: .s :: .s :: .s :: .s :: .s :: .s :: .s :: .s :: .s :: .s :: .s :: .s :: .s :: .s :: .s :: .s :: .s :: .s :: .s :: .s :: .s :: .s :: .s :: .s :: .s :: .s :: .s :: .s :: .s :: .k :: .k :: .k :: .k :: .k :: []) t0 x, rL p2 ++ (⟨3, [.agg [i64 0, .nilS, .nilS]]⟩ :: B :: ⟨3, [viS (n + i) v]⟩ :: Y)⟩) ∧ (k ≤ 3) ∧ (v.sh.length ≤ 4) ∧ (v.st.length = v.sh.length) ∧ (((⟨3, [.agg [i64 0, .nilS, .nilS]]⟩ : Blk) :: B :: ⟨3, [viS (n + i) v]⟩ :: Y)[i]? = some (stB v.st)) ∧ (p ≤ p2) ∧ (p2 + 40 * k ≤ p + 190) ∧ nn = 2 * k) ?_ ?_
  · exact ⟨_, kk.toNat, ⟨b0, sh, st⟩, 1, stB st, [], _, (), mixJ (by rw [show ((kk.toNat : Nat) : Int) = kk from by omega]; rfl) rfl, by omega, k1, k7, rfl, by omega, by omega, rfl⟩
  · rintro I0 hI0 mm ss ⟨k, v, i, B, Y, p2, _, ⟨y0, rfl⟩, g1, g2, g3, g4, g5, g6, rfl⟩
    have q1 := gValidV_eq (v := v) ⟨by omega, by omega⟩
    by_cases hx : k = 0 ∨ v.sh.length = 0
    · have htk := fun p A C => hC.tk p (A :: B :: C :: Y) (Y.length + 1 + 1 + 1) rfl
      have hil := (List.getElem?_eq_some_iff.1 g4).1
      have hi2 : i ≠ 2 := fun h => by subst h; simp at g4
      have hi0 : i ≠ 0 := fun h => by subst h; simp at g4
      cases e : viewOK v with
      | false =>
        rw [e] at q1
        have fin : ∀ p3, p ≤ p3 → p3 ≤ p + 200 → RetQ (rL p) (fun r L' => ∃ (v : Vi) (p' : Int), v.sh.length ≤ 4 ∧ v.st.length = v.sh.length ∧ r = viS n v ∧ p ≤ p' ∧ p' ≤ p + 200 ∧ L' = rL p' ++ [stB v.st]) (viS (n + i) ⟨0, v.sh, v.st⟩) (rL p3 ++ (⟨3, [viS (n + i) ⟨0, v.sh, v.st⟩]⟩ :: B :: ⟨3, [viS (n + i) ⟨0, v.sh, v.st⟩]⟩ :: Y)) := fun p3 w1 w2 => by
          refine hC.ret [n + i] (by simp) (by simp at hil ⊢; omega) ⟨⟨0, v.sh, v.st⟩, p3, g2, g3, selV_viS (v := ⟨0, v.sh, v.st⟩) rfl, w1, w2, ?_⟩
          have : (rL p3 ++ (⟨3, [viS (n + i) ⟨0, v.sh, v.st⟩]⟩ :: B :: ⟨3, [viS (n + i) ⟨0, v.sh, v.st⟩]⟩ :: Y))[n + i]? = some (stB v.st) := by
            rw [hC.at', ← g4]
            match i, hi0, hi2 with
            | 1, _, _ => rfl
            | i + 3, _, _ => rfl
          simp only [List.map_cons, List.map_nil, List.getD_eq_getElem?_getD, this, Option.getD_some, selB_ints]
        rcases hx with rfl | hv0
        · repeat' (first | with_reducible first | refine kI (by kernel_rfl) ?_ | refine kN (by kernel_rfl) ?_ | (first | refine kB1 ?_ ?_ | refine kB2 ?_ ?_) <;> intro hp | (first | refine kD1 ?_ ?_ | refine kD2 ?_ ?_ | refine kS1 ?_ ?_ | refine kS2 ?_ ?_) <;> intro hp <;> try simp only [hp] | simp -implicitDefEqProofs (disch := omega) only [go_sem, Nat.reduceAdd, Nat.reduceSub, reduceCtorEq, Nat.reduceLT, Nat.reduceLeDiff, Nat.reduceEqDiff, Nat.reduceMul, Int.reduceToNat, ↓reduceIte, List.take_of_length_le, if_pos, if_neg, List.getElem?_set_self, List.set_set, cnE, cnV, Try.ntmps120, Try.results120,  hC.cn, htk, g4, hv, q1])
          exact fin _ (by omega) (by omega)
        · have hv0' : ¬ (0 : Int) < (v.sh.length : Int) := by omega
          by_cases hk0 : k = 0
          · subst hk0
            repeat' (first | with_reducible first | refine kI (by kernel_rfl) ?_ | refine kN (by kernel_rfl) ?_ | (first | refine kB1 ?_ ?_ | refine kB2 ?_ ?_) <;> intro hp | (first | refine kD1 ?_ ?_ | refine kD2 ?_ ?_ | refine kS1 ?_ ?_ | refine kS2 ?_ ?_) <;> intro hp <;> try simp only [hp] | simp -implicitDefEqProofs (disch := omega) only [go_sem, Nat.reduceAdd, Nat.reduceSub, reduceCtorEq, Nat.reduceLT, Nat.reduceLeDiff, Nat.reduceEqDiff, Nat.reduceMul, Int.reduceToNat, ↓reduceIte, List.take_of_length_le, if_pos, if_neg, List.getElem?_set_self, List.set_set, cnE, cnV, Try.ntmps120, Try.results120,  hC.cn, htk, g4, hv, q1])
            exact fin _ (by omega) (by omega)
          · repeat' (first | with_reducible first | refine kI (by kernel_rfl) ?_ | refine kN (by kernel_rfl) ?_ | (first | refine kB1 ?_ ?_ | refine kB2 ?_ ?_) <;> intro hp | (first | refine kD1 ?_ ?_ | refine kD2 ?_ ?_ | refine kS1 ?_ ?_ | refine kS2 ?_ ?_) <;> intro hp <;> try simp only [hp] | simp -implicitDefEqProofs (disch := omega) only [go_sem, Nat.reduceAdd, Nat.reduceSub, reduceCtorEq, Nat.reduceLT, Nat.reduceLeDiff, Nat.reduceEqDiff, Nat.reduceMul, Int.reduceToNat, ↓reduceIte, List.take_of_length_le, if_pos, if_neg, List.getElem?_set_self, List.set_set, cnE, cnV, Try.ntmps120, Try.results120,  hC.cn, htk, g4, hv, q1, hv0'])
            exact fin _ (by omega) (by omega)
      | true =>
        rw [e] at q1
        have fin : ∀ p3, p ≤ p3 → p3 ≤ p + 200 → RetQ (rL p) (fun r L' => ∃ (v : Vi) (p' : Int), v.sh.length ≤ 4 ∧ v.st.length = v.sh.length ∧ r = viS n v ∧ p ≤ p' ∧ p' ≤ p + 200 ∧ L' = rL p' ++ [stB v.st]) (viS (n + i) v) (rL p3 ++ (⟨3, [viS (n + i) v]⟩ :: B :: ⟨3, [viS (n + i) v]⟩ :: Y)) := fun p3 w1 w2 => by
          refine hC.ret [n + i] (by simp) (by simp at hil ⊢; omega) ⟨v, p3, g2, g3, selV_viS rfl, w1, w2, ?_⟩
          have : (rL p3 ++ (⟨3, [viS (n + i) v]⟩ :: B :: ⟨3, [viS (n + i) v]⟩ :: Y))[n + i]? = some (stB v.st) := by
            rw [hC.at', ← g4]
            match i, hi0, hi2 with
            | 1, _, _ => rfl
            | i + 3, _, _ => rfl
          simp only [List.map_cons, List.map_nil, List.getD_eq_getElem?_getD, this, Option.getD_some, selB_ints]
        rcases hx with rfl | hv0
        · repeat' (first | with_reducible first | refine kI (by kernel_rfl) ?_ | refine kN (by kernel_rfl) ?_ | (first | refine kB1 ?_ ?_ | refine kB2 ?_ ?_) <;> intro hp | (first | refine kD1 ?_ ?_ | refine kD2 ?_ ?_ | refine kS1 ?_ ?_ | refine kS2 ?_ ?_) <;> intro hp <;> try simp only [hp] | simp -implicitDefEqProofs (disch := omega) only [go_sem, Nat.reduceAdd, Nat.reduceSub, reduceCtorEq, Nat.reduceLT, Nat.reduceLeDiff, Nat.reduceEqDiff, Nat.reduceMul, Int.reduceToNat, ↓reduceIte, List.take_of_length_le, if_pos, if_neg, List.getElem?_set_self, List.set_set, cnE, cnV, Try.ntmps120, Try.results120,  hC.cn, htk, g4, hv, q1])
          exact fin _ (by omega) (by omega)
        · have hv0' : ¬ (0 : Int) < (v.sh.length : Int) := by omega
          by_cases hk0 : k = 0
          · subst hk0
            repeat' (first | with_reducible first | refine kI (by kernel_rfl) ?_ | refine kN (by kernel_rfl) ?_ | (first | refine kB1 ?_ ?_ | refine kB2 ?_ ?_) <;> intro hp | (first | refine kD1 ?_ ?_ | refine kD2 ?_ ?_ | refine kS1 ?_ ?_ | refine kS2 ?_ ?_) <;> intro hp <;> try simp only [hp] | simp -implicitDefEqProofs (disch := omega) only [go_sem, Nat.reduceAdd, Nat.reduceSub, reduceCtorEq, Nat.reduceLT, Nat.reduceLeDiff, Nat.reduceEqDiff, Nat.reduceMul, Int.reduceToNat, ↓reduceIte, List.take_of_length_le, if_pos, if_neg, List.getElem?_set_self, List.set_set, cnE, cnV, Try.ntmps120, Try.results120,  hC.cn, htk, g4, hv, q1])
            exact fin _ (by omega) (by omega)
          · repeat' (first | with_reducible first | refine kI (by kernel_rfl) ?_ | refine kN (by kernel_rfl) ?_ | (first | refine kB1 ?_ ?_ | refine kB2 ?_ ?_) <;> intro hp | (first | refine kD1 ?_ ?_ | refine kD2 ?_ ?_ | refine kS1 ?_ ?_ | refine kS2 ?_ ?_) <;> intro hp <;> try simp only [hp] | simp -implicitDefEqProofs (disch := omega) only [go_sem, Nat.reduceAdd, Nat.reduceSub, reduceCtorEq, Nat.reduceLT, Nat.reduceLeDiff, Nat.reduceEqDiff, Nat.reduceMul, Int.reduceToNat, ↓reduceIte, List.take_of_length_le, if_pos, if_neg, List.getElem?_set_self, List.set_set, cnE, cnV, Try.ntmps120, Try.results120,  hC.cn, htk, g4, hv, q1, hv0'])
            exact fin _ (by omega) (by omega)
    · obtain ⟨rM, m, hM, e1, e2, c1, c2, s1, s2, t1, t2⟩ := gv_hide hC g4
      obtain ⟨j, rfl⟩ : ∃ j, k = j + 1 := ⟨k - 1, by omega⟩
      have hwj : IntKind.i64.wrap (((j + 1 : Nat) : Int) - 1) = (j : Int) := by rw [wrap_in (by omega)]; omega
      have hv0' : (0 : Int) < (v.sh.length : Int) := by omega
      have hmle : m ≤ m + 1 := Nat.le_succ m
      rw [e1]
      repeat' (first | with_reducible first | refine kI (by kernel_rfl) ?_ | (first | refine kB1 ?_ ?_ | refine kB2 ?_ ?_) <;> intro hp | (first | refine kD1 ?_ ?_ | refine kD2 ?_ ?_ | refine kS1 ?_ ?_ | refine kS2 ?_ ?_) <;> intro hp <;> try simp only [hp] | simp -implicitDefEqProofs (disch := omega) only [go_sem, Nat.reduceAdd, Nat.reduceSub, reduceCtorEq, Nat.reduceLT, Nat.reduceLeDiff, Nat.reduceEqDiff, Nat.reduceMul, Int.reduceToNat, ↓reduceIte, List.take_of_length_le, if_pos, if_neg, List.getElem?_set_self, List.set_set, cnE, cnV, Try.ntmps120, Try.results120,  hM.cn, c1, c2, s1, s2, t1, t2, hmle, hv0', h0, opQ_none])
      refine InlK_intro rfl rfl can_pick ((isp_pick hS hM hb _ (by omega) v.sh.length (by omega)).mono ?_)
      rintro r L1 ⟨dd, rfl, k10, k11, rfl⟩
      obtain ⟨d, rfl⟩ : ∃ d : Nat, dd = d := ⟨dd.toNat, by omega⟩
      have hd : d < v.sh.length := by omega
      clear k10 k11
      repeat' (first | with_reducible first | refine kI (by kernel_rfl) ?_ | (first | refine kB1 ?_ ?_ | refine kB2 ?_ ?_) <;> intro hp | (first | refine kD1 ?_ ?_ | refine kD2 ?_ ?_ | refine kS1 ?_ ?_ | refine kS2 ?_ ?_) <;> intro hp <;> try simp only [hp] | simp -implicitDefEqProofs (disch := omega) only [go_sem, Nat.reduceAdd, Nat.reduceSub, reduceCtorEq, Nat.reduceLT, Nat.reduceLeDiff, Nat.reduceEqDiff, Nat.reduceMul, Int.reduceToNat, ↓reduceIte, List.take_of_length_le, if_pos, if_neg, List.getElem?_set_self, List.set_set, cnE, cnV, Try.ntmps120, Try.results120,  hM.cn, c1, c2, s1, s2, t1, t2, hmle, h0, opQ_none])
      refine InlK_intro rfl rfl can_pick ((isp_pick hS (hM.app _) hb _ (by omega) 6 (by omega)).mono ?_)
      rintro r L1 ⟨ch, rfl, k10, k11, rfl⟩
      have hmi : m + 1 = n + (Y.length + 4) := by omega
      have hch : ch = 0 ∨ ch = 1 ∨ ch = 2 ∨ ch = 3 ∨ ch = 4 ∨ ch = 5 := by omega
      clear k10 k11
      rcases hch with rfl | rfl | rfl | rfl | rfl | rfl
      · repeat' (first | with_reducible first | refine kI (by kernel_rfl) ?_ | (first | refine kB1 ?_ ?_ | refine kB2 ?_ ?_) <;> intro hp | (first | refine kD1 ?_ ?_ | refine kD2 ?_ ?_ | refine kS1 ?_ ?_ | refine kS2 ?_ ?_) <;> intro hp <;> try simp only [hp] | simp -implicitDefEqProofs (disch := omega) only [go_sem, Nat.reduceAdd, Nat.reduceSub, reduceCtorEq, Nat.reduceLT, Nat.reduceLeDiff, Nat.reduceEqDiff, Nat.reduceMul, Int.reduceToNat, ↓reduceIte, List.take_of_length_le, if_pos, if_neg, List.getElem?_set_self, List.set_set, cnE, cnV, Try.ntmps120, Try.results120,  hM.cn, c1, c2, s1, s2, t1, t2, hmle])
        refine DrawQ.any2 [([0, 1, 2], 3, [0, 1]), ([], 4, [0, 1]), ([5, 6, 7], 8, [0, 1, 7])] [9] [0, 1, 7] (by kernel_rfl) ?_
        repeat' (first | with_reducible first | refine kI (by kernel_rfl) ?_ | (first | refine kB1 ?_ ?_ | refine kB2 ?_ ?_) <;> intro hp | (first | refine kD1 ?_ ?_ | refine kD2 ?_ ?_ | refine kS1 ?_ ?_ | refine kS2 ?_ ?_) <;> intro hp <;> try simp only [hp] | simp -implicitDefEqProofs (disch := omega) only [go_sem, Nat.reduceAdd, Nat.reduceSub, reduceCtorEq, Nat.reduceLT, Nat.reduceLeDiff, Nat.reduceEqDiff, Nat.reduceMul, Int.reduceToNat, ↓reduceIte, List.take_of_length_le, if_pos, if_neg, List.getElem?_set_self, List.set_set, cnE, cnV, Try.ntmps120, Try.results120,  hM.cn, c1, c2, s1, s2, t1, t2, hmle, h10, opQ_none])
        refine InlK_intro rfl rfl can_someSlice ((isp_someSlice hS h0 h1 (hM.app _) hb _ (by omega)).mono ?_)
        rintro r L1 ⟨s, p3, rfl, hs, k12, k13, rfl⟩
        repeat' (first | with_reducible first | refine kI (by kernel_rfl) ?_ | (first | refine kB1 ?_ ?_ | refine kB2 ?_ ?_) <;> intro hp | (first | refine kD1 ?_ ?_ | refine kD2 ?_ ?_ | refine kS1 ?_ ?_ | refine kS2 ?_ ?_) <;> intro hp <;> try simp only [hp] | simp -implicitDefEqProofs (disch := omega) only [go_sem, Nat.reduceAdd, Nat.reduceSub, reduceCtorEq, Nat.reduceLT, Nat.reduceLeDiff, Nat.reduceEqDiff, Nat.reduceMul, Int.reduceToNat, ↓reduceIte, List.take_of_length_le, if_pos, if_neg, List.getElem?_set_self, List.set_set, cnE, cnV, Try.ntmps120, Try.results120,  hM.cn, c1, c2, s1, s2, t1, t2, hmle, h4, opQ_none])
        refine InlK_intro rfl rfl can_SliceDim ((frz_md (hV.sli v d s ⟨g2, by omega⟩) _ _ (by simp only [go_sem, ints, s2])).mono ?_)
        rintro r L1 ho
        rw [hM.len'] at ho
        rcases ho with ⟨ho, rfl, rfl⟩ | ⟨w, ho, rfl, rfl⟩
        · repeat' (first | with_reducible first | refine kI (by kernel_rfl) ?_ | (first | refine kB1 ?_ ?_ | refine kB2 ?_ ?_) <;> intro hp | (first | refine kD1 ?_ ?_ | refine kD2 ?_ ?_ | refine kS1 ?_ ?_ | refine kS2 ?_ ?_) <;> intro hp <;> try simp only [hp] | simp -implicitDefEqProofs (disch := omega) only [go_sem, Nat.reduceAdd, Nat.reduceSub, reduceCtorEq, Nat.reduceLT, Nat.reduceLeDiff, Nat.reduceEqDiff, Nat.reduceMul, Int.reduceToNat, ↓reduceIte, List.take_of_length_le, if_pos, if_neg, List.getElem?_set_self, List.set_set, cnE, cnV, Try.ntmps120, Try.results120,  hM.cn, c1, c2, s1, s2, t1, t2, hmle, hv, hwj])
          exact ⟨2 * j, by omega, hI0 _ _ ⟨j, v, i, B, Y ++ [_], _, (), mixJ (by rfl) (by rw [← e1, List.append_assoc]; rfl), by omega, g2, g3, gi_app _ g4, by omega, by omega, rfl⟩⟩
        · have hw := sliF_ok ho
          have hw' := viewOK_iff.1 hw
          have hw4 := (shape_facts hw'.1).1
          have hw5 := hw'.2.1
          clear hw'
          have qw := gValidV_eq (v := w) ⟨by omega, by omega⟩
          rw [hw] at qw
          repeat' (first | with_reducible first | refine kI (by kernel_rfl) ?_ | (first | refine kB1 ?_ ?_ | refine kB2 ?_ ?_) <;> intro hp | (first | refine kD1 ?_ ?_ | refine kD2 ?_ ?_ | refine kS1 ?_ ?_ | refine kS2 ?_ ?_) <;> intro hp <;> try simp only [hp] | simp -implicitDefEqProofs (disch := omega) only [go_sem, Nat.reduceAdd, Nat.reduceSub, reduceCtorEq, Nat.reduceLT, Nat.reduceLeDiff, Nat.reduceEqDiff, Nat.reduceMul, Int.reduceToNat, ↓reduceIte, List.take_of_length_le, if_pos, if_neg, List.getElem?_set_self, List.set_set, cnE, cnV, Try.ntmps120, Try.results120,  hM.cn, c1, c2, s1, s2, t1, t2, hmle, hv, qw, hwj])
          exact ⟨2 * j, by omega, hI0 _ _ ⟨j, w, Y.length + 4, B, Y ++ [_, stB w.st], _, (), mixJ (by rfl) (by rw [← hmi]), by omega, hw4, hw5, gi_new _ _ _ _ _ _, by omega, by omega, rfl⟩⟩
      · repeat' (first | with_reducible first | refine kI (by kernel_rfl) ?_ | (first | refine kB1 ?_ ?_ | refine kB2 ?_ ?_) <;> intro hp | (first | refine kD1 ?_ ?_ | refine kD2 ?_ ?_ | refine kS1 ?_ ?_ | refine kS2 ?_ ?_) <;> intro hp <;> try simp only [hp] | simp -implicitDefEqProofs (disch := omega) only [go_sem, Nat.reduceAdd, Nat.reduceSub, reduceCtorEq, Nat.reduceLT, Nat.reduceLeDiff, Nat.reduceEqDiff, Nat.reduceMul, Int.reduceToNat, ↓reduceIte, List.take_of_length_le, if_pos, if_neg, List.getElem?_set_self, List.set_set, cnE, cnV, Try.ntmps120, Try.results120,  hM.cn, c1, c2, s1, s2, t1, t2, hmle, h5, opQ_none])
        refine InlK_intro rfl rfl can_FlipDim ((frz_md (hV.flip v d ⟨g2, by omega⟩) _ _ (by simp only [go_sem, ints, s2])).mono ?_)
        rintro r L1 ho
        rw [hM.len'] at ho
        rcases ho with ⟨ho, rfl, rfl⟩ | ⟨w, ho, rfl, rfl⟩
        · repeat' (first | with_reducible first | refine kI (by kernel_rfl) ?_ | (first | refine kB1 ?_ ?_ | refine kB2 ?_ ?_) <;> intro hp | (first | refine kD1 ?_ ?_ | refine kD2 ?_ ?_ | refine kS1 ?_ ?_ | refine kS2 ?_ ?_) <;> intro hp <;> try simp only [hp] | simp -implicitDefEqProofs (disch := omega) only [go_sem, Nat.reduceAdd, Nat.reduceSub, reduceCtorEq, Nat.reduceLT, Nat.reduceLeDiff, Nat.reduceEqDiff, Nat.reduceMul, Int.reduceToNat, ↓reduceIte, List.take_of_length_le, if_pos, if_neg, List.getElem?_set_self, List.set_set, cnE, cnV, Try.ntmps120, Try.results120,  hM.cn, c1, c2, s1, s2, t1, t2, hmle, hv, hwj])
          exact ⟨2 * j, by omega, hI0 _ _ ⟨j, v, i, B, Y ++ [_], _, (), mixJ (by rfl) (by rw [← e1, List.append_assoc]; rfl), by omega, g2, g3, gi_app _ g4, by omega, by omega, rfl⟩⟩
        · have hw := sliF_ok ho
          have hw' := viewOK_iff.1 hw
          have hw4 := (shape_facts hw'.1).1
          have hw5 := hw'.2.1
          clear hw'
          have qw := gValidV_eq (v := w) ⟨by omega, by omega⟩
          rw [hw] at qw
          repeat' (first | with_reducible first | refine kI (by kernel_rfl) ?_ | (first | refine kB1 ?_ ?_ | refine kB2 ?_ ?_) <;> intro hp | (first | refine kD1 ?_ ?_ | refine kD2 ?_ ?_ | refine kS1 ?_ ?_ | refine kS2 ?_ ?_) <;> intro hp <;> try simp only [hp] | simp -implicitDefEqProofs (disch := omega) only [go_sem, Nat.reduceAdd, Nat.reduceSub, reduceCtorEq, Nat.reduceLT, Nat.reduceLeDiff, Nat.reduceEqDiff, Nat.reduceMul, Int.reduceToNat, ↓reduceIte, List.take_of_length_le, if_pos, if_neg, List.getElem?_set_self, List.set_set, cnE, cnV, Try.ntmps120, Try.results120,  hM.cn, c1, c2, s1, s2, t1, t2, hmle, hv, qw, hwj])
          exact ⟨2 * j, by omega, hI0 _ _ ⟨j, w, Y.length + 4, B, Y ++ [_, stB w.st], _, (), mixJ (by rfl) (by rw [← hmi]), by omega, hw4, hw5, gi_new _ _ _ _ _ _, by omega, by omega, rfl⟩⟩
      · repeat' (first | with_reducible first | refine kI (by kernel_rfl) ?_ | (first | refine kB1 ?_ ?_ | refine kB2 ?_ ?_) <;> intro hp | (first | refine kD1 ?_ ?_ | refine kD2 ?_ ?_ | refine kS1 ?_ ?_ | refine kS2 ?_ ?_) <;> intro hp <;> try simp only [hp] | simp -implicitDefEqProofs (disch := omega) only [go_sem, Nat.reduceAdd, Nat.reduceSub, reduceCtorEq, Nat.reduceLT, Nat.reduceLeDiff, Nat.reduceEqDiff, Nat.reduceMul, Int.reduceToNat, ↓reduceIte, List.take_of_length_le, if_pos, if_neg, List.getElem?_set_self, List.set_set, cnE, cnV, Try.ntmps120, Try.results120,  hM.cn, c1, c2, s1, s2, t1, t2, hmle])
        refine DrawQ.any2 [([0, 1, 2, 3, 4, 5], 6, []), ([7, 8, 9], 10, [9])] [11] [9] (by kernel_rfl) ?_
        have qu := gUpV_eq (n := v.sh.length) (by omega)
        have qr := gRev_eq (l := upV v.sh.length) (by rw [upV_len]; omega)
        repeat' (first | with_reducible first | refine kI (by kernel_rfl) ?_ | (first | refine kB1 ?_ ?_ | refine kB2 ?_ ?_) <;> intro hp | (first | refine kD1 ?_ ?_ | refine kD2 ?_ ?_ | refine kS1 ?_ ?_ | refine kS2 ?_ ?_) <;> intro hp <;> try simp only [hp] | simp -implicitDefEqProofs (disch := omega) only [go_sem, Nat.reduceAdd, Nat.reduceSub, reduceCtorEq, Nat.reduceLT, Nat.reduceLeDiff, Nat.reduceEqDiff, Nat.reduceMul, Int.reduceToNat, ↓reduceIte, List.take_of_length_le, if_pos, if_neg, List.getElem?_set_self, List.set_set, cnE, cnV, Try.ntmps120, Try.results120,  hM.cn, c1, c2, s1, s2, t1, t2, hmle, hu, qu, hr, qr, h6, opQ_none])
        refine InlK_intro rfl rfl can_PermuteDims ((frz_md (hV.per v (upV v.sh.length).reverse ⟨g2, by omega⟩ (by omega) (by rw [List.length_reverse, upV_len]; omega)) _ _ (by simp only [go_sem, ints, s2])).mono ?_)
        rintro r L1 ho
        rw [hM.len'] at ho
        rcases ho with ⟨ho, rfl, rfl⟩ | ⟨w, ho, rfl, rfl⟩
        · repeat' (first | with_reducible first | refine kI (by kernel_rfl) ?_ | (first | refine kB1 ?_ ?_ | refine kB2 ?_ ?_) <;> intro hp | (first | refine kD1 ?_ ?_ | refine kD2 ?_ ?_ | refine kS1 ?_ ?_ | refine kS2 ?_ ?_) <;> intro hp <;> try simp only [hp] | simp -implicitDefEqProofs (disch := omega) only [go_sem, Nat.reduceAdd, Nat.reduceSub, reduceCtorEq, Nat.reduceLT, Nat.reduceLeDiff, Nat.reduceEqDiff, Nat.reduceMul, Int.reduceToNat, ↓reduceIte, List.take_of_length_le, if_pos, if_neg, List.getElem?_set_self, List.set_set, cnE, cnV, Try.ntmps120, Try.results120,  hM.cn, c1, c2, s1, s2, t1, t2, hmle, hv, hwj])
          exact ⟨2 * j, by omega, hI0 _ _ ⟨j, v, i, B, Y ++ [_], _, (), mixJ (by rfl) (by rw [← e1, List.append_assoc]; rfl), by omega, g2, g3, gi_app _ g4, by omega, by omega, rfl⟩⟩
        · have hw := perD_ok ho
          have hw' := viewOK_iff.1 hw
          have hw4 := (shape_facts hw'.1).1
          have hw5 := hw'.2.1
          clear hw'
          have qw := gValidV_eq (v := w) ⟨by omega, by omega⟩
          rw [hw] at qw
          repeat' (first | with_reducible first | refine kI (by kernel_rfl) ?_ | (first | refine kB1 ?_ ?_ | refine kB2 ?_ ?_) <;> intro hp | (first | refine kD1 ?_ ?_ | refine kD2 ?_ ?_ | refine kS1 ?_ ?_ | refine kS2 ?_ ?_) <;> intro hp <;> try simp only [hp] | simp -implicitDefEqProofs (disch := omega) only [go_sem, Nat.reduceAdd, Nat.reduceSub, reduceCtorEq, Nat.reduceLT, Nat.reduceLeDiff, Nat.reduceEqDiff, Nat.reduceMul, Int.reduceToNat, ↓reduceIte, List.take_of_length_le, if_pos, if_neg, List.getElem?_set_self, List.set_set, cnE, cnV, Try.ntmps120, Try.results120,  hM.cn, c1, c2, s1, s2, t1, t2, hmle, hv, qw, hwj])
          exact ⟨2 * j, by omega, hI0 _ _ ⟨j, w, Y.length + 4, B, Y ++ [_, stB w.st], _, (), mixJ (by rfl) (by rw [← hmi]), by omega, hw4, hw5, gi_new _ _ _ _ _ _, by omega, by omega, rfl⟩⟩
      · repeat' (first | with_reducible first | refine kI (by kernel_rfl) ?_ | (first | refine kB1 ?_ ?_ | refine kB2 ?_ ?_) <;> intro hp | (first | refine kD1 ?_ ?_ | refine kD2 ?_ ?_ | refine kS1 ?_ ?_ | refine kS2 ?_ ?_) <;> intro hp <;> try simp only [hp] | simp -implicitDefEqProofs (disch := omega) only [go_sem, Nat.reduceAdd, Nat.reduceSub, reduceCtorEq, Nat.reduceLT, Nat.reduceLeDiff, Nat.reduceEqDiff, Nat.reduceMul, Int.reduceToNat, ↓reduceIte, List.take_of_length_le, if_pos, if_neg, List.getElem?_set_self, List.set_set, cnE, cnV, Try.ntmps120, Try.results120,  hM.cn, c1, c2, s1, s2, t1, t2, hmle])
        refine DrawQ.any2 [([0, 1, 2], 3, [0, 1]), ([4], 5, [0, 1]), ([6, 7, 8], 9, [0, 1, 8])] [10] [0, 1, 8] (by kernel_rfl) ?_
        repeat' (first | with_reducible first | refine kI (by kernel_rfl) ?_ | (first | refine kB1 ?_ ?_ | refine kB2 ?_ ?_) <;> intro hp | (first | refine kD1 ?_ ?_ | refine kD2 ?_ ?_ | refine kS1 ?_ ?_ | refine kS2 ?_ ?_) <;> intro hp <;> try simp only [hp] | simp -implicitDefEqProofs (disch := omega) only [go_sem, Nat.reduceAdd, Nat.reduceSub, reduceCtorEq, Nat.reduceLT, Nat.reduceLeDiff, Nat.reduceEqDiff, Nat.reduceMul, Int.reduceToNat, ↓reduceIte, List.take_of_length_le, if_pos, if_neg, List.getElem?_set_self, List.set_set, cnE, cnV, Try.ntmps120, Try.results120,  hM.cn, c1, c2, s1, s2, t1, t2, hmle, h0, opQ_none])
        refine InlK_intro rfl rfl can_pick ((isp_pick hS (hM.app _) hb _ (by omega) 3 (by omega)).mono ?_)
        rintro r L1 ⟨sz, rfl, k10, k11, rfl⟩
        have hsz : IntKind.i64.wrap (1 + sz) = 1 + sz := wrap_in (by omega)
        repeat' (first | with_reducible first | refine kI (by kernel_rfl) ?_ | (first | refine kB1 ?_ ?_ | refine kB2 ?_ ?_) <;> intro hp | (first | refine kD1 ?_ ?_ | refine kD2 ?_ ?_ | refine kS1 ?_ ?_ | refine kS2 ?_ ?_) <;> intro hp <;> try simp only [hp] | simp -implicitDefEqProofs (disch := omega) only [go_sem, Nat.reduceAdd, Nat.reduceSub, reduceCtorEq, Nat.reduceLT, Nat.reduceLeDiff, Nat.reduceEqDiff, Nat.reduceMul, Int.reduceToNat, ↓reduceIte, List.take_of_length_le, if_pos, if_neg, List.getElem?_set_self, List.set_set, cnE, cnV, Try.ntmps120, Try.results120,  hM.cn, c1, c2, s1, s2, t1, t2, hmle, hsz, h7, opQ_none])
        refine InlK_intro rfl rfl can_WindowsOf ((frz_md (hV.win v d (1 + sz) ⟨g2, by omega⟩ hd) _ _ (by simp only [go_sem, ints, s2])).mono ?_)
        rintro r L1 ho
        rw [hM.len'] at ho
        rcases ho with ⟨ho, rfl, rfl⟩ | ⟨w, ho, rfl, rfl⟩
        · repeat' (first | with_reducible first | refine kI (by kernel_rfl) ?_ | (first | refine kB1 ?_ ?_ | refine kB2 ?_ ?_) <;> intro hp | (first | refine kD1 ?_ ?_ | refine kD2 ?_ ?_ | refine kS1 ?_ ?_ | refine kS2 ?_ ?_) <;> intro hp <;> try simp only [hp] | simp -implicitDefEqProofs (disch := omega) only [go_sem, Nat.reduceAdd, Nat.reduceSub, reduceCtorEq, Nat.reduceLT, Nat.reduceLeDiff, Nat.reduceEqDiff, Nat.reduceMul, Int.reduceToNat, ↓reduceIte, List.take_of_length_le, if_pos, if_neg, List.getElem?_set_self, List.set_set, cnE, cnV, Try.ntmps120, Try.results120,  hM.cn, c1, c2, s1, s2, t1, t2, hmle, hv, hwj])
          exact ⟨2 * j, by omega, hI0 _ _ ⟨j, v, i, B, Y ++ [_], _, (), mixJ (by rfl) (by rw [← e1, List.append_assoc]; rfl), by omega, g2, g3, gi_app _ g4, by omega, by omega, rfl⟩⟩
        · have hw := winF_ok ho
          have hw' := viewOK_iff.1 hw
          have hw4 := (shape_facts hw'.1).1
          have hw5 := hw'.2.1
          clear hw'
          have qw := gValidV_eq (v := w) ⟨by omega, by omega⟩
          rw [hw] at qw
          repeat' (first | with_reducible first | refine kI (by kernel_rfl) ?_ | (first | refine kB1 ?_ ?_ | refine kB2 ?_ ?_) <;> intro hp | (first | refine kD1 ?_ ?_ | refine kD2 ?_ ?_ | refine kS1 ?_ ?_ | refine kS2 ?_ ?_) <;> intro hp <;> try simp only [hp] | simp -implicitDefEqProofs (disch := omega) only [go_sem, Nat.reduceAdd, Nat.reduceSub, reduceCtorEq, Nat.reduceLT, Nat.reduceLeDiff, Nat.reduceEqDiff, Nat.reduceMul, Int.reduceToNat, ↓reduceIte, List.take_of_length_le, if_pos, if_neg, List.getElem?_set_self, List.set_set, cnE, cnV, Try.ntmps120, Try.results120,  hM.cn, c1, c2, s1, s2, t1, t2, hmle, hv, qw, hwj])
          exact ⟨2 * j, by omega, hI0 _ _ ⟨j, w, Y.length + 4, B, Y ++ [_, stB w.st], _, (), mixJ (by rfl) (by rw [← hmi]), by omega, hw4, hw5, gi_new _ _ _ _ _ _, by omega, by omega, rfl⟩⟩
      · repeat' (first | with_reducible first | refine kI (by kernel_rfl) ?_ | (first | refine kB1 ?_ ?_ | refine kB2 ?_ ?_) <;> intro hp | (first | refine kD1 ?_ ?_ | refine kD2 ?_ ?_ | refine kS1 ?_ ?_ | refine kS2 ?_ ?_) <;> intro hp <;> try simp only [hp] | simp -implicitDefEqProofs (disch := omega) only [go_sem, Nat.reduceAdd, Nat.reduceSub, reduceCtorEq, Nat.reduceLT, Nat.reduceLeDiff, Nat.reduceEqDiff, Nat.reduceMul, Int.reduceToNat, ↓reduceIte, List.take_of_length_le, if_pos, if_neg, List.getElem?_set_self, List.set_set, cnE, cnV, Try.ntmps120, Try.results120,  hM.cn, c1, c2, s1, s2, t1, t2, hmle, h8, opQ_none])
        refine InlK_intro rfl rfl can_AddDim ((frz_md (hV.add v d ⟨g2, by omega⟩ hd) _ _ (by simp only [go_sem, ints, s2])).mono ?_)
        rintro r L1 ho
        rw [hM.len'] at ho
        rcases ho with ⟨ho, rfl, rfl⟩ | ⟨w, ho, rfl, rfl⟩
        · repeat' (first | with_reducible first | refine kI (by kernel_rfl) ?_ | (first | refine kB1 ?_ ?_ | refine kB2 ?_ ?_) <;> intro hp | (first | refine kD1 ?_ ?_ | refine kD2 ?_ ?_ | refine kS1 ?_ ?_ | refine kS2 ?_ ?_) <;> intro hp <;> try simp only [hp] | simp -implicitDefEqProofs (disch := omega) only [go_sem, Nat.reduceAdd, Nat.reduceSub, reduceCtorEq, Nat.reduceLT, Nat.reduceLeDiff, Nat.reduceEqDiff, Nat.reduceMul, Int.reduceToNat, ↓reduceIte, List.take_of_length_le, if_pos, if_neg, List.getElem?_set_self, List.set_set, cnE, cnV, Try.ntmps120, Try.results120,  hM.cn, c1, c2, s1, s2, t1, t2, hmle, hv, hwj])
          exact ⟨2 * j, by omega, hI0 _ _ ⟨j, v, i, B, Y ++ [_], _, (), mixJ (by rfl) (by rw [← e1, List.append_assoc]; rfl), by omega, g2, g3, gi_app _ g4, by omega, by omega, rfl⟩⟩
        · have hw := addF_ok ho
          have hw' := viewOK_iff.1 hw
          have hw4 := (shape_facts hw'.1).1
          have hw5 := hw'.2.1
          clear hw'
          have qw := gValidV_eq (v := w) ⟨by omega, by omega⟩
          rw [hw] at qw
          repeat' (first | with_reducible first | refine kI (by kernel_rfl) ?_ | (first | refine kB1 ?_ ?_ | refine kB2 ?_ ?_) <;> intro hp | (first | refine kD1 ?_ ?_ | refine kD2 ?_ ?_ | refine kS1 ?_ ?_ | refine kS2 ?_ ?_) <;> intro hp <;> try simp only [hp] | simp -implicitDefEqProofs (disch := omega) only [go_sem, Nat.reduceAdd, Nat.reduceSub, reduceCtorEq, Nat.reduceLT, Nat.reduceLeDiff, Nat.reduceEqDiff, Nat.reduceMul, Int.reduceToNat, ↓reduceIte, List.take_of_length_le, if_pos, if_neg, List.getElem?_set_self, List.set_set, cnE, cnV, Try.ntmps120, Try.results120,  hM.cn, c1, c2, s1, s2, t1, t2, hmle, hv, qw, hwj])
          exact ⟨2 * j, by omega, hI0 _ _ ⟨j, w, Y.length + 4, B, Y ++ [_, stB w.st], _, (), mixJ (by rfl) (by rw [← hmi]), by omega, hw4, hw5, gi_new _ _ _ _ _ _, by omega, by omega, rfl⟩⟩
      · repeat' (first | with_reducible first | refine kI (by kernel_rfl) ?_ | (first | refine kB1 ?_ ?_ | refine kB2 ?_ ?_) <;> intro hp | (first | refine kD1 ?_ ?_ | refine kD2 ?_ ?_ | refine kS1 ?_ ?_ | refine kS2 ?_ ?_) <;> intro hp <;> try simp only [hp] | simp -implicitDefEqProofs (disch := omega) only [go_sem, Nat.reduceAdd, Nat.reduceSub, reduceCtorEq, Nat.reduceLT, Nat.reduceLeDiff, Nat.reduceEqDiff, Nat.reduceMul, Int.reduceToNat, ↓reduceIte, List.take_of_length_le, if_pos, if_neg, List.getElem?_set_self, List.set_set, cnE, cnV, Try.ntmps120, Try.results120,  hM.cn, c1, c2, s1, s2, t1, t2, hmle, h9, opQ_none])
        refine InlK_intro rfl rfl can_copyView ((frz_cv (hV.cpy v ⟨by omega, by omega⟩) _ _ (by simp only [go_sem, ints, s2])).mono ?_)
        rintro r L1 ho
        rw [hM.len'] at ho
        obtain ⟨rfl, rfl⟩ := ho
        repeat' (first | with_reducible first | refine kI (by kernel_rfl) ?_ | (first | refine kB1 ?_ ?_ | refine kB2 ?_ ?_) <;> intro hp | (first | refine kD1 ?_ ?_ | refine kD2 ?_ ?_ | refine kS1 ?_ ?_ | refine kS2 ?_ ?_) <;> intro hp <;> try simp only [hp] | simp -implicitDefEqProofs (disch := omega) only [go_sem, Nat.reduceAdd, Nat.reduceSub, reduceCtorEq, Nat.reduceLT, Nat.reduceLeDiff, Nat.reduceEqDiff, Nat.reduceMul, Int.reduceToNat, ↓reduceIte, List.take_of_length_le, if_pos, if_neg, List.getElem?_set_self, List.set_set, cnE, cnV, Try.ntmps120, Try.results120,  hM.cn, c1, c2, s1, s2, t1, t2, hmle])
        refine DrawQ.any [([0, 1, 2, 3, 4], 5), ([6], 7)] [] [0, 1, 2] (by kernel_rfl) ?_
        repeat' (first | with_reducible first | refine kI (by kernel_rfl) ?_ | (first | refine kB1 ?_ ?_ | refine kB2 ?_ ?_) <;> intro hp | (first | refine kD1 ?_ ?_ | refine kD2 ?_ ?_ | refine kS1 ?_ ?_ | refine kS2 ?_ ?_) <;> intro hp <;> try simp only [hp] | simp -implicitDefEqProofs (disch := omega) only [go_sem, Nat.reduceAdd, Nat.reduceSub, reduceCtorEq, Nat.reduceLT, Nat.reduceLeDiff, Nat.reduceEqDiff, Nat.reduceMul, Int.reduceToNat, ↓reduceIte, List.take_of_length_le, if_pos, if_neg, List.getElem?_set_self, List.set_set, cnE, cnV, Try.ntmps120, Try.results120,  hM.cn, c1, c2, s1, s2, t1, t2, hmle, h1, opQ_none])
        refine InlK_intro rfl rfl can_one ((isp_one hS h0 (hM.app _) hb _ (by omega) 2 [0, 2, 3, 1, -1, 5] (by decide)).mono ?_)
        rintro r L1 ⟨x, rfl, -, rfl⟩
        have hds : d < v.st.length := by omega
        have qw := gValidV_eq (v := ⟨v.b, v.sh, v.st.set d x⟩) ⟨by dsimp only; omega, by dsimp only; rw [List.length_set]; omega⟩
        have htk2 : List.take v.st.length (v.st.set d x) = v.st.set d x := List.take_of_length_le (by simp)
        have hls : (v.st.set d x).length = v.st.length := List.length_set
        cases e : viewOK ⟨v.b, v.sh, v.st.set d x⟩ with
        | false =>
          rw [e] at qw
          repeat' (first | with_reducible first | refine kI (by kernel_rfl) ?_ | (first | refine kB1 ?_ ?_ | refine kB2 ?_ ?_) <;> intro hp | (first | refine kD1 ?_ ?_ | refine kD2 ?_ ?_ | refine kS1 ?_ ?_ | refine kS2 ?_ ?_) <;> intro hp <;> try simp only [hp] | simp -implicitDefEqProofs (disch := omega) only [go_sem, Nat.reduceAdd, Nat.reduceSub, reduceCtorEq, Nat.reduceLT, Nat.reduceLeDiff, Nat.reduceEqDiff, Nat.reduceMul, Int.reduceToNat, ↓reduceIte, List.take_of_length_le, if_pos, if_neg, List.getElem?_set_self, List.set_set, cnE, cnV, Try.ntmps120, Try.results120,  hM.cn, c1, c2, s1, s2, t1, t2, hmle, map_setI, htk2, hv, qw, hwj])
          exact ⟨2 * j, by omega, hI0 _ _ ⟨j, v, i, B, Y ++ [_, _], _, (), mixJ (by rfl) (by rw [← e1, List.append_assoc]; rfl), by omega, g2, g3, gi_app _ g4, by omega, by omega, rfl⟩⟩
        | true =>
          rw [e] at qw
          repeat' (first | with_reducible first | refine kI (by kernel_rfl) ?_ | (first | refine kB1 ?_ ?_ | refine kB2 ?_ ?_) <;> intro hp | (first | refine kD1 ?_ ?_ | refine kD2 ?_ ?_ | refine kS1 ?_ ?_ | refine kS2 ?_ ?_) <;> intro hp <;> try simp only [hp] | simp -implicitDefEqProofs (disch := omega) only [go_sem, Nat.reduceAdd, Nat.reduceSub, reduceCtorEq, Nat.reduceLT, Nat.reduceLeDiff, Nat.reduceEqDiff, Nat.reduceMul, Int.reduceToNat, ↓reduceIte, List.take_of_length_le, if_pos, if_neg, List.getElem?_set_self, List.set_set, cnE, cnV, Try.ntmps120, Try.results120,  hM.cn, c1, c2, s1, s2, t1, t2, hmle, map_setI, htk2, hv, qw, hwj])
          exact ⟨2 * j, by omega, hI0 _ _ ⟨j, ⟨v.b, v.sh, v.st.set d x⟩, Y.length + 4, B, Y ++ [_, stB (v.st.set d x)], _, (), mixJ (by rfl) (by rw [← hmi]; simp only [viS, hls]; rfl), by omega, g2, by dsimp only; omega, gi_new _ _ _ _ _ _, by omega, by omega, rfl⟩⟩
end Go.Proofs.Ytgpflkmelindfaa
