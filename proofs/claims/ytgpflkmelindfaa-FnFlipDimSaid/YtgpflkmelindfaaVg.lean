/- Contracts of functions that the laws of this seat call. -/
import Derived.Test.YtgpflkmelindfaaVf
set_option linter.all false
namespace Go.Proofs.Ytgpflkmelindfaa
open Go Go.Ev Go.RowKit Go.Ev.Enc Go.Pl

theorem can_cutDim : CanCall Try.prog 94 := ⟨_, Try.func94, rfl, rfl⟩
theorem can_made : CanCall Try.prog 93 := ⟨_, Try.func93, rfl, rfl⟩
def CutV : Prop := ∀ (v : Vi) (d : Nat) (s : Sl), v.sh.length ≤ 1000 ∧ v.st.length = v.sh.length → d < v.sh.length → 0 ≤ v.sh.getD d 0 ∧ v.sh.getD d 0 ≤ 100 → slB s → OSpec Try.prog 94 [.agg [i64 v.b, ints 0 v.sh, ints 0 v.st], i64 (d : Nat), slA s] (fun n => viA n (n + 1) (cutF v d s)) (fun _ => viN (cutF v d s))
def MadeV : Prop := ∀ v : Vi, viM v → OSpec Try.prog 93 [.agg [i64 v.b, ints 0 v.sh, ints 0 v.st]] (mdR (madeF v)) (mdN (madeF v))
theorem madeF_ok {v w : Vi} (h : madeF v = some w) : viewOK w = true := by
  unfold madeF at h
  split at h
  · cases h; assumption
  · cases h
theorem tidyF_len (v : Vi) : (tidyF v).sh.length = v.sh.length ∧ ((tidyF v).st.length = v.sh.length ∨ (tidyF v).st.length = v.st.length) := by
  unfold tidyF
  split <;> simp
theorem cutF_len (v : Vi) (d : Nat) (s : Sl) : (cutF v d s).sh.length = v.sh.length ∧ ((cutF v d s).st.length = v.sh.length ∨ (cutF v d s).st.length = v.st.length) := by
  have := tidyF_len (cutG v d (nrmF (indF (v.sh.getD d 0) s)))
  unfold cutF
  simp only [cutG, List.length_set] at this ⊢
  exact this
def sliF (v : Vi) (d : Int) (s : Sl) : Option Vi := if viewOK v = true ∧ inR d 0 (v.sh.length - 1) = true ∧ slOK s = true then madeF (cutF v d.toNat s) else none
theorem dim_at {v : Vi} (h : viewOK v = true) {d : Nat} (hd : d < v.sh.length) : 0 ≤ v.sh.getD d 0 ∧ v.sh.getD d 0 ≤ 100 := by
  obtain ⟨h1, _⟩ := viewOK_iff.1 h
  have := (shape_facts h1).2.1 _ (gmem hd)
  omega
theorem can_SliceDim : CanCall Try.prog 41 := ⟨_, Try.func41, rfl, rfl⟩
set_option maxHeartbeats 4000000 in
set_option maxRecDepth 100000 in
theorem o_SliceDim {Sg : FuncId → Option (List AV → Option AV)} (hS : Sound Try.prog Sg) (hv : Sg 69 = some (F1 gValidV)) (hi : Sg 91 = some (F2 gIsDim)) (hl : Sg 92 = some (F1 gValidSl)) (n1 : Sg 94 = none) (n2 : Sg 93 = none) (v : Vi) (d : Int) (s : Sl) (h : v.sh.length ≤ 4 ∧ v.st.length ≤ 5) (hcut : CutV) (hmade : MadeV) : OSpec Try.prog 41 [.agg [i64 v.b, ints 0 v.sh, ints 0 v.st], i64 d, slA s] (mdR (sliF v d s)) (mdN (sliF v d s)) := by
  refine OSpec.intro Try.func41 rfl (vc3_sound Try.pf hS hS _ _ _ ?_)
  have q1 := gValidV_eq (v := v) ⟨by omega, by omega⟩
  have q2 := gIsDim_eq (v := v) (by omega) d
  have q3 := gValidSl_eq s
  unfold sliF
  cases e1 : viewOK v with
  | false =>
    rw [e1] at q1
    repeat' (first | with_reducible first | refine kI (by kernel_rfl) ?_ | (first | refine kB1 ?_ ?_ | refine kB2 ?_ ?_) <;> intro hp | (first | refine kD1 ?_ ?_ | refine kD2 ?_ ?_ | refine kS1 ?_ ?_ | refine kS2 ?_ ?_) <;> intro hp <;> try simp only [hp] | simp -implicitDefEqProofs (disch := omega) only [go_sem, Nat.reduceAdd, Nat.reduceSub, reduceCtorEq, Nat.reduceLT, Nat.reduceLeDiff, Nat.reduceEqDiff, Nat.reduceMul, Int.reduceToNat, ↓reduceIte, List.take_of_length_le, if_pos, if_neg, List.getElem?_set_self, List.set_set, cnE, cnV, Try.ntmps41, Try.results41,  hv, q1])
    exact own_md0
  | true =>
    rw [e1] at q1
    cases e0 : inR d 0 (v.sh.length - 1) with
    | false =>
      rw [e0] at q2
      repeat' (first | with_reducible first | refine kI (by kernel_rfl) ?_ | (first | refine kB1 ?_ ?_ | refine kB2 ?_ ?_) <;> intro hp | (first | refine kD1 ?_ ?_ | refine kD2 ?_ ?_ | refine kS1 ?_ ?_ | refine kS2 ?_ ?_) <;> intro hp <;> try simp only [hp] | simp -implicitDefEqProofs (disch := omega) only [go_sem, Nat.reduceAdd, Nat.reduceSub, reduceCtorEq, Nat.reduceLT, Nat.reduceLeDiff, Nat.reduceEqDiff, Nat.reduceMul, Int.reduceToNat, ↓reduceIte, List.take_of_length_le, if_pos, if_neg, List.getElem?_set_self, List.set_set, cnE, cnV, Try.ntmps41, Try.results41,  hv, q1, hi, q2])
      exact own_md0
    | true =>
      rw [e0] at q2
      cases e2 : slOK s with
      | false =>
        rw [e2] at q3
        repeat' (first | with_reducible first | refine kI (by kernel_rfl) ?_ | (first | refine kB1 ?_ ?_ | refine kB2 ?_ ?_) <;> intro hp | (first | refine kD1 ?_ ?_ | refine kD2 ?_ ?_ | refine kS1 ?_ ?_ | refine kS2 ?_ ?_) <;> intro hp <;> try simp only [hp] | simp -implicitDefEqProofs (disch := omega) only [go_sem, Nat.reduceAdd, Nat.reduceSub, reduceCtorEq, Nat.reduceLT, Nat.reduceLeDiff, Nat.reduceEqDiff, Nat.reduceMul, Int.reduceToNat, ↓reduceIte, List.take_of_length_le, if_pos, if_neg, List.getElem?_set_self, List.set_set, cnE, cnV, Try.ntmps41, Try.results41,  hv, q1, hi, q2, hl, q3])
        exact own_md0
      | true =>
        rw [e2] at q3
        obtain ⟨k1, k2, _⟩ := viewOK_iff.1 e1
        unfold inR at e0
        simp only [Bool.and_eq_true, decide_eq_true_eq] at e0
        obtain ⟨d, rfl⟩ : ∃ m : Nat, d = m := ⟨d.toNat, by omega⟩
        have hd : d < v.sh.length := by omega
        clear e0
        repeat' (first | with_reducible first | refine kI (by kernel_rfl) ?_ | (first | refine kB1 ?_ ?_ | refine kB2 ?_ ?_) <;> intro hp | (first | refine kD1 ?_ ?_ | refine kD2 ?_ ?_ | refine kS1 ?_ ?_ | refine kS2 ?_ ?_) <;> intro hp <;> try simp only [hp] | simp -implicitDefEqProofs (disch := omega) only [go_sem, Nat.reduceAdd, Nat.reduceSub, reduceCtorEq, Nat.reduceLT, Nat.reduceLeDiff, Nat.reduceEqDiff, Nat.reduceMul, Int.reduceToNat, ↓reduceIte, List.take_of_length_le, if_pos, if_neg, List.getElem?_set_self, List.set_set, cnE, cnV, Try.ntmps41, Try.results41,  hv, q1, hi, q2, hl, q3, n1, opQ_none])
        refine InlK_intro rfl rfl can_cutDim ((hcut v d s ⟨by omega, k2⟩ hd (dim_at e1 hd) (slOK_b e2)).call (by simp only [go_sem, ints]) ?_)
        repeat' (first | with_reducible first | refine kI (by kernel_rfl) ?_ | (first | refine kB1 ?_ ?_ | refine kB2 ?_ ?_) <;> intro hp | (first | refine kD1 ?_ ?_ | refine kD2 ?_ ?_ | refine kS1 ?_ ?_ | refine kS2 ?_ ?_) <;> intro hp <;> try simp only [hp] | simp -implicitDefEqProofs (disch := omega) only [go_sem, Nat.reduceAdd, Nat.reduceSub, reduceCtorEq, Nat.reduceLT, Nat.reduceLeDiff, Nat.reduceEqDiff, Nat.reduceMul, Int.reduceToNat, ↓reduceIte, List.take_of_length_le, if_pos, if_neg, List.getElem?_set_self, List.set_set, cnE, cnV, Try.ntmps41, Try.results41,  n2, opQ_none])
        have hcl := cutF_len v d s
        obtain ⟨w, hw⟩ : ∃ w, cutF v d s = w := ⟨_, rfl⟩
        rw [hw] at hcl ⊢
        refine InlK_intro rfl rfl can_made ((hmade w ⟨by omega, by omega⟩).call (by simp only [go_sem, ints]) ?_)
        cases e3 : madeF w with
        | none =>
          repeat' (first | with_reducible first | refine kI (by kernel_rfl) ?_ | (first | refine kB1 ?_ ?_ | refine kB2 ?_ ?_) <;> intro hp | (first | refine kD1 ?_ ?_ | refine kD2 ?_ ?_ | refine kS1 ?_ ?_ | refine kS2 ?_ ?_) <;> intro hp <;> try simp only [hp] | simp -implicitDefEqProofs (disch := omega) only [go_sem, Nat.reduceAdd, Nat.reduceSub, reduceCtorEq, Nat.reduceLT, Nat.reduceLeDiff, Nat.reduceEqDiff, Nat.reduceMul, Int.reduceToNat, ↓reduceIte, List.take_of_length_le, if_pos, if_neg, List.getElem?_set_self, List.set_set, cnE, cnV, Try.ntmps41, Try.results41,  mdR, mdN])
          exact own_md0
        | some u =>
          repeat' (first | with_reducible first | refine kI (by kernel_rfl) ?_ | (first | refine kB1 ?_ ?_ | refine kB2 ?_ ?_) <;> intro hp | (first | refine kD1 ?_ ?_ | refine kD2 ?_ ?_ | refine kS1 ?_ ?_ | refine kS2 ?_ ?_) <;> intro hp <;> try simp only [hp] | simp -implicitDefEqProofs (disch := omega) only [go_sem, Nat.reduceAdd, Nat.reduceSub, reduceCtorEq, Nat.reduceLT, Nat.reduceLeDiff, Nat.reduceEqDiff, Nat.reduceMul, Int.reduceToNat, ↓reduceIte, List.take_of_length_le, if_pos, if_neg, List.getElem?_set_self, List.set_set, cnE, cnV, Try.ntmps41, Try.results41,  mdR, mdN])
          exact own_md (b := 5) (c := 6) rfl rfl (by decide)
def SliV : Prop := ∀ (v : Vi) (d : Int) (s : Sl), v.sh.length ≤ 4 ∧ v.st.length ≤ 5 → OSpec Try.prog 41 [.agg [i64 v.b, ints 0 v.sh, ints 0 v.st], i64 d, slA s] (mdR (sliF v d s)) (mdN (sliF v d s))
def flipS : Sl := ⟨0, 0, -1, false, false⟩
set_option maxHeartbeats 4000000 in
set_option maxRecDepth 100000 in
theorem o_FlipDim {Sg : FuncId → Option (List AV → Option AV)} (hS : Sound Try.prog Sg) (n1 : Sg 41 = none) (v : Vi) (d : Int) (h : v.sh.length ≤ 4 ∧ v.st.length ≤ 5) (hsl : SliV) : OSpec Try.prog 11 [.agg [i64 v.b, ints 0 v.sh, ints 0 v.st], i64 d] (mdR (sliF v d flipS)) (mdN (sliF v d flipS)) := by
  refine OSpec.intro Try.func11 rfl (vc3_sound Try.pf hS hS _ _ _ ?_)
  repeat' (first | with_reducible first | refine kI (by kernel_rfl) ?_ | (first | refine kB1 ?_ ?_ | refine kB2 ?_ ?_) <;> intro hp | (first | refine kD1 ?_ ?_ | refine kD2 ?_ ?_ | refine kS1 ?_ ?_ | refine kS2 ?_ ?_) <;> intro hp <;> try simp only [hp] | simp -implicitDefEqProofs (disch := omega) only [go_sem, Nat.reduceAdd, Nat.reduceSub, reduceCtorEq, Nat.reduceLT, Nat.reduceLeDiff, Nat.reduceEqDiff, Nat.reduceMul, Int.reduceToNat, ↓reduceIte, List.take_of_length_le, if_pos, if_neg, List.getElem?_set_self, List.set_set, cnE, cnV, Try.ntmps11, Try.results11,  n1, opQ_none])
  refine InlK_intro rfl rfl can_SliceDim ((hsl v d flipS h).call (by simp only [go_sem, ints, flipS]) ?_)
  cases e3 : sliF v d flipS with
  | none =>
    repeat' (first | with_reducible first | refine kI (by kernel_rfl) ?_ | (first | refine kB1 ?_ ?_ | refine kB2 ?_ ?_) <;> intro hp | (first | refine kD1 ?_ ?_ | refine kD2 ?_ ?_ | refine kS1 ?_ ?_ | refine kS2 ?_ ?_) <;> intro hp <;> try simp only [hp] | simp -implicitDefEqProofs (disch := omega) only [go_sem, Nat.reduceAdd, Nat.reduceSub, reduceCtorEq, Nat.reduceLT, Nat.reduceLeDiff, Nat.reduceEqDiff, Nat.reduceMul, Int.reduceToNat, ↓reduceIte, List.take_of_length_le, if_pos, if_neg, List.getElem?_set_self, List.set_set, cnE, cnV, Try.ntmps11, Try.results11,  mdR, mdN])
    exact own_md0
  | some u =>
    repeat' (first | with_reducible first | refine kI (by kernel_rfl) ?_ | (first | refine kB1 ?_ ?_ | refine kB2 ?_ ?_) <;> intro hp | (first | refine kD1 ?_ ?_ | refine kD2 ?_ ?_ | refine kS1 ?_ ?_ | refine kS2 ?_ ?_) <;> intro hp <;> try simp only [hp] | simp -implicitDefEqProofs (disch := omega) only [go_sem, Nat.reduceAdd, Nat.reduceSub, reduceCtorEq, Nat.reduceLT, Nat.reduceLeDiff, Nat.reduceEqDiff, Nat.reduceMul, Int.reduceToNat, ↓reduceIte, List.take_of_length_le, if_pos, if_neg, List.getElem?_set_self, List.set_set, cnE, cnV, Try.ntmps11, Try.results11,  mdR, mdN])
    exact own_md (b := 2) (c := 3) rfl rfl (by decide)
/-! ### another order -/
def pkF (e o : List Int) : List Int := o.map fun k => e.getD k.toNat 0
theorem pkF_snoc (e q : List Int) (k : Int) : pkF e (q ++ [k]) = pkF e q ++ [e.getD k.toNat 0] := by simp [pkF]
theorem pkF_len (e o : List Int) : (pkF e o).length = o.length := by simp [pkF]
def perF (v : Vi) (o : List Int) : Vi := ⟨v.b, pkF v.sh o, pkF v.st o⟩
def pB (v : Vi) (o : List Int) (k : Nat) : List Blk :=
  if k = 0 then [⟨3, [.agg [i64 v.b, ints 0 v.sh, ints 0 v.st]]⟩, ⟨3, [.agg [i64 0, .nilS, .nilS]]⟩, ⟨3, [.agg [i64 v.b, .nilS, .nilS]]⟩]
  else [⟨3, [.agg [i64 v.b, ints 0 v.sh, ints 0 v.st]]⟩, ⟨3, [.agg [i64 0, .nilS, .nilS]]⟩, ⟨3, [.agg [i64 v.b, .sl 3 k 0 k k, .sl 4 k 0 k k]]⟩, stB (pkF v.sh (o.take k)), stB (pkF v.st (o.take k))]
theorem pB_0 (v : Vi) (o : List Int) : pB v o 0 = [⟨3, [.agg [i64 v.b, ints 0 v.sh, ints 0 v.st]]⟩, ⟨3, [.agg [i64 0, .nilS, .nilS]]⟩, ⟨3, [.agg [i64 v.b, .nilS, .nilS]]⟩] := if_pos rfl
theorem pB_s (v : Vi) (o : List Int) (k : Nat) : pB v o (k + 1) = [⟨3, [.agg [i64 v.b, ints 0 v.sh, ints 0 v.st]]⟩, ⟨3, [.agg [i64 0, .nilS, .nilS]]⟩, ⟨3, [.agg [i64 v.b, .sl 3 (k + 1) 0 (k + 1) (k + 1), .sl 4 (k + 1) 0 (k + 1) (k + 1)]]⟩, stB (pkF v.sh (o.take (k + 1))), stB (pkF v.st (o.take (k + 1)))] := if_neg (by omega)
theorem take_snocI {o : List Int} {k : Nat} (h : k < o.length) : o.take (k + 1) = o.take k ++ [o.getD k 0] := by
  rw [List.take_succ_eq_append_getElem h]; simp [h]
set_option maxHeartbeats 4000000 in
set_option maxRecDepth 100000 in
theorem o_permuted {Sg : FuncId → Option (List AV → Option AV)} (hS : Sound Try.prog Sg) (v : Vi) (o : List Int) (h : v.sh.length ≤ 4 ∧ v.st.length = v.sh.length) (ho : 0 < o.length ∧ o.length ≤ 1000) (hx : ∀ x ∈ o, 0 ≤ x ∧ x < v.sh.length) : OSpec Try.prog 154 [.agg [i64 v.b, ints 0 v.sh, ints 0 v.st], ints 0 o] (fun n => viA n (n + 1) (perF v o)) (fun _ => viN (perF v o)) := by
  refine OSpec.intro Try.func154 rfl (vc3_sound Try.pf hS hS _ _ _ ?_)
  have hls := pkF_len v.sh o
  have hlt := pkF_len v.st o
  repeat' (first | with_reducible first | refine kI (by kernel_rfl) ?_ | refine kN (by kernel_rfl) ?_ | (first | refine kB1 ?_ ?_ | refine kB2 ?_ ?_) <;> intro hp | (first | refine kD1 ?_ ?_ | refine kD2 ?_ ?_ | refine kS1 ?_ ?_ | refine kS2 ?_ ?_) <;> intro hp <;> try simp only [hp] | simp -implicitDefEqProofs (disch := omega) only [go_sem, Nat.reduceAdd, Nat.reduceSub, reduceCtorEq, Nat.reduceLT, Nat.reduceLeDiff, Nat.reduceEqDiff, Nat.reduceMul, Int.reduceToNat, ↓reduceIte, List.take_of_length_le, if_pos, if_neg, List.getElem?_set_self, List.set_set, cnE, cnV, Try.ntmps154, Try.results154])
  refine LoopQ.mix (fun t0 L0 nn ss => ∃ (k : Nat) (_ : Unit), (∃ x : Nat → AV, ss = ⟨mixL 0 (.k :: .k :: .k :: .k :: .k :: .k :: .v (i64 (k : Nat)) :: .k :: .k :: .k :: .s :: .s :: .s :: .s :: .s :: .s :: .s :: .s :: .s :: .s :: .s :: .s :: .s :: .s :: .s :: .s :: .s :: .s :: .s :: .s :: .s :: .s :: .s :: .s :: .s :: .s :: .s :: .s :: .s :: .s :: .s :: .s :: .k :: []) t0 x, pB v o k⟩) ∧ (k ≤ o.length) ∧ nn = o.length - k) ?_ ?_
  · exact ⟨_, ⟨0, (), mixJ rfl (by rw [pB_0]), Nat.zero_le _, rfl⟩⟩
  · rintro I0 hI0 nn ss ⟨k, _, ⟨y, rfl⟩, m1, rfl⟩
    by_cases hk : k < o.length
    · have hki : (k : Int) < (o.length : Int) := by omega
      have hok := hx _ (gmem hk)
      obtain ⟨j, hj⟩ : ∃ j : Nat, o.getD k 0 = j := ⟨(o.getD k 0).toNat, by omega⟩
      have hjs : j < v.sh.length := by omega
      have hjt : j < v.st.length := by omega
      have hts := take_snocI hk
      rw [hj] at hts
      have h1 : pkF v.sh (o.take (k + 1)) = pkF v.sh (o.take k) ++ [v.sh.getD j 0] := by rw [hts, pkF_snoc, Int.toNat_natCast]
      have h2 : pkF v.st (o.take (k + 1)) = pkF v.st (o.take k) ++ [v.st.getD j 0] := by rw [hts, pkF_snoc, Int.toNat_natCast]
      match k, hk, hki, hj, h1, h2 with
      | 0, hk, hki, hj, h1, h2 =>
        rw [pB_0]
        repeat' (first | with_reducible first | refine kI (by kernel_rfl) ?_ | (first | refine kB1 ?_ ?_ | refine kB2 ?_ ?_) <;> intro hp | (first | refine kD1 ?_ ?_ | refine kD2 ?_ ?_ | refine kS1 ?_ ?_ | refine kS2 ?_ ?_) <;> intro hp <;> try simp only [hp] | simp -implicitDefEqProofs (disch := omega) only [go_sem, Nat.reduceAdd, Nat.reduceSub, reduceCtorEq, Nat.reduceLT, Nat.reduceLeDiff, Nat.reduceEqDiff, Nat.reduceMul, Int.reduceToNat, ↓reduceIte, List.take_of_length_le, if_pos, if_neg, List.getElem?_set_self, List.set_set, cnE, cnV, Try.ntmps154, Try.results154,  hki, hj])
        refine DrawQ.any [([0, 1, 2, 3, 4, 5, 6, 7, 8, 9, 10, 11, 12], 13)] [] [] (by kernel_rfl) ?_
        repeat' (first | with_reducible first | refine kI (by kernel_rfl) ?_ | (first | refine kB1 ?_ ?_ | refine kB2 ?_ ?_) <;> intro hp | (first | refine kD1 ?_ ?_ | refine kD2 ?_ ?_ | refine kS1 ?_ ?_ | refine kS2 ?_ ?_) <;> intro hp <;> try simp only [hp] | simp -implicitDefEqProofs (disch := omega) only [go_sem, Nat.reduceAdd, Nat.reduceSub, reduceCtorEq, Nat.reduceLT, Nat.reduceLeDiff, Nat.reduceEqDiff, Nat.reduceMul, Int.reduceToNat, ↓reduceIte, List.take_of_length_le, if_pos, if_neg, List.getElem?_set_self, List.set_set, cnE, cnV, Try.ntmps154, Try.results154,  hj])
        refine DrawQ.any [([0, 1, 2, 3, 4, 5, 6, 7, 8, 9, 10, 11, 12], 13)] [] [] (by kernel_rfl) ?_
        repeat' (first | with_reducible first | refine kI (by kernel_rfl) ?_ | (first | refine kB1 ?_ ?_ | refine kB2 ?_ ?_) <;> intro hp | (first | refine kD1 ?_ ?_ | refine kD2 ?_ ?_ | refine kS1 ?_ ?_ | refine kS2 ?_ ?_) <;> intro hp <;> try simp only [hp] | simp -implicitDefEqProofs (disch := omega) only [go_sem, Nat.reduceAdd, Nat.reduceSub, reduceCtorEq, Nat.reduceLT, Nat.reduceLeDiff, Nat.reduceEqDiff, Nat.reduceMul, Int.reduceToNat, ↓reduceIte, List.take_of_length_le, if_pos, if_neg, List.getElem?_set_self, List.set_set, cnE, cnV, Try.ntmps154, Try.results154,  hj])
        exact ⟨o.length - (0 + 1), by omega, hI0 _ _ ⟨0 + 1, (), mixJ rfl (by rw [pB_s, h1, h2]; rfl), hk, rfl⟩⟩
      | k + 1, hk, hki, hj, h1, h2 =>
        have l1 : (pkF v.sh (o.take (k + 1))).length = k + 1 := by rw [pkF_len, List.length_take]; omega
        have l2 : (pkF v.st (o.take (k + 1))).length = k + 1 := by rw [pkF_len, List.length_take]; omega
        rw [pB_s]
        repeat' (first | with_reducible first | refine kI (by kernel_rfl) ?_ | (first | refine kB1 ?_ ?_ | refine kB2 ?_ ?_) <;> intro hp | (first | refine kD1 ?_ ?_ | refine kD2 ?_ ?_ | refine kS1 ?_ ?_ | refine kS2 ?_ ?_) <;> intro hp <;> try simp only [hp] | simp -implicitDefEqProofs (disch := omega) only [go_sem, Nat.reduceAdd, Nat.reduceSub, reduceCtorEq, Nat.reduceLT, Nat.reduceLeDiff, Nat.reduceEqDiff, Nat.reduceMul, Int.reduceToNat, ↓reduceIte, List.take_of_length_le, if_pos, if_neg, List.getElem?_set_self, List.set_set, cnE, cnV, Try.ntmps154, Try.results154,  hki, hj])
        refine DrawQ.any [([0, 1, 2, 3, 4, 5, 6, 7, 8, 9, 10, 11, 12], 13)] [] [] (by kernel_rfl) ?_
        repeat' (first | with_reducible first | refine kI (by kernel_rfl) ?_ | (first | refine kB1 ?_ ?_ | refine kB2 ?_ ?_) <;> intro hp | (first | refine kD1 ?_ ?_ | refine kD2 ?_ ?_ | refine kS1 ?_ ?_ | refine kS2 ?_ ?_) <;> intro hp <;> try simp only [hp] | simp -implicitDefEqProofs (disch := omega) only [go_sem, Nat.reduceAdd, Nat.reduceSub, reduceCtorEq, Nat.reduceLT, Nat.reduceLeDiff, Nat.reduceEqDiff, Nat.reduceMul, Int.reduceToNat, ↓reduceIte, List.take_of_length_le, if_pos, if_neg, List.getElem?_set_self, List.set_set, cnE, cnV, Try.ntmps154, Try.results154,  hj])
        refine DrawQ.any [([0, 1, 2, 3, 4, 5, 6, 7, 8, 9, 10, 11, 12], 13)] [] [] (by kernel_rfl) ?_
        repeat' (first | with_reducible first | refine kI (by kernel_rfl) ?_ | (first | refine kB1 ?_ ?_ | refine kB2 ?_ ?_) <;> intro hp | (first | refine kD1 ?_ ?_ | refine kD2 ?_ ?_ | refine kS1 ?_ ?_ | refine kS2 ?_ ?_) <;> intro hp <;> try simp only [hp] | simp -implicitDefEqProofs (disch := omega) only [go_sem, Nat.reduceAdd, Nat.reduceSub, reduceCtorEq, Nat.reduceLT, Nat.reduceLeDiff, Nat.reduceEqDiff, Nat.reduceMul, Int.reduceToNat, ↓reduceIte, List.take_of_length_le, if_pos, if_neg, List.getElem?_set_self, List.set_set, cnE, cnV, Try.ntmps154, Try.results154,  hj])
        exact ⟨o.length - (k + 1 + 1), by omega, hI0 _ _ ⟨k + 1 + 1, (), mixJ rfl (by rw [pB_s, h1, h2]), hk, rfl⟩⟩
    · obtain rfl : k = o.length := by omega
      obtain ⟨k, hk0⟩ : ∃ k, o.length = k + 1 := ⟨o.length - 1, by omega⟩
      rw [hk0, pB_s, ← hk0, List.take_length]
      repeat' (first | with_reducible first | refine kI (by kernel_rfl) ?_ | refine kN (by kernel_rfl) ?_ | (first | refine kB1 ?_ ?_ | refine kB2 ?_ ?_) <;> intro hp | (first | refine kD1 ?_ ?_ | refine kD2 ?_ ?_ | refine kS1 ?_ ?_ | refine kS2 ?_ ?_) <;> intro hp <;> try simp only [hp] | simp -implicitDefEqProofs (disch := omega) only [go_sem, Nat.reduceAdd, Nat.reduceSub, reduceCtorEq, Nat.reduceLT, Nat.reduceLeDiff, Nat.reduceEqDiff, Nat.reduceMul, Int.reduceToNat, ↓reduceIte, List.take_of_length_le, if_pos, if_neg, List.getElem?_set_self, List.set_set, cnE, cnV, Try.ntmps154, Try.results154])
      have := own_vi (v := perF v o) (b := 3) (c := 4) (L := [⟨3, [.agg [i64 v.b, ints 0 v.sh, ints 0 v.st]]⟩, ⟨3, [.agg [i64 v.b, .sl 3 o.length 0 o.length o.length, .sl 4 o.length 0 o.length o.length]]⟩, ⟨3, [.agg [i64 v.b, .sl 3 o.length 0 o.length o.length, .sl 4 o.length 0 o.length o.length]]⟩, stB (pkF v.sh o), stB (pkF v.st o)]) rfl rfl (by decide)
      simp only [viA, perF, hls, hlt] at this ⊢
      exact this
end Go.Proofs.Ytgpflkmelindfaa
