/- Contracts of functions that the laws of this seat call. -/
import Derived.Test.YtkmnepmnjpdpkaaDoorXd
set_option linter.all false
namespace Go.Proofs.YtkmnepmnjpdpkaaDoor
open Go Go.Ev Go.RowKit Go.Ev.Enc Go.Pl

theorem callF {P : Program} {f : FuncId} {args : List AV} {K : AV → List Blk → Prop} (h : ISpec P f args [] K) {L : List Blk} {xs : List AV} {K' : AV → List Blk → Prop} (hx : xs.map (exp 0 L) = args) (hk : ∀ v N, K v N → K' (ownV L.length v) (L ++ N.map (ownB L.length))) : ISpec P f xs L K' :=
  (h.frame hx).mono (by rintro r L' ⟨v0, N0, hK, rfl, rfl⟩; exact hk _ _ hK)
theorem get_fr {N L : List Blk} {b : Nat} {k : Blk} (h : N[b]? = some k) : (L ++ N.map (ownB L.length))[L.length + b]? = some (ownB L.length k) := by
  rw [List.getElem?_append_right (by omega), Nat.add_sub_cancel_left, List.getElem?_map, h]; rfl
theorem get_frs {N L : List Blk} {b : Nat} {l : List Int} (h : N[b]? = some (stB l)) : (L ++ N.map (ownB L.length))[L.length + b]? = some (stB l) := by
  rw [get_fr h]; unfold ownB; rw [List.map_map]; rfl
theorem get_hd {B B' : Blk} {Z : List Blk} {b : Nat} {k : Blk} (hb : 1 ≤ b) (h : (B :: Z)[b]? = some k) : (B' :: Z)[b]? = some k := by
  obtain ⟨c, rfl⟩ : ∃ c, b = c + 1 := ⟨b - 1, by omega⟩
  exact h
def liN (lo : Nat) (M : List Blk) (x : AV) (l : List Int) : Prop := (x = .nilS ∧ l = []) ∨ ∃ b, x = .sl b l.length 0 l.length l.length ∧ M[b]? = some (stB l) ∧ lo ≤ b
theorem liN_mk {M : List Blk} {b n : Nat} {l : List Int} (h1 : l.length = n) (h2 : M[b]? = some (stB l)) : liN 0 M (.sl b n 0 n n) l := by
  subst h1; exact .inr ⟨b, rfl, h2, Nat.zero_le _⟩
theorem liN_frame {N L : List Blk} {x : AV} {l : List Int} (h : liN 0 N x l) : liN L.length (L ++ N.map (ownB L.length)) (ownC L.length x) l := by
  rcases h with ⟨rfl, rfl⟩ | ⟨b, rfl, hb, -⟩
  · exact .inl ⟨rfl, rfl⟩
  · exact .inr ⟨L.length + b, rfl, get_frs hb, by omega⟩
def acK (lo : Nat) (M : List Blk) (p : Ac × Bool) (v : AV) : Prop := ∃ x, v = .tup [.agg [i64 p.1.k, x], .bool p.2] ∧ liN lo M x p.1.n
theorem acK_frame {N L : List Blk} {p : Ac × Bool} {v : AV} (h : acK 0 N p v) : acK L.length (L ++ N.map (ownB L.length)) p (ownV L.length v) := by
  obtain ⟨x, rfl, hx⟩ := h
  exact ⟨_, rfl, liN_frame hx⟩
theorem can_markA : CanCall Tryd.prog 8 := ⟨_, Tryd.func8, rfl, rfl⟩
set_option maxHeartbeats 2000000 in
set_option maxRecDepth 100000 in
theorem isp_markAct {Sg : FuncId → Option (List AV → Option AV)} (hS : Sound Tryd.prog Sg) (hm : Sg 18 = none) (q : Int) (l : List Int) (k : Int) (b : Nat) (L : List Blk) (hb : L[b]? = some (stB l)) (hl : l.length < 4294967296) (hk : 0 ≤ k ∧ k ≤ 100000000000) : ISpec Tryd.prog 8 [.agg [i64 q, .sl b l.length 0 l.length l.length], i64 k] L (fun r L' => r = i64 (k + l.length) ∧ ∃ Y, L' = L.set b (stB (mks k l.length)) ++ Y) := by
  refine ISpec.intro Tryd.func8 rfl (vc_sound Tryd.pf hS _ _ _ ?_)
  have hbl : b < L.length := (List.getElem?_eq_some_iff.1 hb).1
  repeat' (first | with_reducible first | refine kI (by kernel_rfl) ?_ | refine kN (by kernel_rfl) ?_ | (first | refine kB1 ?_ ?_ | refine kB2 ?_ ?_) <;> intro hp | (first | refine kD1 ?_ ?_ | refine kD2 ?_ ?_ | refine kS1 ?_ ?_ | refine kS2 ?_ ?_) <;> intro hp <;> try simp only [hp] | simp -implicitDefEqProofs (disch := omega) only [go_sem, Nat.reduceAdd, Nat.reduceSub, reduceCtorEq, Nat.reduceLT, Nat.reduceLeDiff, Nat.reduceEqDiff, Nat.reduceMul, Int.reduceToNat, ↓reduceIte, List.take_of_length_le, if_pos, if_neg, List.getElem?_set_self, List.set_set, getD_exs, cnE, cnV, Tryd.ntmps8, Tryd.results8,  hm, opQ_none])
  first
  | refine InlK_intro rfl rfl can_markI ((isp_markIntS hS l k b L hb hl (by omega)).mono ?_)
    rintro r L1 ⟨rfl, rfl⟩
    repeat' (first | with_reducible first | refine kI (by kernel_rfl) ?_ | refine kN (by kernel_rfl) ?_ | (first | refine kB1 ?_ ?_ | refine kB2 ?_ ?_) <;> intro hp | (first | refine kD1 ?_ ?_ | refine kD2 ?_ ?_ | refine kS1 ?_ ?_ | refine kS2 ?_ ?_) <;> intro hp <;> try simp only [hp] | simp -implicitDefEqProofs (disch := omega) only [go_sem, Nat.reduceAdd, Nat.reduceSub, reduceCtorEq, Nat.reduceLT, Nat.reduceLeDiff, Nat.reduceEqDiff, Nat.reduceMul, Int.reduceToNat, ↓reduceIte, List.take_of_length_le, if_pos, if_neg, List.getElem?_set_self, List.set_set, getD_exs, cnE, cnV, Tryd.ntmps8, Tryd.results8])
    exact ⟨[], by simp⟩
  | refine InlK_intro rfl rfl can_markI ((isp_markIntS hS l k b _ (by rw [List.getElem?_append_left hbl]; exact hb) hl (by omega)).mono ?_)
    rintro r L1 ⟨rfl, rfl⟩
    rw [List.set_append_left _ _ hbl]
    repeat' (first | with_reducible first | refine kI (by kernel_rfl) ?_ | refine kN (by kernel_rfl) ?_ | (first | refine kB1 ?_ ?_ | refine kB2 ?_ ?_) <;> intro hp | (first | refine kD1 ?_ ?_ | refine kD2 ?_ ?_ | refine kS1 ?_ ?_ | refine kS2 ?_ ?_) <;> intro hp <;> try simp only [hp] | simp -implicitDefEqProofs (disch := omega) only [go_sem, Nat.reduceAdd, Nat.reduceSub, reduceCtorEq, Nat.reduceLT, Nat.reduceLeDiff, Nat.reduceEqDiff, Nat.reduceMul, Int.reduceToNat, ↓reduceIte, List.take_of_length_le, if_pos, if_neg, List.getElem?_set_self, List.set_set, getD_exs, cnE, cnV, Tryd.ntmps8, Tryd.results8])
    exact ⟨_, rfl⟩
set_option maxHeartbeats 2000000 in
set_option maxRecDepth 100000 in
theorem isp_markActZ {Sg : FuncId → Option (List AV → Option AV)} (hS : Sound Tryd.prog Sg) (hm : Sg 18 = none) (q : Int) (k : Int) (L : List Blk) : ISpec Tryd.prog 8 [.agg [i64 q, .nilS], i64 k] L (fun r L' => r = i64 k ∧ ∃ Y, L' = L ++ Y) := by
  refine ISpec.intro Tryd.func8 rfl (vc_sound Tryd.pf hS _ _ _ ?_)
  repeat' (first | with_reducible first | refine kI (by kernel_rfl) ?_ | refine kN (by kernel_rfl) ?_ | (first | refine kB1 ?_ ?_ | refine kB2 ?_ ?_) <;> intro hp | (first | refine kD1 ?_ ?_ | refine kD2 ?_ ?_ | refine kS1 ?_ ?_ | refine kS2 ?_ ?_) <;> intro hp <;> try simp only [hp] | simp -implicitDefEqProofs (disch := omega) only [go_sem, Nat.reduceAdd, Nat.reduceSub, reduceCtorEq, Nat.reduceLT, Nat.reduceLeDiff, Nat.reduceEqDiff, Nat.reduceMul, Int.reduceToNat, ↓reduceIte, List.take_of_length_le, if_pos, if_neg, List.getElem?_set_self, List.set_set, getD_exs, cnE, cnV, Tryd.ntmps8, Tryd.results8,  hm, opQ_none])
  refine InlK_intro rfl rfl can_markI ((isp_markIntZ hS k _).mono ?_)
  rintro r L1 ⟨rfl, rfl⟩
  repeat' (first | with_reducible first | refine kI (by kernel_rfl) ?_ | refine kN (by kernel_rfl) ?_ | (first | refine kB1 ?_ ?_ | refine kB2 ?_ ?_) <;> intro hp | (first | refine kD1 ?_ ?_ | refine kD2 ?_ ?_ | refine kS1 ?_ ?_ | refine kS2 ?_ ?_) <;> intro hp <;> try simp only [hp] | simp -implicitDefEqProofs (disch := omega) only [go_sem, Nat.reduceAdd, Nat.reduceSub, reduceCtorEq, Nat.reduceLT, Nat.reduceLeDiff, Nat.reduceEqDiff, Nat.reduceMul, Int.reduceToNat, ↓reduceIte, List.take_of_length_le, if_pos, if_neg, List.getElem?_set_self, List.set_set, getD_exs, cnE, cnV, Tryd.ntmps8, Tryd.results8])
  first | exact ⟨_, rfl⟩ | exact ⟨[], by simp⟩
def gHeldA (a : Ac) (k : Int) : Option Int := gd (a.n.length < 4294967296 ∧ 0 ≤ k ∧ k ≤ 100000000000 ∧ a.n = mks k a.n.length) (k + a.n.length)
theorem gHeldA_eq {a : Ac} {k : Int} (h : a.n.length < 4294967296 ∧ 0 ≤ k ∧ k ≤ 100000000000 ∧ a.n = mks k a.n.length) : gHeldA a k = some (k + a.n.length) := gd_eq h
set_option maxHeartbeats 4000000 in
set_option maxRecDepth 100000 in
theorem spec_heldAct {Sg : FuncId → Option (List AV → Option AV)} (hS : Sound Tryd.prog Sg) (hc : Sg 19 = some (F2 gHeldI)) : ∀ a r, F2 gHeldA a = some r → CSpec Tryd.prog 9 a r := by
  refine F2_spec ?_
  rintro ⟨q, l⟩ k r hr
  obtain ⟨⟨h1, h2, h3, h4⟩, rfl⟩ := gd_some hr
  dsimp only at h1 h4
  have q1 := gHeldI_eq (l := l) (k := k) ⟨h1, h2, by omega, h4⟩
  have q2 : ¬ (k + (l.length : Int) < 0) := by omega
  refine CSpec.intro Tryd.func9 rfl (own _) (vc3_sound Tryd.pf hS hS _ _ _ ?_)
  repeat' (first | with_reducible first | refine kI (by kernel_rfl) ?_ | refine kN (by kernel_rfl) ?_ | (first | refine kB1 ?_ ?_ | refine kB2 ?_ ?_) <;> intro hp | (first | refine kD1 ?_ ?_ | refine kD2 ?_ ?_ | refine kS1 ?_ ?_ | refine kS2 ?_ ?_) <;> intro hp <;> try simp only [hp] | simp -implicitDefEqProofs (disch := omega) only [go_sem, Nat.reduceAdd, Nat.reduceSub, reduceCtorEq, Nat.reduceLT, Nat.reduceLeDiff, Nat.reduceEqDiff, Nat.reduceMul, Int.reduceToNat, ↓reduceIte, List.take_of_length_le, if_pos, if_neg, List.getElem?_set_self, List.set_set, getD_exs, cnE, cnV, Tryd.ntmps9, Tryd.results9,  hc, q1, q2])
  try rfl
def gEqX (a b : Ac) : Option Bool := gd (a.n.length < 4294967296 ∧ b.n.length < 4294967296) (decide (a = b))
theorem gEqX_eq {a b : Ac} (h1 : a.n.length < 4294967296) (h2 : b.n.length < 4294967296) : gEqX a b = some (decide (a = b)) := gd_eq ⟨h1, h2⟩
set_option maxHeartbeats 4000000 in
set_option maxRecDepth 100000 in
theorem spec_eqAct {Sg : FuncId → Option (List AV → Option AV)} (hS : Sound Tryd.prog Sg) (he : Sg 17 = some (F2 gEqInts)) : ∀ a r, F2 gEqX a = some r → CSpec Tryd.prog 7 a r := by
  refine F2_spec ?_
  rintro ⟨k, l⟩ ⟨j, m⟩ r hr
  obtain ⟨⟨h1, h2⟩, rfl⟩ := gd_some hr
  dsimp only at h1 h2
  have q := gEqInts_eq (a := l) (b := m) ⟨h1, h2⟩
  have hd : decide ((⟨k, l⟩ : Ac) = ⟨j, m⟩) = ((k == j) && decide (l = m)) := by
    rw [Bool.eq_iff_iff]; simp
  rw [hd]
  refine CSpec.intro Tryd.func7 rfl (own _) (vc3_sound Tryd.pf hS hS _ _ _ ?_)
  by_cases e : k = j
  · have e' : (k == j) = true := beq_t e
    rw [e']
    by_cases e2 : l = m
    · rw [decide_eq_true e2] at q ⊢
      repeat' (first | with_reducible first | refine kI (by kernel_rfl) ?_ | refine kN (by kernel_rfl) ?_ | (first | refine kB1 ?_ ?_ | refine kB2 ?_ ?_) <;> intro hp | (first | refine kD1 ?_ ?_ | refine kD2 ?_ ?_ | refine kS1 ?_ ?_ | refine kS2 ?_ ?_) <;> intro hp <;> try simp only [hp] | simp -implicitDefEqProofs (disch := omega) only [go_sem, Nat.reduceAdd, Nat.reduceSub, reduceCtorEq, Nat.reduceLT, Nat.reduceLeDiff, Nat.reduceEqDiff, Nat.reduceMul, Int.reduceToNat, ↓reduceIte, List.take_of_length_le, if_pos, if_neg, List.getElem?_set_self, List.set_set, getD_exs, cnE, cnV, Tryd.ntmps7, Tryd.results7,  e', he, q])
      try rfl
    · rw [decide_eq_false e2] at q ⊢
      repeat' (first | with_reducible first | refine kI (by kernel_rfl) ?_ | refine kN (by kernel_rfl) ?_ | (first | refine kB1 ?_ ?_ | refine kB2 ?_ ?_) <;> intro hp | (first | refine kD1 ?_ ?_ | refine kD2 ?_ ?_ | refine kS1 ?_ ?_ | refine kS2 ?_ ?_) <;> intro hp <;> try simp only [hp] | simp -implicitDefEqProofs (disch := omega) only [go_sem, Nat.reduceAdd, Nat.reduceSub, reduceCtorEq, Nat.reduceLT, Nat.reduceLeDiff, Nat.reduceEqDiff, Nat.reduceMul, Int.reduceToNat, ↓reduceIte, List.take_of_length_le, if_pos, if_neg, List.getElem?_set_self, List.set_set, getD_exs, cnE, cnV, Tryd.ntmps7, Tryd.results7,  e', he, q])
      try rfl
  · have e' : (k == j) = false := beq_f e
    rw [e']
    repeat' (first | with_reducible first | refine kI (by kernel_rfl) ?_ | refine kN (by kernel_rfl) ?_ | (first | refine kB1 ?_ ?_ | refine kB2 ?_ ?_) <;> intro hp | (first | refine kD1 ?_ ?_ | refine kD2 ?_ ?_ | refine kS1 ?_ ?_ | refine kS2 ?_ ?_) <;> intro hp <;> try simp only [hp] | simp -implicitDefEqProofs (disch := omega) only [go_sem, Nat.reduceAdd, Nat.reduceSub, reduceCtorEq, Nat.reduceLT, Nat.reduceLeDiff, Nat.reduceEqDiff, Nat.reduceMul, Int.reduceToNat, ↓reduceIte, List.take_of_length_le, if_pos, if_neg, List.getElem?_set_self, List.set_set, getD_exs, cnE, cnV, Tryd.ntmps7, Tryd.results7,  e'])
    try rfl
end Go.Proofs.YtkmnepmnjpdpkaaDoor
