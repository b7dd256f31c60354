/- Contracts of functions that the laws of this seat call. -/
import Derived.Test.YtkmnepmnjpdpkaaDoorXXc
set_option linter.all false
namespace Go.Proofs.YtkmnepmnjpdpkaaDoor
open Go Go.Ev Go.RowKit Go.Ev.Enc Go.Pl

def gTrueE (s : ByteArray) : Option Bool := gd (s.size ≤ 9223372036854775807) true
theorem can_ParseActI : CanCall Tryd.prog 6 := ⟨_, Tryd.func6, rfl, rfl⟩
theorem can_ActsInI : CanCall Tryd.prog 11 := ⟨_, Tryd.func11, rfl, rfl⟩
def MkA : Prop := ∀ (q : Int) (l : List Int) (k : Int) (b : Nat) (L : List Blk), L[b]? = some (stB l) → l.length < 4294967296 → 0 ≤ k ∧ k ≤ 100000000000 → ISpec Tryd.prog 8 [.agg [i64 q, .sl b l.length 0 l.length l.length], i64 k] L fun r L' => r = i64 (k + l.length) ∧ ∃ Y, L' = L.set b (stB (mks k l.length)) ++ Y
def MkAZ : Prop := ∀ (q : Int) (k : Int) (L : List Blk), ISpec Tryd.prog 8 [.agg [i64 q, .nilS], i64 k] L fun r L' => r = i64 k ∧ ∃ Y, L' = L ++ Y
theorem parR_n (s : List UInt8) : (parR s).1.n.length ≤ 4 := by
  rcases par_cases s with ⟨a, e1, e2⟩ | ⟨-, e2⟩
  · rw [e2]; exact par_num e1
  · rw [e2]; simp
set_option maxHeartbeats 8000000 in
set_option maxRecDepth 100000 in
theorem law_ExactParseAct {Sg Sd : FuncId → Option (List AV → Option AV)} (hS : Sound Tryd.prog Sg) (hD : Sound Tryd.prog Sd) (h1 : Sg 5 = some (F1 gPar)) (n1 : Sg 6 = none) (he : Sg 7 = some (F2 gEqX)) (n2 : Sg 8 = none) (hh : Sg 9 = some (F2 gHeldA)) (hp : ParXX) (hm : MkA) (hz : MkAZ) : ∀ a r, F1 gTrueE a = some r → CSpec Tryd.prog 3 a r := by
  refine F1_spec ?_
  intro s r hr
  obtain ⟨g1, rfl⟩ := gd_some hr
  refine law3 Tryd.func3 rfl Tryd.pf hS hD ?_
  by_cases hb : 1048576 < s.size
  · have hb' : (1048576 : Int) < (s.size : Int) := by omega
    repeat' (first | with_reducible first | refine kI (by kernel_rfl) ?_ | refine kN (by kernel_rfl) ?_ | (first | refine kB1 ?_ ?_ | refine kB2 ?_ ?_) <;> intro hp | (first | refine kD1 ?_ ?_ | refine kD2 ?_ ?_ | refine kS1 ?_ ?_ | refine kS2 ?_ ?_) <;> intro hp <;> try simp only [hp] | simp -implicitDefEqProofs (disch := omega) only [go_sem, Nat.reduceAdd, Nat.reduceSub, reduceCtorEq, Nat.reduceLT, Nat.reduceLeDiff, Nat.reduceEqDiff, Nat.reduceMul, Int.reduceToNat, ↓reduceIte, List.take_of_length_le, if_pos, if_neg, List.getElem?_set_self, List.set_set, getD_exs, evApp_st0, cnE, cnV, Tryd.ntmps3, Tryd.results3,  hb'])
  · have hb' : ¬ (1048576 : Int) < (s.size : Int) := by omega
    have q1 := gPar_eq (s := s) (by omega)
    have hps := hp s (by omega)
    have h4 := parR_n s.data.toList
    generalize parR s.data.toList = p at *
    obtain ⟨⟨k, l⟩, b⟩ := p
    dsimp only at h4
    have qe := gEqX_eq (a := ⟨k, l⟩) (b := ⟨k, l⟩) (by dsimp only; omega) (by dsimp only; omega)
    rw [decide_eq_true rfl] at qe
    have qh := gHeldA_eq (a := ⟨k, mks 1 l.length⟩) (k := 1) ⟨by simp only [mks_len]; omega, by omega, by omega, by simp only [mks_len]⟩
    simp only [mks_len] at qh
    have hbb : (b != b) = false := by simp
    have w1 : ¬ ((1 : Int) + l.length < 0) := by omega
    repeat' (first | with_reducible first | refine kI (by kernel_rfl) ?_ | refine kN (by kernel_rfl) ?_ | (first | refine kB1 ?_ ?_ | refine kB2 ?_ ?_) <;> intro hp | (first | refine kD1 ?_ ?_ | refine kD2 ?_ ?_ | refine kS1 ?_ ?_ | refine kS2 ?_ ?_) <;> intro hp <;> try simp only [hp] | simp -implicitDefEqProofs (disch := omega) only [go_sem, Nat.reduceAdd, Nat.reduceSub, reduceCtorEq, Nat.reduceLT, Nat.reduceLeDiff, Nat.reduceEqDiff, Nat.reduceMul, Int.reduceToNat, ↓reduceIte, List.take_of_length_le, if_pos, if_neg, List.getElem?_set_self, List.set_set, getD_exs, evApp_st0, cnE, cnV, Tryd.ntmps3, Tryd.results3,  hb', h1, q1, n1, opQ_none])
    refine InlK_intro rfl rfl can_ParseActI (callF hps (by simp only [go_sem]) ?_)
    intro v N hv
    obtain ⟨x, e, hx⟩ := acK_frame (L := [⟨2, [.agg [i64 k, ints 1 l]]⟩]) hv
    rw [e]
    generalize N.map (ownB ([⟨2, [.agg [i64 k, ints 1 l]]⟩] : List Blk).length) = Y at *
    rcases hx with ⟨rfl, h0⟩ | ⟨c, rfl, hc, hlo⟩
    · dsimp only at h0
      subst h0
      have htk : ∀ A : Blk, (Y ++ [A]).take (Y.length + 1) = Y ++ [A] := fun A => List.take_of_length_le (by simp)
      have qz : gHeldA ⟨k, []⟩ 1 = some 1 := gHeldA_eq (a := ⟨k, []⟩) ⟨by simp, by omega, by omega, rfl⟩
      have w2 : ¬ ((1 : Int) < 0) := by decide
      repeat' (first | with_reducible first | refine kI (by kernel_rfl) ?_ | refine kN (by kernel_rfl) ?_ | (first | refine kB1 ?_ ?_ | refine kB2 ?_ ?_) <;> intro hp | (first | refine kD1 ?_ ?_ | refine kD2 ?_ ?_ | refine kS1 ?_ ?_ | refine kS2 ?_ ?_) <;> intro hp <;> try simp only [hp] | simp -implicitDefEqProofs (disch := omega) only [go_sem, Nat.reduceAdd, Nat.reduceSub, reduceCtorEq, Nat.reduceLT, Nat.reduceLeDiff, Nat.reduceEqDiff, Nat.reduceMul, Int.reduceToNat, ↓reduceIte, List.take_of_length_le, if_pos, if_neg, List.getElem?_set_self, List.set_set, getD_exs, evApp_st0, cnE, cnV, Tryd.ntmps3, Tryd.results3,  htk, he, qe, hbb, n2, opQ_none])
      refine InlK_intro rfl rfl can_markA ((hz k 1 _).mono ?_)
      rintro r L1 ⟨rfl, Y2, rfl⟩
      obtain ⟨X, hX⟩ : ∃ X, (⟨2, [.agg [i64 k, ints 1 []]]⟩ :: (Y ++ [⟨2, [.agg [i64 k, .nilS]]⟩]) : List Blk) ++ Y2 = X := ⟨_, rfl⟩
      have x0 : X[0]? = some ⟨2, [.agg [i64 k, ints 1 []]]⟩ := by rw [← hX]; rfl
      have x1 : X[Y.length + 1]? = some ⟨2, [.agg [i64 k, .nilS]]⟩ := by rw [← hX]; exact get_ext (by simp) _
      rw [hX]
      clear hX
      repeat' (first | with_reducible first | refine kI (by kernel_rfl) ?_ | refine kN (by kernel_rfl) ?_ | (first | refine kB1 ?_ ?_ | refine kB2 ?_ ?_) <;> intro hp | (first | refine kD1 ?_ ?_ | refine kD2 ?_ ?_ | refine kS1 ?_ ?_ | refine kS2 ?_ ?_) <;> intro hp <;> try simp only [hp] | simp -implicitDefEqProofs (disch := omega) only [go_sem, Nat.reduceAdd, Nat.reduceSub, reduceCtorEq, Nat.reduceLT, Nat.reduceLeDiff, Nat.reduceEqDiff, Nat.reduceMul, Int.reduceToNat, ↓reduceIte, List.take_of_length_le, if_pos, if_neg, List.getElem?_set_self, List.set_set, getD_exs, evApp_st0, cnE, cnV, Tryd.ntmps3, Tryd.results3,  x0, x1, hh, qz, w2, n1, opQ_none])
      refine InlK_intro rfl rfl can_ParseActI (callF hps (by simp only [go_sem]) ?_)
      intro v2 N2 hv2
      obtain ⟨x2, e2, hx2⟩ := acK_frame (L := X) hv2
      rw [e2]
      generalize N2.map (ownB X.length) = Y3 at *
      have y0 := fun Z : List Blk => get_ext x0 Z
      have y1 := fun Z : List Blk => get_ext x1 Z
      have htk2 : ∀ A : Blk, (X ++ (Y3 ++ [A])).take (X.length + (Y3.length + 1)) = X ++ (Y3 ++ [A]) := fun A => List.take_of_length_le (by simp)
      rcases hx2 with ⟨rfl, -⟩ | ⟨c2, rfl, hc2, hlo2⟩
      · repeat' (first | with_reducible first | refine kI (by kernel_rfl) ?_ | refine kN (by kernel_rfl) ?_ | (first | refine kB1 ?_ ?_ | refine kB2 ?_ ?_) <;> intro hp | (first | refine kD1 ?_ ?_ | refine kD2 ?_ ?_ | refine kS1 ?_ ?_ | refine kS2 ?_ ?_) <;> intro hp <;> try simp only [hp] | simp -implicitDefEqProofs (disch := omega) only [go_sem, Nat.reduceAdd, Nat.reduceSub, reduceCtorEq, Nat.reduceLT, Nat.reduceLeDiff, Nat.reduceEqDiff, Nat.reduceMul, Int.reduceToNat, ↓reduceIte, List.take_of_length_le, if_pos, if_neg, List.getElem?_set_self, List.set_set, getD_exs, evApp_st0, cnE, cnV, Tryd.ntmps3, Tryd.results3,  y0, y1, htk2, he, qe, hh, qz, w2, hbb])
      · dsimp only at hc2
        have y2 : ∀ A : Blk, (X ++ (Y3 ++ [A]))[c2]? = some (stB []) := fun A => by rw [← List.append_assoc]; exact get_ext hc2 [A]
        repeat' (first | with_reducible first | refine kI (by kernel_rfl) ?_ | refine kN (by kernel_rfl) ?_ | (first | refine kB1 ?_ ?_ | refine kB2 ?_ ?_) <;> intro hp | (first | refine kD1 ?_ ?_ | refine kD2 ?_ ?_ | refine kS1 ?_ ?_ | refine kS2 ?_ ?_) <;> intro hp <;> try simp only [hp] | simp -implicitDefEqProofs (disch := omega) only [go_sem, Nat.reduceAdd, Nat.reduceSub, reduceCtorEq, Nat.reduceLT, Nat.reduceLeDiff, Nat.reduceEqDiff, Nat.reduceMul, Int.reduceToNat, ↓reduceIte, List.take_of_length_le, if_pos, if_neg, List.getElem?_set_self, List.set_set, getD_exs, evApp_st0, cnE, cnV, Tryd.ntmps3, Tryd.results3,  y0, y1, y2, htk2, he, qe, hh, qz, w2, hbb])
    · dsimp only at hc
      have hc1 : ∀ A : Blk, (⟨2, [.agg [i64 k, ints 1 l]]⟩ :: (Y ++ [A]) : List Blk)[c]? = some (stB l) := fun A => get_ext hc [A]
      have htk : ∀ A : Blk, (Y ++ [A]).take (Y.length + 1) = Y ++ [A] := fun A => List.take_of_length_le (by simp)
      repeat' (first | with_reducible first | refine kI (by kernel_rfl) ?_ | refine kN (by kernel_rfl) ?_ | (first | refine kB1 ?_ ?_ | refine kB2 ?_ ?_) <;> intro hp | (first | refine kD1 ?_ ?_ | refine kD2 ?_ ?_ | refine kS1 ?_ ?_ | refine kS2 ?_ ?_) <;> intro hp <;> try simp only [hp] | simp -implicitDefEqProofs (disch := omega) only [go_sem, Nat.reduceAdd, Nat.reduceSub, reduceCtorEq, Nat.reduceLT, Nat.reduceLeDiff, Nat.reduceEqDiff, Nat.reduceMul, Int.reduceToNat, ↓reduceIte, List.take_of_length_le, if_pos, if_neg, List.getElem?_set_self, List.set_set, getD_exs, evApp_st0, cnE, cnV, Tryd.ntmps3, Tryd.results3,  hc1, htk, he, qe, hbb, n2, opQ_none])
      refine InlK_intro rfl rfl can_markA ((hm k l 1 c _ (hc1 _) (by omega) (by omega)).mono ?_)
      rintro r L1 ⟨rfl, Y2, rfl⟩
      have hcl : c < Y.length + 1 := by have := (List.getElem?_eq_some_iff.1 hc).1; simpa using this
      have hlo' : 1 ≤ c := by simpa using hlo
      obtain ⟨X, hX⟩ : ∃ X, (⟨2, [.agg [i64 k, ints 1 l]]⟩ :: (Y ++ [⟨2, [.agg [i64 k, .sl c l.length 0 l.length l.length]]⟩]) : List Blk).set c (stB (mks 1 l.length)) ++ Y2 = X := ⟨_, rfl⟩
      have x0 : X[0]? = some ⟨2, [.agg [i64 k, ints 1 l]]⟩ := by rw [← hX]; exact get_ext (by rw [List.getElem?_set_ne (by omega)]; rfl) _
      have x1 : X[Y.length + 1]? = some ⟨2, [.agg [i64 k, .sl c l.length 0 l.length l.length]]⟩ := by rw [← hX]; exact get_ext (by rw [List.getElem?_set_ne (by omega)]; simp) _
      have xc : X[c]? = some (stB (mks 1 l.length)) := by rw [← hX]; exact get_ext (List.getElem?_set_self (by simp; omega)) _
      rw [hX]
      clear hX
      repeat' (first | with_reducible first | refine kI (by kernel_rfl) ?_ | refine kN (by kernel_rfl) ?_ | (first | refine kB1 ?_ ?_ | refine kB2 ?_ ?_) <;> intro hp | (first | refine kD1 ?_ ?_ | refine kD2 ?_ ?_ | refine kS1 ?_ ?_ | refine kS2 ?_ ?_) <;> intro hp <;> try simp only [hp] | simp -implicitDefEqProofs (disch := omega) only [go_sem, Nat.reduceAdd, Nat.reduceSub, reduceCtorEq, Nat.reduceLT, Nat.reduceLeDiff, Nat.reduceEqDiff, Nat.reduceMul, Int.reduceToNat, ↓reduceIte, List.take_of_length_le, if_pos, if_neg, List.getElem?_set_self, List.set_set, getD_exs, evApp_st0, cnE, cnV, Tryd.ntmps3, Tryd.results3,  x0, x1, xc, mks_len, mks_take, hh, qh, w1, n1, opQ_none])
      refine InlK_intro rfl rfl can_ParseActI (callF hps (by simp only [go_sem]) ?_)
      intro v2 N2 hv2
      obtain ⟨x2, e2, hx2⟩ := acK_frame (L := X) hv2
      rw [e2]
      generalize N2.map (ownB X.length) = Y3 at *
      have y0 := fun Z : List Blk => get_ext x0 Z
      have y1 := fun Z : List Blk => get_ext x1 Z
      have yc := fun Z : List Blk => get_ext xc Z
      have htk2 : ∀ A : Blk, (X ++ (Y3 ++ [A])).take (X.length + (Y3.length + 1)) = X ++ (Y3 ++ [A]) := fun A => List.take_of_length_le (by simp)
      rcases hx2 with ⟨rfl, h0⟩ | ⟨c2, rfl, hc2, hlo2⟩
      · dsimp only at h0
        subst h0
        have qh0 : gHeldA ⟨k, mks 1 0⟩ 1 = some (1 + ((0 : Nat) : Int)) := qh
        have w10 : ¬ ((1 : Int) + ((0 : Nat) : Int) < 0) := w1
        repeat' (first | with_reducible first | refine kI (by kernel_rfl) ?_ | refine kN (by kernel_rfl) ?_ | (first | refine kB1 ?_ ?_ | refine kB2 ?_ ?_) <;> intro hp | (first | refine kD1 ?_ ?_ | refine kD2 ?_ ?_ | refine kS1 ?_ ?_ | refine kS2 ?_ ?_) <;> intro hp <;> try simp only [hp] | simp -implicitDefEqProofs (disch := omega) only [go_sem, Nat.reduceAdd, Nat.reduceSub, reduceCtorEq, Nat.reduceLT, Nat.reduceLeDiff, Nat.reduceEqDiff, Nat.reduceMul, Int.reduceToNat, ↓reduceIte, List.take_of_length_le, if_pos, if_neg, List.getElem?_set_self, List.set_set, getD_exs, evApp_st0, cnE, cnV, Tryd.ntmps3, Tryd.results3,  y0, y1, yc, htk2, he, qe, mks_len, mks_take, hh, qh0, w10, hbb])
      · dsimp only at hc2
        have y2 : ∀ A : Blk, (X ++ (Y3 ++ [A]))[c2]? = some (stB l) := fun A => by rw [← List.append_assoc]; exact get_ext hc2 [A]
        repeat' (first | with_reducible first | refine kI (by kernel_rfl) ?_ | refine kN (by kernel_rfl) ?_ | (first | refine kB1 ?_ ?_ | refine kB2 ?_ ?_) <;> intro hp | (first | refine kD1 ?_ ?_ | refine kD2 ?_ ?_ | refine kS1 ?_ ?_ | refine kS2 ?_ ?_) <;> intro hp <;> try simp only [hp] | simp -implicitDefEqProofs (disch := omega) only [go_sem, Nat.reduceAdd, Nat.reduceSub, reduceCtorEq, Nat.reduceLT, Nat.reduceLeDiff, Nat.reduceEqDiff, Nat.reduceMul, Int.reduceToNat, ↓reduceIte, List.take_of_length_le, if_pos, if_neg, List.getElem?_set_self, List.set_set, getD_exs, evApp_st0, cnE, cnV, Tryd.ntmps3, Tryd.results3,  y0, y1, yc, y2, htk2, he, qe, mks_len, mks_take, hh, qh, w1, hbb])
theorem expS_al {M : List Blk} {xl : List (Ac × Nat)} {n : Nat} (h : alH M xl) (hn : xl.length = n) : expS 0 M n 0 n (some ⟨2, xl.map acE⟩) = .ds 0 (acL 0 (xl.map Prod.fst)) := by
  subst hn
  simp only [expS, List.length_map, Nat.zero_add, Nat.le_refl, and_self, if_true, List.drop_zero]
  rw [List.take_of_length_le (by simp)]
  congr 1
  rw [acL, List.map_map, List.map_map]
  apply List.map_congr_left
  intro t ht
  have h1 := h t ht
  simp only [Function.comp_def, expE, List.map_cons, List.map_nil, stepC, h1, List.length_map, Nat.zero_add, Nat.le_refl, and_self, if_true, List.drop_zero]
  rw [List.take_of_length_le (by simp)]
  simp [ints, Function.comp_def, expE, stepC]
theorem acts_n (s : List UInt8) : ∀ a ∈ actsF 60 s, a.n.length ≤ 4 := fun a ha => by
  have := (actsF_val 60 s a ha).1.2
  have h4 := ned_4 a.k
  omega
def MkAS : Prop := ∀ (xl : List (Ac × Nat)) (k : Int) (j : Nat) (L : List Blk), L[j]? = some ⟨2, xl.map acE⟩ → alH L xl → (j :: xl.map Prod.snd).Nodup → xl.length ≤ 1000 → (∀ t ∈ xl, t.1.n.length ≤ 1000) → 0 ≤ k ∧ k ≤ 100000 → ISpec Tryd.prog 13 [.sl j xl.length 0 xl.length xl.length, i64 k] L fun r L' => r = i64 (nxL nx1P k xl) ∧ L'[j]? = some ⟨2, (mkL mk1P nx1P k xl).map acE⟩ ∧ alH L' (mkL mk1P nx1P k xl) ∧ L'.length = L.length ∧ ∀ q, q ∉ j :: xl.map Prod.snd → L'[q]? = L[q]?
set_option maxHeartbeats 8000000 in
set_option maxRecDepth 100000 in
theorem law_ExactActsIn {Sg Sd : FuncId → Option (List AV → Option AV)} (hS : Sound Tryd.prog Sg) (hD : Sound Tryd.prog Sd) (h1 : Sg 10 = some (F1 gActs)) (n1 : Sg 11 = none) (he : Sg 12 = some (F2 gEqAs)) (n2 : Sg 13 = none) (hh : Sg 14 = some (F2 gHeldAs)) (hp : ActXX) (hm : MkAS) : ∀ a r, F1 gTrueE a = some r → CSpec Tryd.prog 4 a r := by
  refine F1_spec ?_
  intro s r hr
  obtain ⟨g1, rfl⟩ := gd_some hr
  refine law3 Tryd.func4 rfl Tryd.pf hS hD ?_
  by_cases hb : 1048576 < s.size
  · have hb' : (1048576 : Int) < (s.size : Int) := by omega
    repeat' (first | with_reducible first | refine kI (by kernel_rfl) ?_ | refine kN (by kernel_rfl) ?_ | (first | refine kB1 ?_ ?_ | refine kB2 ?_ ?_) <;> intro hp | (first | refine kD1 ?_ ?_ | refine kD2 ?_ ?_ | refine kS1 ?_ ?_ | refine kS2 ?_ ?_) <;> intro hp <;> try simp only [hp] | simp -implicitDefEqProofs (disch := omega) only [go_sem, Nat.reduceAdd, Nat.reduceSub, reduceCtorEq, Nat.reduceLT, Nat.reduceLeDiff, Nat.reduceEqDiff, Nat.reduceMul, Int.reduceToNat, ↓reduceIte, List.take_of_length_le, if_pos, if_neg, List.getElem?_set_self, List.set_set, getD_exs, evApp_st0, cnE, cnV, Tryd.ntmps4, Tryd.results4,  hb'])
  · have hb' : ¬ (1048576 : Int) < (s.size : Int) := by omega
    have q1 := gActs_eq (s := s) (by omega)
    have hps := hp s (by omega)
    have h4 := acts_n s.data.toList
    have h60 := actsF_len 60 s.data.toList
    generalize actsF 60 s.data.toList = R at *
    have hB : acsB R := ⟨by omega, fun i hi => by have := h4 _ (mem_L (d := ac0) hi); omega⟩
    have qe := gEqAs_eq hB hB
    rw [decide_eq_true rfl] at qe
    repeat' (first | with_reducible first | refine kI (by kernel_rfl) ?_ | refine kN (by kernel_rfl) ?_ | (first | refine kB1 ?_ ?_ | refine kB2 ?_ ?_) <;> intro hp | (first | refine kD1 ?_ ?_ | refine kD2 ?_ ?_ | refine kS1 ?_ ?_ | refine kS2 ?_ ?_) <;> intro hp <;> try simp only [hp] | simp -implicitDefEqProofs (disch := omega) only [go_sem, Nat.reduceAdd, Nat.reduceSub, reduceCtorEq, Nat.reduceLT, Nat.reduceLeDiff, Nat.reduceEqDiff, Nat.reduceMul, Int.reduceToNat, ↓reduceIte, List.take_of_length_le, if_pos, if_neg, List.getElem?_set_self, List.set_set, getD_exs, evApp_st0, cnE, cnV, Tryd.ntmps4, Tryd.results4,  hb', h1, q1, n1, opQ_none])
    refine InlK_intro rfl rfl can_ActsInI (callF hps (by simp only [go_sem]) ?_)
    intro v N hv
    obtain ⟨j, xl, hx1, e, hx2, hx3, hx4, hx5⟩ := alK_frame (L := []) hv
    rw [e]
    generalize ([] ++ N.map (ownB ([] : List Blk).length) : List Blk) = X at *
    clear hx5 e hv
    have hxl : xl.length = R.length := by rw [← hx1, List.length_map]
    have e1 := expS_al hx3 hxl
    rw [hx1] at e1
    have hml : ∀ t ∈ xl, t.1.n.length ≤ 1000 := fun t ht => by have := h4 t.1 (by rw [← hx1]; exact List.mem_map_of_mem ht); omega
    repeat' (first | with_reducible first | refine kI (by kernel_rfl) ?_ | refine kN (by kernel_rfl) ?_ | (first | refine kB1 ?_ ?_ | refine kB2 ?_ ?_) <;> intro hp | (first | refine kD1 ?_ ?_ | refine kD2 ?_ ?_ | refine kS1 ?_ ?_ | refine kS2 ?_ ?_) <;> intro hp <;> try simp only [hp] | simp -implicitDefEqProofs (disch := omega) only [go_sem, Nat.reduceAdd, Nat.reduceSub, reduceCtorEq, Nat.reduceLT, Nat.reduceLeDiff, Nat.reduceEqDiff, Nat.reduceMul, Int.reduceToNat, ↓reduceIte, List.take_of_length_le, if_pos, if_neg, List.getElem?_set_self, List.set_set, getD_exs, evApp_st0, cnE, cnV, Tryd.ntmps4, Tryd.results4,  hx2, e1, he, qe, n2, opQ_none])
    have hmk := hm xl 1 j X hx2 hx3 hx4 (by omega) hml ⟨by omega, by omega⟩
    rw [hxl] at hmk
    refine InlK_intro rfl rfl can_markAS (hmk.mono ?_)
    rintro r L1 ⟨rfl, m1, m2, m3, m4⟩
    have hnl := nxL_le (n := nx1P) (k := 1) (l := xl) (c := 1001) (by
      intro t ht k
      have := hml t ht
      unfold nx1P nx1
      omega)
    have e2 := expS_al m2 (by rw [mkL_len, hxl])
    have hmm : (mkL mk1P nx1P 1 xl).map Prod.fst = mkL mk1 nx1 1 R := by rw [mkL_map (m := mk1P) (n := nx1P) (m2 := mk1) (n2 := nx1) (f := Prod.fst) (fun _ _ => rfl) (fun _ _ => rfl), hx1]
    rw [hmm] at e2
    have hnx : nxL nx1P 1 xl = nxL nx1 1 R := by rw [nxL_map (n := nx1P) (n2 := nx1) (f := Prod.fst) (fun _ _ => rfl), hx1]
    have hlm : (mkL mk1 nx1 1 R).length = R.length := mkL_len _ _ _ _
    have qh := gHeldAs_eq (l := mkL mk1 nx1 1 R) (k := 1) ⟨⟨by omega, fun i hi => ?_⟩, ⟨by omega, by omega⟩, mkdL_mk nx1_mk mk1_mk 1 R⟩
    · rw [nxL_mk nx1_mk] at qh
      rw [hnx] at hnl ⊢
      have w1 : ¬ (nxL nx1 1 R < 0) := by omega
      repeat' (first | with_reducible first | refine kI (by kernel_rfl) ?_ | refine kN (by kernel_rfl) ?_ | (first | refine kB1 ?_ ?_ | refine kB2 ?_ ?_) <;> intro hp | (first | refine kD1 ?_ ?_ | refine kD2 ?_ ?_ | refine kS1 ?_ ?_ | refine kS2 ?_ ?_) <;> intro hp <;> try simp only [hp] | simp -implicitDefEqProofs (disch := omega) only [go_sem, Nat.reduceAdd, Nat.reduceSub, reduceCtorEq, Nat.reduceLT, Nat.reduceLeDiff, Nat.reduceEqDiff, Nat.reduceMul, Int.reduceToNat, ↓reduceIte, List.take_of_length_le, if_pos, if_neg, List.getElem?_set_self, List.set_set, getD_exs, evApp_st0, cnE, cnV, Tryd.ntmps4, Tryd.results4,  m1, e2, hh, qh, w1, n1, opQ_none])
      refine InlK_intro rfl rfl can_ActsInI (callF hps (by simp only [go_sem]) ?_)
      intro v2 N2 hv2
      obtain ⟨j2, xl2, k1, e3, k2, k3, k4, k5⟩ := alK_frame (L := L1) hv2
      rw [e3]
      generalize N2.map (ownB L1.length) = Y at *
      have hxl2 : xl2.length = R.length := by rw [← k1, List.length_map]
      have e4 := expS_al k3 hxl2
      rw [k1] at e4
      have m1' := get_ext m1 Y
      have e5 := expS_al (alH_ext m2 Y) (by rw [mkL_len, hxl])
      rw [hmm] at e5
      have htk : (L1 ++ Y).take (L1.length + Y.length) = L1 ++ Y := List.take_of_length_le (by simp)
      repeat' (first | with_reducible first | refine kI (by kernel_rfl) ?_ | refine kN (by kernel_rfl) ?_ | (first | refine kB1 ?_ ?_ | refine kB2 ?_ ?_) <;> intro hp | (first | refine kD1 ?_ ?_ | refine kD2 ?_ ?_ | refine kS1 ?_ ?_ | refine kS2 ?_ ?_) <;> intro hp <;> try simp only [hp] | simp -implicitDefEqProofs (disch := omega) only [go_sem, Nat.reduceAdd, Nat.reduceSub, reduceCtorEq, Nat.reduceLT, Nat.reduceLeDiff, Nat.reduceEqDiff, Nat.reduceMul, Int.reduceToNat, ↓reduceIte, List.take_of_length_le, if_pos, if_neg, List.getElem?_set_self, List.set_set, getD_exs, evApp_st0, cnE, cnV, Tryd.ntmps4, Tryd.results4,  htk, k2, e4, he, qe, m1', e5, hh, qh, w1])
    · have hk := mkL_keep (m := mk1) (n := nx1) (f := fun a : Ac => a.n.length) (fun k a => by simp [mk1, mks_len]) 1 R
      have h6 : ((mkL mk1 nx1 1 R).getD i ac0).n.length ∈ R.map fun a : Ac => a.n.length := by rw [← hk]; exact List.mem_map_of_mem (mem_L hi)
      obtain ⟨a, ha, h7⟩ := List.mem_map.1 h6
      have h8 := h4 a ha
      omega
end Go.Proofs.YtkmnepmnjpdpkaaDoor
