/- Contracts of functions that the laws of this seat call. -/
import Derived.Test.YtkmnepmnjpdpkaaDoorXr
import Derived.Test.YtkmnepmnjpdpkaaDoorX5
set_option linter.all false
namespace Go.Proofs.YtkmnepmnjpdpkaaDoor
open Go Go.Ev Go.RowKit Go.Ev.Enc Go.Pl

set_option maxHeartbeats 4000000 in
set_option maxRecDepth 100000 in
theorem isp_parseActX {Sg : FuncId → Option (List AV → Option AV)} (hS : Sound Tryd.prog Sg) (hs : Sg 26 = some (F2 gSplit)) (hx : Sg 27 = some (F2 gIdx)) (ha : Sg 28 = some (F1 gAtoi)) (hi : Sg 29 = some (F1 gNum)) (hv : Sg 30 = some (F1 gActB)) (s : ByteArray) (h : s.size < 4294967281) : ISpec Tryd.prog 16 [.str s] [] (fun v L' => acK 0 L' (parR s.data.toList) v) := by
  refine ISpec.intro Tryd.func16 rfl (vc3_sound Tryd.pf hS hS _ _ _ ?_)
  obtain ⟨w, r, hsp, hsz, hrl⟩ := words_ex s
  have q1 := gSplit_eq h
  rw [hsp] at q1
  have hwl : (List.map bs (w :: r)).length = r.length + 1 := by simp
  have hw0 := getD_wds (l := w :: r) (k := 0) (by simp)
  have hdr : (List.map bs (w :: r)).drop 1 = List.map bs r := rfl
  simp only [List.getD_cons_zero] at hw0
  have q2 := gIdx_eq (bs w)
  rw [data_bs] at q2
  have hpa := fun l h => par_w_some (S := s.data.toList) (w := w) (r := r) (l := l) hsp h
  generalize List.map bs (w :: r) = Ws at *
  generalize nmI w = K at *
  have hW : (Ws.length : Int) = (r.length : Int) + 1 := by omega
  have hW1 : 1 ≤ Ws.length := by omega
  have hW2 : Ws.length - 1 = r.length := by omega
  have hrl2 : (List.map bs r).length = r.length := by simp
  have hget := fun i (hi : i < r.length) => getD_wds (l := r) (k := i) hi
  generalize List.map bs r = Rs at *
  repeat' (first | with_reducible first | refine kI (by kernel_rfl) ?_ | (first | refine kB1 ?_ ?_ | refine kB2 ?_ ?_) <;> intro hp | (first | refine kD1 ?_ ?_ | refine kD2 ?_ ?_ | refine kS1 ?_ ?_ | refine kS2 ?_ ?_) <;> intro hp <;> try simp only [hp] | simp -implicitDefEqProofs (disch := omega) only [go_sem, Nat.reduceAdd, Nat.reduceSub, reduceCtorEq, Nat.reduceLT, Nat.reduceLeDiff, Nat.reduceEqDiff, Nat.reduceMul, Int.reduceToNat, ↓reduceIte, List.take_of_length_le, if_pos, if_neg, List.getElem?_set_self, List.set_set, getD_exs, evApp_st0, cnE, cnV, Tryd.ntmps16, Tryd.results16,  hs, q1])
  refine DrawQ.any [([0, 1, 2, 3, 4, 5, 6], 7)] [] [] (by kernel_rfl) ?_
  repeat' (first | with_reducible first | refine kI (by kernel_rfl) ?_ | (first | refine kB1 ?_ ?_ | refine kB2 ?_ ?_) <;> intro hp | (first | refine kD1 ?_ ?_ | refine kD2 ?_ ?_ | refine kS1 ?_ ?_ | refine kS2 ?_ ?_) <;> intro hp <;> try simp only [hp] | simp -implicitDefEqProofs (disch := omega) only [go_sem, Nat.reduceAdd, Nat.reduceSub, reduceCtorEq, Nat.reduceLT, Nat.reduceLeDiff, Nat.reduceEqDiff, Nat.reduceMul, Int.reduceToNat, ↓reduceIte, List.take_of_length_le, if_pos, if_neg, List.getElem?_set_self, List.set_set, getD_exs, evApp_st0, cnE, cnV, Tryd.ntmps16, Tryd.results16,  nmA_all, nmA_len, ee_nmA, dec_nmA, hwl, hw0, hx, q2, hdr, hrl2, hW2])
  refine LoopQ.mix (fun t0 L0 nn ss => ∃ (i : Nat) (l : List Int) (_ : Unit), (∃ x : Nat → AV, ss = ⟨mixL 0 (.k :: .k :: .k :: .s :: .k :: .k :: .k :: .s :: .s :: .s :: .k :: .k :: .k :: .k :: .k :: .k :: .k :: .k :: .k :: .k :: .k :: .v (i64 (i : Nat)) :: .s :: .s :: .s :: .s :: .s :: .s :: .s :: .s :: .s :: .s :: .s :: .s :: .s :: .s :: .s :: .s :: .s :: .s :: .s :: .s :: .s :: .s :: .s :: .s :: .k :: .k :: .k :: .k :: .k :: []) t0 x, [⟨2, [.agg [i64 0, .nilS]]⟩, ⟨2, [.agg [i64 K, nuR 2 i]]⟩] ++ nuN i l⟩) ∧ (i ≤ r.length) ∧ (wInts (r.take i) = some l) ∧ (l.length = i) ∧ nn = r.length - i) ?_ ?_
  · exact ⟨_, ⟨0, [], (), mixI rfl, Nat.zero_le _, rfl, rfl, rfl⟩⟩
  · rintro I0 hI0 nn ss ⟨i, l, _, ⟨y, rfl⟩, g1, g2, g3, rfl⟩
    by_cases hi' : i < r.length
    · have hii : (i : Int) < (r.length : Int) := by omega
      have hwd := hget i hi'
      have hxs := hsz (r.getD i []) (by rw [List.mem_cons]; right; simp [hi'])
      have qa := gAtoi_eq (s := bs (r.getD i [])) (by rw [bs_size]; omega)
      rw [data_bs] at qa
      have hwn := fun x hb => w_next (x := x) hi' g2 hb
      have hwf := fun hb => par_w_none hsp (w_fail hi' g2 hb)
      generalize r.getD i [] = u at *
      rcases ato_cases u with ⟨v, e1, e2, e3, e4⟩ | ⟨e1, e2⟩ | ⟨e1, v, e2, e3, e4⟩
      · have hnx := hwn v e1
        rw [e2] at qa
        have qi := gNum_eq e4
        have hcm := num_cmp2 v u
        rw [decide_eq_true e3] at hcm
        clear hwn hwf e3
        generalize numB v = N at *
        generalize bs u = M at *
        match i, hi', g3 with
        | 0, hi', g3 =>
          obtain rfl : l = [] := List.eq_nil_of_length_eq_zero g3
          repeat' (first | with_reducible first | refine kI (by kernel_rfl) ?_ | refine kN (by kernel_rfl) ?_ | (first | refine kB1 ?_ ?_ | refine kB2 ?_ ?_) <;> intro hp | (first | refine kD1 ?_ ?_ | refine kD2 ?_ ?_ | refine kS1 ?_ ?_ | refine kS2 ?_ ?_) <;> intro hp <;> try simp only [hp] | simp -implicitDefEqProofs (disch := omega) only [go_sem, Nat.reduceAdd, Nat.reduceSub, reduceCtorEq, Nat.reduceLT, Nat.reduceLeDiff, Nat.reduceEqDiff, Nat.reduceMul, Int.reduceToNat, ↓reduceIte, List.take_of_length_le, if_pos, if_neg, List.getElem?_set_self, List.set_set, getD_exs, evApp_st0, cnE, cnV, Tryd.ntmps16, Tryd.results16,  hii, hwd, hdr, hrl2, hW2, Tryd.underlying46, ha, qa, hi, qi, hcm, nuR_0, nuN_0])
          exact ⟨r.length - 1, by omega, hI0 _ _ ⟨0 + 1, [v], (), mixI rfl, hi', hnx, rfl, rfl⟩⟩
        | i + 1, hi', g3 =>
          repeat' (first | with_reducible first | refine kI (by kernel_rfl) ?_ | refine kN (by kernel_rfl) ?_ | (first | refine kB1 ?_ ?_ | refine kB2 ?_ ?_) <;> intro hp | (first | refine kD1 ?_ ?_ | refine kD2 ?_ ?_ | refine kS1 ?_ ?_ | refine kS2 ?_ ?_) <;> intro hp <;> try simp only [hp] | simp -implicitDefEqProofs (disch := omega) only [go_sem, Nat.reduceAdd, Nat.reduceSub, reduceCtorEq, Nat.reduceLT, Nat.reduceLeDiff, Nat.reduceEqDiff, Nat.reduceMul, Int.reduceToNat, ↓reduceIte, List.take_of_length_le, if_pos, if_neg, List.getElem?_set_self, List.set_set, getD_exs, evApp_st0, cnE, cnV, Tryd.ntmps16, Tryd.results16,  hii, hwd, hdr, hrl2, hW2, Tryd.underlying46, ha, qa, hi, qi, hcm, nuR_s, nuN_s, g3])
          exact ⟨r.length - (i + 1 + 1), by omega, hI0 _ _ ⟨i + 1 + 1, l ++ [v], (), mixI rfl, hi', hnx, (by rw [List.length_append, g3]; rfl), rfl⟩⟩
      · rw [hwf e1]
        obtain ⟨z, hz⟩ : ∃ z, atoF u = ⟨z, true⟩ := ⟨(atoF u).n, by rw [← e2]⟩
        rw [hz] at qa
        generalize bs u = M at *
        repeat' (first | with_reducible first | refine kI (by kernel_rfl) ?_ | refine kN (by kernel_rfl) ?_ | (first | refine kB1 ?_ ?_ | refine kB2 ?_ ?_) <;> intro hp | (first | refine kD1 ?_ ?_ | refine kD2 ?_ ?_ | refine kS1 ?_ ?_ | refine kS2 ?_ ?_) <;> intro hp <;> try simp only [hp] | simp -implicitDefEqProofs (disch := omega) only [go_sem, Nat.reduceAdd, Nat.reduceSub, reduceCtorEq, Nat.reduceLT, Nat.reduceLeDiff, Nat.reduceEqDiff, Nat.reduceMul, Int.reduceToNat, ↓reduceIte, List.take_of_length_le, if_pos, if_neg, List.getElem?_set_self, List.set_set, getD_exs, evApp_st0, cnE, cnV, Tryd.ntmps16, Tryd.results16,  hii, hwd, hdr, hrl2, hW2, Tryd.underlying46, ha, qa])
        exact ⟨_, rfl, .inl ⟨rfl, rfl⟩⟩
      · rw [hwf e1]
        rw [e2] at qa
        have qi := gNum_eq e4
        have hcm := num_cmp2 v u
        rw [decide_eq_false e3] at hcm
        clear hwn hwf e3
        generalize numB v = N at *
        generalize bs u = M at *
        repeat' (first | with_reducible first | refine kI (by kernel_rfl) ?_ | refine kN (by kernel_rfl) ?_ | (first | refine kB1 ?_ ?_ | refine kB2 ?_ ?_) <;> intro hp | (first | refine kD1 ?_ ?_ | refine kD2 ?_ ?_ | refine kS1 ?_ ?_ | refine kS2 ?_ ?_) <;> intro hp <;> try simp only [hp] | simp -implicitDefEqProofs (disch := omega) only [go_sem, Nat.reduceAdd, Nat.reduceSub, reduceCtorEq, Nat.reduceLT, Nat.reduceLeDiff, Nat.reduceEqDiff, Nat.reduceMul, Int.reduceToNat, ↓reduceIte, List.take_of_length_le, if_pos, if_neg, List.getElem?_set_self, List.set_set, getD_exs, evApp_st0, cnE, cnV, Tryd.ntmps16, Tryd.results16,  hii, hwd, hdr, hrl2, hW2, Tryd.underlying46, ha, qa, hi, qi, hcm])
        exact ⟨_, rfl, .inl ⟨rfl, rfl⟩⟩
    · have hir : i = r.length := by omega
      rw [hir, List.take_length] at g2
      have hni : ¬ (i : Int) < (r.length : Int) := by omega
      rw [hpa l g2]
      have qa := gActB_eq (a := ⟨K, l⟩) (by dsimp only; omega)
      cases e : actB ⟨K, l⟩ with
      | false =>
        rw [e] at qa
        rw [if_neg (by simp)]
        match i, g3 with
        | 0, g3 =>
          obtain rfl : l = [] := List.eq_nil_of_length_eq_zero g3
          repeat' (first | with_reducible first | refine kI (by kernel_rfl) ?_ | refine kN (by kernel_rfl) ?_ | (first | refine kB1 ?_ ?_ | refine kB2 ?_ ?_) <;> intro hp | (first | refine kD1 ?_ ?_ | refine kD2 ?_ ?_ | refine kS1 ?_ ?_ | refine kS2 ?_ ?_) <;> intro hp <;> try simp only [hp] | simp -implicitDefEqProofs (disch := omega) only [go_sem, Nat.reduceAdd, Nat.reduceSub, reduceCtorEq, Nat.reduceLT, Nat.reduceLeDiff, Nat.reduceEqDiff, Nat.reduceMul, Int.reduceToNat, ↓reduceIte, List.take_of_length_le, if_pos, if_neg, List.getElem?_set_self, List.set_set, getD_exs, evApp_st0, cnE, cnV, Tryd.ntmps16, Tryd.results16,  hni, hdr, hrl2, hW2, nuR_0, nuN_0, hv, qa])
          exact ⟨_, rfl, .inl ⟨rfl, rfl⟩⟩
        | i + 1, g3 =>
          repeat' (first | with_reducible first | refine kI (by kernel_rfl) ?_ | refine kN (by kernel_rfl) ?_ | (first | refine kB1 ?_ ?_ | refine kB2 ?_ ?_) <;> intro hp | (first | refine kD1 ?_ ?_ | refine kD2 ?_ ?_ | refine kS1 ?_ ?_ | refine kS2 ?_ ?_) <;> intro hp <;> try simp only [hp] | simp -implicitDefEqProofs (disch := omega) only [go_sem, Nat.reduceAdd, Nat.reduceSub, reduceCtorEq, Nat.reduceLT, Nat.reduceLeDiff, Nat.reduceEqDiff, Nat.reduceMul, Int.reduceToNat, ↓reduceIte, List.take_of_length_le, if_pos, if_neg, List.getElem?_set_self, List.set_set, getD_exs, evApp_st0, cnE, cnV, Tryd.ntmps16, Tryd.results16,  hni, hdr, hrl2, hW2, nuR_s, nuN_s, g3, hv, qa])
          first | exact ⟨_, rfl, .inl ⟨rfl, rfl⟩⟩ | exact ⟨_, rfl, liN_mk g3 rfl⟩
      | true =>
        rw [e] at qa
        rw [if_pos rfl]
        match i, g3 with
        | 0, g3 =>
          obtain rfl : l = [] := List.eq_nil_of_length_eq_zero g3
          repeat' (first | with_reducible first | refine kI (by kernel_rfl) ?_ | refine kN (by kernel_rfl) ?_ | (first | refine kB1 ?_ ?_ | refine kB2 ?_ ?_) <;> intro hp | (first | refine kD1 ?_ ?_ | refine kD2 ?_ ?_ | refine kS1 ?_ ?_ | refine kS2 ?_ ?_) <;> intro hp <;> try simp only [hp] | simp -implicitDefEqProofs (disch := omega) only [go_sem, Nat.reduceAdd, Nat.reduceSub, reduceCtorEq, Nat.reduceLT, Nat.reduceLeDiff, Nat.reduceEqDiff, Nat.reduceMul, Int.reduceToNat, ↓reduceIte, List.take_of_length_le, if_pos, if_neg, List.getElem?_set_self, List.set_set, getD_exs, evApp_st0, cnE, cnV, Tryd.ntmps16, Tryd.results16,  hni, hdr, hrl2, hW2, nuR_0, nuN_0, hv, qa])
          exact ⟨_, rfl, .inl ⟨rfl, rfl⟩⟩
        | i + 1, g3 =>
          repeat' (first | with_reducible first | refine kI (by kernel_rfl) ?_ | refine kN (by kernel_rfl) ?_ | (first | refine kB1 ?_ ?_ | refine kB2 ?_ ?_) <;> intro hp | (first | refine kD1 ?_ ?_ | refine kD2 ?_ ?_ | refine kS1 ?_ ?_ | refine kS2 ?_ ?_) <;> intro hp <;> try simp only [hp] | simp -implicitDefEqProofs (disch := omega) only [go_sem, Nat.reduceAdd, Nat.reduceSub, reduceCtorEq, Nat.reduceLT, Nat.reduceLeDiff, Nat.reduceEqDiff, Nat.reduceMul, Int.reduceToNat, ↓reduceIte, List.take_of_length_le, if_pos, if_neg, List.getElem?_set_self, List.set_set, getD_exs, evApp_st0, cnE, cnV, Tryd.ntmps16, Tryd.results16,  hni, hdr, hrl2, hW2, nuR_s, nuN_s, g3, hv, qa])
          first | exact ⟨_, rfl, .inl ⟨rfl, rfl⟩⟩ | exact ⟨_, rfl, liN_mk g3 rfl⟩
theorem can_parseActI : CanCall Tryd.prog 16 := ⟨_, Tryd.func16, rfl, rfl⟩
def ParX : Prop := ∀ s : ByteArray, s.size < 4294967281 → ISpec Tryd.prog 16 [.str s] [] fun v L' => acK 0 L' (parR s.data.toList) v
def ParXX : Prop := ∀ s : ByteArray, s.size < 4294967281 → ISpec Tryd.prog 6 [.str s] [] fun v L' => acK 0 L' (parR s.data.toList) v
set_option maxHeartbeats 4000000 in
set_option maxRecDepth 100000 in
theorem isp_ParseActX {Sg : FuncId → Option (List AV → Option AV)} (hS : Sound Tryd.prog Sg) (n1 : Sg 16 = none) (s : ByteArray) (h : s.size < 4294967281) (hp : ParX) : ISpec Tryd.prog 6 [.str s] [] (fun v L' => acK 0 L' (parR s.data.toList) v) := by
  refine ISpec.intro Tryd.func6 rfl (vc3_sound Tryd.pf hS hS _ _ _ ?_)
  repeat' (first | with_reducible first | refine kI (by kernel_rfl) ?_ | (first | refine kB1 ?_ ?_ | refine kB2 ?_ ?_) <;> intro hp | (first | refine kD1 ?_ ?_ | refine kD2 ?_ ?_ | refine kS1 ?_ ?_ | refine kS2 ?_ ?_) <;> intro hp <;> try simp only [hp] | simp -implicitDefEqProofs (disch := omega) only [go_sem, Nat.reduceAdd, Nat.reduceSub, reduceCtorEq, Nat.reduceLT, Nat.reduceLeDiff, Nat.reduceEqDiff, Nat.reduceMul, Int.reduceToNat, ↓reduceIte, List.take_of_length_le, if_pos, if_neg, List.getElem?_set_self, List.set_set, getD_exs, evApp_st0, cnE, cnV, Tryd.ntmps6, Tryd.results6,  n1, opQ_none])
  refine InlK_intro rfl rfl can_parseActI (callF (hp s h) (by simp only [go_sem]) ?_)
  intro v N hv
  obtain ⟨x, e, hx⟩ := acK_frame (L := _) hv
  rw [e]
  generalize parR s.data.toList = p at *
  obtain ⟨⟨k, l⟩, b⟩ := p
  dsimp only at hx
  rcases hx with ⟨rfl, h0⟩ | ⟨c, rfl, hc, hlo⟩
  · repeat' (first | with_reducible first | refine kI (by kernel_rfl) ?_ | (first | refine kB1 ?_ ?_ | refine kB2 ?_ ?_) <;> intro hp | (first | refine kD1 ?_ ?_ | refine kD2 ?_ ?_ | refine kS1 ?_ ?_ | refine kS2 ?_ ?_) <;> intro hp <;> try simp only [hp] | simp -implicitDefEqProofs (disch := omega) only [go_sem, Nat.reduceAdd, Nat.reduceSub, reduceCtorEq, Nat.reduceLT, Nat.reduceLeDiff, Nat.reduceEqDiff, Nat.reduceMul, Int.reduceToNat, ↓reduceIte, List.take_of_length_le, if_pos, if_neg, List.getElem?_set_self, List.set_set, getD_exs, evApp_st0, cnE, cnV, Tryd.ntmps6, Tryd.results6])
    exact ⟨_, rfl, .inl ⟨rfl, h0⟩⟩
  · repeat' (first | with_reducible first | refine kI (by kernel_rfl) ?_ | (first | refine kB1 ?_ ?_ | refine kB2 ?_ ?_) <;> intro hp | (first | refine kD1 ?_ ?_ | refine kD2 ?_ ?_ | refine kS1 ?_ ?_ | refine kS2 ?_ ?_) <;> intro hp <;> try simp only [hp] | simp -implicitDefEqProofs (disch := omega) only [go_sem, Nat.reduceAdd, Nat.reduceSub, reduceCtorEq, Nat.reduceLT, Nat.reduceLeDiff, Nat.reduceEqDiff, Nat.reduceMul, Int.reduceToNat, ↓reduceIte, List.take_of_length_le, if_pos, if_neg, List.getElem?_set_self, List.set_set, getD_exs, evApp_st0, cnE, cnV, Tryd.ntmps6, Tryd.results6])
    exact ⟨_, rfl, .inr ⟨c, rfl, get_hd hlo hc, Nat.zero_le _⟩⟩
end Go.Proofs.YtkmnepmnjpdpkaaDoor
