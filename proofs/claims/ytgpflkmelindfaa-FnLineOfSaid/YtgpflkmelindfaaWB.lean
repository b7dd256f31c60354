/- Contracts of functions on views and memories that the laws of this seat call. -/
import Derived.Test.YtgpflkmelindfaaWA
set_option linter.all false
namespace Go.Proofs.Ytgpflkmelindfaa
open Go Go.Ev Go.RowKit Go.Ev.Enc Go.Pl

def DrFill (f : FuncId) : Prop := ∀ (bs : List UInt8), bs.length ≤ 1048576 → ∀ L : List Blk, ISpec Try.prog f [bytesA 0 bs] L fun r L' => ∃ (m : List Int) (v : Vi) (x : Int), m.length ≤ 60 ∧ viOK v ∧ r = .tup [ints 1 m, viD v, i64 x] ∧ L' = L
theorem fill_at {m A V : List Int} {x : Int} (hV : ∀ k, k < A.length → V.getD k 0 = x) (hA : inM A m.length) : ∀ k, k ≤ A.length → ∀ i, i < k → (stoT m A V k).getD (A.getD i 0).toNat 0 = x
  | k + 1, hk, i, hi => by
    obtain ⟨j, hj, hjm⟩ := in_at hA (show i < A.length by omega)
    rw [stoT, hj, Int.toNat_natCast, hV k (by omega)]
    by_cases he : (A.getD k 0).toNat = j
    · rw [he, getD_set_eq (by rw [stoT_len]; exact hjm)]
    · rw [getD_set_ne (Ne.symm he)]
      have hik : i < k := by
        rcases Nat.lt_or_eq_of_le (Nat.le_of_lt_succ hi) with h | h
        · exact h
        · subst h; rw [hj] at he; exact absurd rfl he
      have := fill_at hV hA k (by omega) i hik
      rw [hj, Int.toNat_natCast] at this
      exact this
theorem tkn_atI {m A : List Int} {i : Nat} (h : i < A.length) : (tkn m A).getD i 0 = m.getD (A.getD i 0).toNat 0 := by simp [tkn, h]
theorem can_DrawFillView : CanCall Try.prog 16 := ⟨_, Try.func16, rfl, rfl⟩
theorem eq_nil_t : gEqInts [] [] = some true := (gEqInts_eq (a := []) (b := []) ⟨by decide, by decide⟩).trans rfl
theorem within_srt {C A : List Int} (h : ∀ x ∈ C, x ∈ A) : (C.all fun x => (srt A).contains x) = true := within_mem fun x hx => (srt_mem A x).2 (h x hx)
set_option maxHeartbeats 8000000 in
set_option maxRecDepth 100000 in
theorem law_FillView {Sg Sd : FuncId → Option (List AV → Option AV)} (hS : Sound Try.prog Sg) (hD : Sound Try.prog Sd) (n1 : Sg 16 = none) (h1 : Sg 17 = some (F3 gFill)) (h2 : Sg 18 = some (F3 gFill)) (h3 : Sg 14 = some (F2 gEqInts)) (h4 : Sg 19 = some (F2 gLoad)) (h5 : Sd 21 = some (F2 gChg)) (h6 : Sd 15 = some (F1 gCellsT)) (h7 : Sd 20 = some (F2 gWithin)) (hDr : DrFill 16) : ∀ a r, F1 gTrueW a = some r → CSpec Try.prog 4 a r := by
  refine F1_spec ?_
  intro bs r hr
  obtain ⟨g1, rfl⟩ := gd_some hr
  refine law3 Try.func4 rfl Try.pf hS hD ?_
  by_cases hb : 1048576 < bs.length
  · repeat' (first | with_reducible first | refine kI (by kernel_rfl) ?_ | refine kN (by kernel_rfl) ?_ | (first | refine kB1 ?_ ?_ | refine kB2 ?_ ?_) <;> intro hp | (first | refine kD1 ?_ ?_ | refine kD2 ?_ ?_ | refine kS1 ?_ ?_ | refine kS2 ?_ ?_) <;> intro hp <;> try simp only [hp] | simp -implicitDefEqProofs (disch := omega) only [go_sem, Nat.reduceAdd, Nat.reduceSub, reduceCtorEq, Nat.reduceLT, Nat.reduceLeDiff, Nat.reduceEqDiff, Nat.reduceMul, Int.reduceToNat, ↓reduceIte, List.take_of_length_le, if_pos, if_neg, List.getElem?_set_self, List.set_set, cnE, cnV, Try.ntmps4, Try.results4])
  · repeat' (first | with_reducible first | refine kI (by kernel_rfl) ?_ | refine kN (by kernel_rfl) ?_ | (first | refine kB1 ?_ ?_ | refine kB2 ?_ ?_) <;> intro hp | (first | refine kD1 ?_ ?_ | refine kD2 ?_ ?_ | refine kS1 ?_ ?_ | refine kS2 ?_ ?_) <;> intro hp <;> try simp only [hp] | simp -implicitDefEqProofs (disch := omega) only [go_sem, Nat.reduceAdd, Nat.reduceSub, reduceCtorEq, Nat.reduceLT, Nat.reduceLeDiff, Nat.reduceEqDiff, Nat.reduceMul, Int.reduceToNat, ↓reduceIte, List.take_of_length_le, if_pos, if_neg, List.getElem?_set_self, List.set_set, cnE, cnV, Try.ntmps4, Try.results4,  n1, opQ_none])
    refine InlK_intro rfl rfl can_DrawFillView ((hDr bs (by omega) _).mono ?_)
    rintro r L1 ⟨m, v, y, hm60, ⟨k1, k2⟩, rfl, rfl⟩
    have hmv : memB m v := ⟨by omega, by omega, by omega⟩
    have q1 := gFill_eq hmv y
    unfold filR at q1
    by_cases hc : holdB m v = true ∧ inR y 0 255 = true
    · rw [if_pos hc] at q1
      obtain ⟨e1, e2⟩ := hc
      obtain ⟨f1, f2, f3⟩ := fit_in e1
      have hy : 0 ≤ y ∧ y ≤ 255 := by unfold inR at e2; simpa using e2
      have h6' := offF_60 (vOK f2).1
      have hVl : (repV v y).length = (offF v).length := by simp [repV]
      have hV : ∀ k, k < (offF v).length → (repV v y).getD k 0 = y := fun k hk => by simp [repV, hk]
      have hVm : ∀ x ∈ repV v y, 0 ≤ x ∧ x ≤ 255 := fun x hx => by
        have := (List.mem_replicate.1 hx).2
        omega
      generalize repV v y = V at *
      have hmo := sto_mem (A := offF v) f1 hVm (k := (offF v).length) (by omega)
      have hln := stoT_len m (offF v) V (offF v).length
      have hfa := fill_at hV f3 (offF v).length (Nat.le_refl _)
      have hch := within_srt (chg_sto (V := V) f3 (Nat.le_refl (offF v).length))
      have hcl := chgT_len m (stoT m (offF v) V (offF v).length) m.length
      have q4 := gLoad_eq (m := stoT m (offF v) V (offF v).length) (v := v) ⟨by omega, hmv.2⟩
      rw [hold_of e1 hmo hln, if_pos rfl] at q4
      have hta := fun i hi => tkn_atI (m := stoT m (offF v) V (offF v).length) (A := offF v) (i := i) hi
      have htl := tkn_len (stoT m (offF v) V (offF v).length) (offF v)
      have q5 := gChg_eq (a := m) (b := stoT m (offF v) V (offF v).length) ⟨by omega, by omega⟩
      have hcl2 : (chgF m (stoT m (offF v) V (offF v).length)).length ≤ 60 := by
        unfold chgF
        split
        · omega
        · simp
      have q6 := gCellsT_eq hmv.2
      rw [f2, if_pos rfl] at q6
      have hsl := srt_len (offF v)
      have q7 := (gWithin_eq (a := chgF m (stoT m (offF v) V (offF v).length)) (b := srt (offF v)) ⟨by omega, by omega⟩).trans (by rw [hch])
      have q3 := (gEqInts_eq (a := stoT m (offF v) V (offF v).length) (b := stoT m (offF v) V (offF v).length) ⟨by omega, by omega⟩).trans (by rw [decide_eq_true rfl])
      generalize chgF m (stoT m (offF v) V (offF v).length) = C at *
      generalize stoT m (offF v) V (offF v).length = O at *
      have hall : ∀ i, i < (tkn O (offF v)).length → (tkn O (offF v)).getD i 0 = y := fun i hi => by
        rw [hta i (by omega)]
        exact hfa i (by omega)
      generalize tkn O (offF v) = T at *
      repeat' (first | with_reducible first | refine kI (by kernel_rfl) ?_ | refine kN (by kernel_rfl) ?_ | (first | refine kB1 ?_ ?_ | refine kB2 ?_ ?_) <;> intro hp | (first | refine kD1 ?_ ?_ | refine kD2 ?_ ?_ | refine kS1 ?_ ?_ | refine kS2 ?_ ?_) <;> intro hp <;> try simp only [hp] | simp -implicitDefEqProofs (disch := omega) only [go_sem, Nat.reduceAdd, Nat.reduceSub, reduceCtorEq, Nat.reduceLT, Nat.reduceLeDiff, Nat.reduceEqDiff, Nat.reduceMul, Int.reduceToNat, ↓reduceIte, List.take_of_length_le, if_pos, if_neg, List.getElem?_set_self, List.set_set, cnE, cnV, Try.ntmps4, Try.results4,  h1, q1, h2, h3, q3, h4, q4])
      refine LoopQ.mix (fun t0 L0 nn ss => ∃ (i : Nat) (_ : Unit), (∃ x : Nat → AV, ss = ⟨mixL 0 (.k :: .k :: .s :: .k :: .k :: .k :: .k :: .k :: .k :: .k :: .k :: .v (i64 (i : Nat)) :: .k :: .k :: .k :: .k :: .k :: .k :: .k :: .k :: .k :: .k :: .k :: .k :: .k :: .k :: .k :: .k :: .k :: .k :: .k :: .k :: .k :: .k :: .k :: .k :: .k :: .k :: .k :: .k :: .k :: .k :: .k :: .k :: .k :: .k :: .k :: .k :: .k :: .k :: .k :: .k :: .k :: .k :: .k :: .k :: .k :: .k :: .k :: .s :: .s :: .s :: .s :: .s :: .s :: .s :: .s :: .s :: .s :: .s :: .s :: .k :: .k :: .k :: .k :: .k :: .k :: []) t0 x, L0⟩) ∧ (i ≤ T.length) ∧ nn = T.length - i) ?_ ?_
      · exact ⟨_, ⟨0, (), mixI rfl, Nat.zero_le _, rfl⟩⟩
      · rintro I0 hI0 nn s ⟨i, _, ⟨x, rfl⟩, g1, rfl⟩
        by_cases hi : i < T.length
        · have hii : (i : Int) < (T.length : Int) := by omega
          have he := hall i hi
          repeat' (first | with_reducible first | refine kI (by kernel_rfl) ?_ | refine kN (by kernel_rfl) ?_ | (first | refine kB1 ?_ ?_ | refine kB2 ?_ ?_) <;> intro hp | (first | refine kD1 ?_ ?_ | refine kD2 ?_ ?_ | refine kS1 ?_ ?_ | refine kS2 ?_ ?_) <;> intro hp <;> try simp only [hp] | simp -implicitDefEqProofs (disch := omega) only [go_sem, Nat.reduceAdd, Nat.reduceSub, reduceCtorEq, Nat.reduceLT, Nat.reduceLeDiff, Nat.reduceEqDiff, Nat.reduceMul, Int.reduceToNat, ↓reduceIte, List.take_of_length_le, if_pos, if_neg, List.getElem?_set_self, List.set_set, cnE, cnV, Try.ntmps4, Try.results4,  hii, getD_ints hi, he])
          exact ⟨T.length - (i + 1), by omega, hI0 _ _ ⟨i + 1, (), mixI rfl, hi, rfl⟩⟩
        · obtain rfl : i = T.length := by omega
          repeat' (first | with_reducible first | refine kI (by kernel_rfl) ?_ | refine kN (by kernel_rfl) ?_ | (first | refine kB1 ?_ ?_ | refine kB2 ?_ ?_) <;> intro hp | (first | refine kD1 ?_ ?_ | refine kD2 ?_ ?_ | refine kS1 ?_ ?_ | refine kS2 ?_ ?_) <;> intro hp <;> try simp only [hp] | simp -implicitDefEqProofs (disch := omega) only [go_sem, Nat.reduceAdd, Nat.reduceSub, reduceCtorEq, Nat.reduceLT, Nat.reduceLeDiff, Nat.reduceEqDiff, Nat.reduceMul, Int.reduceToNat, ↓reduceIte, List.take_of_length_le, if_pos, if_neg, List.getElem?_set_self, List.set_set, cnE, cnV, Try.ntmps4, Try.results4,  h5, q5, h6, q6, h7, q7])
    · rw [if_neg hc] at q1
      have q3 := eq_nil_t
      repeat' (first | with_reducible first | refine kI (by kernel_rfl) ?_ | refine kN (by kernel_rfl) ?_ | (first | refine kB1 ?_ ?_ | refine kB2 ?_ ?_) <;> intro hp | (first | refine kD1 ?_ ?_ | refine kD2 ?_ ?_ | refine kS1 ?_ ?_ | refine kS2 ?_ ?_) <;> intro hp <;> try simp only [hp] | simp -implicitDefEqProofs (disch := omega) only [go_sem, Nat.reduceAdd, Nat.reduceSub, reduceCtorEq, Nat.reduceLT, Nat.reduceLeDiff, Nat.reduceEqDiff, Nat.reduceMul, Int.reduceToNat, ↓reduceIte, List.take_of_length_le, if_pos, if_neg, List.getElem?_set_self, List.set_set, cnE, cnV, Try.ntmps4, Try.results4,  h1, q1, h2, h3, q3, dec_i0])
end Go.Proofs.Ytgpflkmelindfaa
namespace Go.Proofs.Ytgpflkmelindfaa
open Go Go.Ev Go.RowKit Go.Ev.Enc Go.Pl

set_option maxHeartbeats 4000000 in
set_option maxRecDepth 100000 in
theorem spec_isSlice {Sg : FuncId → Option (List AV → Option AV)} (hS : Sound Try.prog Sg) : ∀ a r, F1 gValidSl a = some r → CSpec Try.prog 90 a r := by
  refine F1_spec ?_
  intro s r hr0
  obtain ⟨-, rfl⟩ := gd_some hr0
  refine CSpec.intro Try.func90 rfl (own _) (vc3_sound Try.pf hS hS _ _ _ ?_)
  repeat' (first | with_reducible first | refine kI (by kernel_rfl) ?_ | refine kN (by kernel_rfl) ?_ | (first | refine kB1 ?_ ?_ | refine kB2 ?_ ?_) <;> intro hp | (first | refine kD1 ?_ ?_ | refine kD2 ?_ ?_ | refine kS1 ?_ ?_ | refine kS2 ?_ ?_) <;> intro hp <;> try simp only [hp] | simp -implicitDefEqProofs (disch := omega) only [go_sem, Nat.reduceAdd, Nat.reduceSub, reduceCtorEq, Nat.reduceLT, Nat.reduceLeDiff, Nat.reduceEqDiff, Nat.reduceMul, Int.reduceToNat, ↓reduceIte, List.take_of_length_le, if_pos, if_neg, List.getElem?_set_self, List.set_set, cnE, cnV, Try.ntmps90, Try.results90])
  all_goals (unfold slOK inR; first | (simp_all; done) | (simp_all; omega))
set_option maxHeartbeats 4000000 in
set_option maxRecDepth 100000 in
theorem spec_endOf {Sg : FuncId → Option (List AV → Option AV)} (hS : Sound Try.prog Sg) : ∀ a r, F3 gBound a = some r → CSpec Try.prog 129 a r := by
  refine F3_spec ?_
  intro n i s r hr
  obtain ⟨⟨⟨h1, h2⟩, h3, h4⟩, rfl⟩ := gd_some hr
  refine CSpec.intro Try.func129 rfl (own _) (vc3_sound Try.pf hS hS _ _ _ ?_)
  have w1 : IntKind.i64.wrap (n - 1) = n - 1 := wrap_in (by omega)
  have w2 : IntKind.i64.wrap (i + n) = i + n := wrap_in (by omega)
  by_cases c1 : s < 0
  · by_cases c2 : i < 0
    · repeat' (first | with_reducible first | refine kI (by kernel_rfl) ?_ | refine kN (by kernel_rfl) ?_ | (first | refine kB1 ?_ ?_ | refine kB2 ?_ ?_) <;> intro hp | (first | refine kD1 ?_ ?_ | refine kD2 ?_ ?_ | refine kS1 ?_ ?_ | refine kS2 ?_ ?_) <;> intro hp <;> try simp only [hp] | simp -implicitDefEqProofs (disch := omega) only [go_sem, Nat.reduceAdd, Nat.reduceSub, reduceCtorEq, Nat.reduceLT, Nat.reduceLeDiff, Nat.reduceEqDiff, Nat.reduceMul, Int.reduceToNat, ↓reduceIte, List.take_of_length_le, if_pos, if_neg, List.getElem?_set_self, List.set_set, cnE, cnV, Try.ntmps129, Try.results129,  c1, c2, w1, w2])
      all_goals (unfold bndF; simp only [c1, c2, if_true, if_false]; (repeat' split) <;> omega)
    · repeat' (first | with_reducible first | refine kI (by kernel_rfl) ?_ | refine kN (by kernel_rfl) ?_ | (first | refine kB1 ?_ ?_ | refine kB2 ?_ ?_) <;> intro hp | (first | refine kD1 ?_ ?_ | refine kD2 ?_ ?_ | refine kS1 ?_ ?_ | refine kS2 ?_ ?_) <;> intro hp <;> try simp only [hp] | simp -implicitDefEqProofs (disch := omega) only [go_sem, Nat.reduceAdd, Nat.reduceSub, reduceCtorEq, Nat.reduceLT, Nat.reduceLeDiff, Nat.reduceEqDiff, Nat.reduceMul, Int.reduceToNat, ↓reduceIte, List.take_of_length_le, if_pos, if_neg, List.getElem?_set_self, List.set_set, cnE, cnV, Try.ntmps129, Try.results129,  c1, c2, w1])
      all_goals (unfold bndF; simp only [c1, c2, if_true, if_false]; (repeat' split) <;> omega)
  · by_cases c2 : i < 0
    · repeat' (first | with_reducible first | refine kI (by kernel_rfl) ?_ | refine kN (by kernel_rfl) ?_ | (first | refine kB1 ?_ ?_ | refine kB2 ?_ ?_) <;> intro hp | (first | refine kD1 ?_ ?_ | refine kD2 ?_ ?_ | refine kS1 ?_ ?_ | refine kS2 ?_ ?_) <;> intro hp <;> try simp only [hp] | simp -implicitDefEqProofs (disch := omega) only [go_sem, Nat.reduceAdd, Nat.reduceSub, reduceCtorEq, Nat.reduceLT, Nat.reduceLeDiff, Nat.reduceEqDiff, Nat.reduceMul, Int.reduceToNat, ↓reduceIte, List.take_of_length_le, if_pos, if_neg, List.getElem?_set_self, List.set_set, cnE, cnV, Try.ntmps129, Try.results129,  c1, c2, w2])
      all_goals (unfold bndF; simp only [c1, c2, if_true, if_false]; (repeat' split) <;> omega)
    · repeat' (first | with_reducible first | refine kI (by kernel_rfl) ?_ | refine kN (by kernel_rfl) ?_ | (first | refine kB1 ?_ ?_ | refine kB2 ?_ ?_) <;> intro hp | (first | refine kD1 ?_ ?_ | refine kD2 ?_ ?_ | refine kS1 ?_ ?_ | refine kS2 ?_ ?_) <;> intro hp <;> try simp only [hp] | simp -implicitDefEqProofs (disch := omega) only [go_sem, Nat.reduceAdd, Nat.reduceSub, reduceCtorEq, Nat.reduceLT, Nat.reduceLeDiff, Nat.reduceEqDiff, Nat.reduceMul, Int.reduceToNat, ↓reduceIte, List.take_of_length_le, if_pos, if_neg, List.getElem?_set_self, List.set_set, cnE, cnV, Try.ntmps129, Try.results129,  c1, c2])
      all_goals (unfold bndF; simp only [c1, c2, if_true, if_false]; (repeat' split) <;> omega)
set_option maxHeartbeats 4000000 in
set_option maxRecDepth 100000 in
theorem spec_numbersOf {Sg : FuncId → Option (List AV → Option AV)} (hS : Sound Try.prog Sg) : ∀ a r, F1 gNumbers a = some r → CSpec Try.prog 88 a r := by
  refine F1_spec ?_
  intro g r hr
  obtain ⟨hb, rfl⟩ := gd_some hr
  refine CSpec.intro Try.func88 rfl (own _) (vc3_sound Try.pf hS hS _ _ _ ?_)
  have hb' := hb
  obtain ⟨⟨b1, b2⟩, ⟨b3, b4⟩, b5, b6⟩ := hb'
  have hl := numF_len hb
  have hd0 : distR g.z g.s g.a ≤ 2000 := by unfold distR; split <;> omega
  repeat' (first | with_reducible first | refine kI (by kernel_rfl) ?_ | refine kN (by kernel_rfl) ?_ | (first | refine kB1 ?_ ?_ | refine kB2 ?_ ?_) <;> intro hp | (first | refine kD1 ?_ ?_ | refine kD2 ?_ ?_ | refine kS1 ?_ ?_ | refine kS2 ?_ ?_) <;> intro hp <;> try simp only [hp] | simp -implicitDefEqProofs (disch := omega) only [go_sem, Nat.reduceAdd, Nat.reduceSub, reduceCtorEq, Nat.reduceLT, Nat.reduceLeDiff, Nat.reduceEqDiff, Nat.reduceMul, Int.reduceToNat, ↓reduceIte, List.take_of_length_le, if_pos, if_neg, List.getElem?_set_self, List.set_set, cnE, cnV, Try.ntmps88, Try.results88])
  refine LoopQ.mix (fun t0 L0 nn ss => ∃ (k : Nat) (y : Int) (q : List Int) (_ : Unit), (∃ x : Nat → AV, ss = ⟨mixL 0 (.k :: .k :: .k :: .v (.sl 1 k 0 k k) :: .v (i64 y) :: .k :: .k :: .k :: .s :: .s :: .s :: .s :: .s :: .s :: .s :: .s :: .s :: .s :: .s :: .s :: .s :: .s :: .s :: .s :: .s :: .s :: .s :: .s :: .s :: .s :: .s :: .s :: .s :: .s :: .s :: .s :: .k :: []) t0 x, [⟨3, [.agg [i64 g.a, i64 g.z, i64 g.s]]⟩, ⟨1, q.map fun n => .int .i64 n⟩]⟩) ∧ (q.length = k) ∧ (k + distR g.z g.s y ≤ 2000) ∧ (-2000 ≤ y ∧ y ≤ 2000) ∧ (q ++ numL g.z g.s (distR g.z g.s y) y = numF g) ∧ nn = distR g.z g.s y + 1) ?_ ?_
  · exact ⟨_, ⟨0, g.a, [], (), mixJ rfl (rfl), rfl, by omega, ⟨by omega, by omega⟩, rfl, rfl⟩⟩
  · rintro I0 hI0 nn ss ⟨k, y, q, _, ⟨x, rfl⟩, m1, m2, ⟨m3, m4⟩, m5, rfl⟩
    by_cases hg : goesOn g.z g.s y
    · rw [numF_on hg] at m5
      have h1 := dist_step hg
      have hw : IntKind.i64.wrap (y + g.s) = y + g.s := wrap_in (by omega)
      have h5 : (q ++ [y]) ++ numL g.z g.s (distR g.z g.s (y + g.s)) (y + g.s) = numF g := by rw [← m5]; simp
      have h6 : -2000 ≤ y + g.s ∧ y + g.s ≤ 2000 := by unfold goesOn at hg; omega
      rcases hg with ⟨s1, s2⟩ | ⟨s1, s2⟩
      · repeat' (first | with_reducible first | refine kI (by kernel_rfl) ?_ | refine kN (by kernel_rfl) ?_ | (first | refine kB1 ?_ ?_ | refine kB2 ?_ ?_) <;> intro hp | (first | refine kD1 ?_ ?_ | refine kD2 ?_ ?_ | refine kS1 ?_ ?_ | refine kS2 ?_ ?_) <;> intro hp <;> try simp only [hp] | simp -implicitDefEqProofs (disch := omega) only [go_sem, Nat.reduceAdd, Nat.reduceSub, reduceCtorEq, Nat.reduceLT, Nat.reduceLeDiff, Nat.reduceEqDiff, Nat.reduceMul, Int.reduceToNat, ↓reduceIte, List.take_of_length_le, if_pos, if_neg, List.getElem?_set_self, List.set_set, cnE, cnV, Try.ntmps88, Try.results88,  s1, s2, hw])
        exact ⟨distR g.z g.s (y + g.s) + 1, by omega, hI0 _ _ ⟨k + 1, y + g.s, q ++ [y], (), mixI rfl, by simp [m1], by omega, h6, h5, rfl⟩⟩
      · have s3 : ¬ 0 < g.s := by omega
        repeat' (first | with_reducible first | refine kI (by kernel_rfl) ?_ | refine kN (by kernel_rfl) ?_ | (first | refine kB1 ?_ ?_ | refine kB2 ?_ ?_) <;> intro hp | (first | refine kD1 ?_ ?_ | refine kD2 ?_ ?_ | refine kS1 ?_ ?_ | refine kS2 ?_ ?_) <;> intro hp <;> try simp only [hp] | simp -implicitDefEqProofs (disch := omega) only [go_sem, Nat.reduceAdd, Nat.reduceSub, reduceCtorEq, Nat.reduceLT, Nat.reduceLeDiff, Nat.reduceEqDiff, Nat.reduceMul, Int.reduceToNat, ↓reduceIte, List.take_of_length_le, if_pos, if_neg, List.getElem?_set_self, List.set_set, cnE, cnV, Try.ntmps88, Try.results88,  s1, s2, s3, hw])
        exact ⟨distR g.z g.s (y + g.s) + 1, by omega, hI0 _ _ ⟨k + 1, y + g.s, q ++ [y], (), mixI rfl, by simp [m1], by omega, h6, h5, rfl⟩⟩
    · rw [numF_off hg, List.append_nil] at m5
      have hg' := hg
      unfold goesOn at hg'
      rw [not_or] at hg'
      repeat' (first | with_reducible first | refine kI (by kernel_rfl) ?_ | refine kN (by kernel_rfl) ?_ | (first | refine kB1 ?_ ?_ | refine kB2 ?_ ?_) <;> intro hp | (first | refine kD1 ?_ ?_ | refine kD2 ?_ ?_ | refine kS1 ?_ ?_ | refine kS2 ?_ ?_) <;> intro hp <;> try simp only [hp] | simp -implicitDefEqProofs (disch := omega) only [go_sem, Nat.reduceAdd, Nat.reduceSub, reduceCtorEq, Nat.reduceLT, Nat.reduceLeDiff, Nat.reduceEqDiff, Nat.reduceMul, Int.reduceToNat, ↓reduceIte, List.take_of_length_le, if_pos, if_neg, List.getElem?_set_self, List.set_set, cnE, cnV, Try.ntmps88, Try.results88])
      all_goals rw [m5]
set_option maxHeartbeats 4000000 in
set_option maxRecDepth 100000 in
theorem spec_indicesOf {Sg : FuncId → Option (List AV → Option AV)} (hS : Sound Try.prog Sg) (hb : Sg 129 = some (F3 gBound)) (hn : Sg 88 = some (F1 gNumbers)) : ∀ a r, F2 gIndices a = some r → CSpec Try.prog 95 a r := by
  refine F2_spec ?_
  intro n s r hr
  obtain ⟨⟨⟨h1, h2⟩, hs⟩, rfl⟩ := gd_some hr
  refine CSpec.intro Try.func95 rfl (own _) (vc3_sound Try.pf hS hS _ _ _ ?_)
  have q0 := gNumbers_eq (indR_b ⟨h1, h2⟩ hs)
  obtain ⟨⟨b1, b2⟩, ⟨b3, b4⟩, b5, b6⟩ := hs
  have q1 := gBound_eq (n := n) (i := s.f) (s := s.s) ⟨⟨by omega, by omega⟩, by omega, by omega⟩
  have q2 := gBound_eq (n := n) (i := s.t) (s := s.s) ⟨⟨by omega, by omega⟩, by omega, by omega⟩
  have w1 : IntKind.i64.wrap (n - 1) = n - 1 := wrap_in (by omega)
  have hI : indF n s = numF (indR n s) := rfl
  rw [hI]
  generalize hN : numF (indR n s) = N at q0 ⊢
  unfold indR at q0
  by_cases c1 : s.s < 0
  · rw [if_pos c1, if_pos c1] at q0
    cases e1 : s.hf <;> cases e2 : s.ht <;> rw [e1, e2] at q0
    · rw [if_neg (by simp), if_neg (by simp)] at q0
      repeat' (first | with_reducible first | refine kI (by kernel_rfl) ?_ | refine kN (by kernel_rfl) ?_ | (first | refine kB1 ?_ ?_ | refine kB2 ?_ ?_) <;> intro hp | (first | refine kD1 ?_ ?_ | refine kD2 ?_ ?_ | refine kS1 ?_ ?_ | refine kS2 ?_ ?_) <;> intro hp <;> try simp only [hp] | simp -implicitDefEqProofs (disch := omega) only [go_sem, Nat.reduceAdd, Nat.reduceSub, reduceCtorEq, Nat.reduceLT, Nat.reduceLeDiff, Nat.reduceEqDiff, Nat.reduceMul, Int.reduceToNat, ↓reduceIte, List.take_of_length_le, if_pos, if_neg, List.getElem?_set_self, List.set_set, cnE, cnV, Try.ntmps95, Try.results95,  c1, w1, e1, e2, hb, q1, q2, hn, q0])
    · rw [if_neg (by simp), if_pos rfl] at q0
      repeat' (first | with_reducible first | refine kI (by kernel_rfl) ?_ | refine kN (by kernel_rfl) ?_ | (first | refine kB1 ?_ ?_ | refine kB2 ?_ ?_) <;> intro hp | (first | refine kD1 ?_ ?_ | refine kD2 ?_ ?_ | refine kS1 ?_ ?_ | refine kS2 ?_ ?_) <;> intro hp <;> try simp only [hp] | simp -implicitDefEqProofs (disch := omega) only [go_sem, Nat.reduceAdd, Nat.reduceSub, reduceCtorEq, Nat.reduceLT, Nat.reduceLeDiff, Nat.reduceEqDiff, Nat.reduceMul, Int.reduceToNat, ↓reduceIte, List.take_of_length_le, if_pos, if_neg, List.getElem?_set_self, List.set_set, cnE, cnV, Try.ntmps95, Try.results95,  c1, w1, e1, e2, hb, q1, q2, hn, q0])
    · rw [if_pos rfl, if_neg (by simp)] at q0
      repeat' (first | with_reducible first | refine kI (by kernel_rfl) ?_ | refine kN (by kernel_rfl) ?_ | (first | refine kB1 ?_ ?_ | refine kB2 ?_ ?_) <;> intro hp | (first | refine kD1 ?_ ?_ | refine kD2 ?_ ?_ | refine kS1 ?_ ?_ | refine kS2 ?_ ?_) <;> intro hp <;> try simp only [hp] | simp -implicitDefEqProofs (disch := omega) only [go_sem, Nat.reduceAdd, Nat.reduceSub, reduceCtorEq, Nat.reduceLT, Nat.reduceLeDiff, Nat.reduceEqDiff, Nat.reduceMul, Int.reduceToNat, ↓reduceIte, List.take_of_length_le, if_pos, if_neg, List.getElem?_set_self, List.set_set, cnE, cnV, Try.ntmps95, Try.results95,  c1, w1, e1, e2, hb, q1, q2, hn, q0])
    · rw [if_pos rfl, if_pos rfl] at q0
      repeat' (first | with_reducible first | refine kI (by kernel_rfl) ?_ | refine kN (by kernel_rfl) ?_ | (first | refine kB1 ?_ ?_ | refine kB2 ?_ ?_) <;> intro hp | (first | refine kD1 ?_ ?_ | refine kD2 ?_ ?_ | refine kS1 ?_ ?_ | refine kS2 ?_ ?_) <;> intro hp <;> try simp only [hp] | simp -implicitDefEqProofs (disch := omega) only [go_sem, Nat.reduceAdd, Nat.reduceSub, reduceCtorEq, Nat.reduceLT, Nat.reduceLeDiff, Nat.reduceEqDiff, Nat.reduceMul, Int.reduceToNat, ↓reduceIte, List.take_of_length_le, if_pos, if_neg, List.getElem?_set_self, List.set_set, cnE, cnV, Try.ntmps95, Try.results95,  c1, w1, e1, e2, hb, q1, q2, hn, q0])
  · rw [if_neg c1, if_neg c1] at q0
    cases e1 : s.hf <;> cases e2 : s.ht <;> rw [e1, e2] at q0
    · rw [if_neg (by simp), if_neg (by simp)] at q0
      repeat' (first | with_reducible first | refine kI (by kernel_rfl) ?_ | refine kN (by kernel_rfl) ?_ | (first | refine kB1 ?_ ?_ | refine kB2 ?_ ?_) <;> intro hp | (first | refine kD1 ?_ ?_ | refine kD2 ?_ ?_ | refine kS1 ?_ ?_ | refine kS2 ?_ ?_) <;> intro hp <;> try simp only [hp] | simp -implicitDefEqProofs (disch := omega) only [go_sem, Nat.reduceAdd, Nat.reduceSub, reduceCtorEq, Nat.reduceLT, Nat.reduceLeDiff, Nat.reduceEqDiff, Nat.reduceMul, Int.reduceToNat, ↓reduceIte, List.take_of_length_le, if_pos, if_neg, List.getElem?_set_self, List.set_set, cnE, cnV, Try.ntmps95, Try.results95,  c1, e1, e2, hb, q1, q2, hn, q0])
    · rw [if_neg (by simp), if_pos rfl] at q0
      repeat' (first | with_reducible first | refine kI (by kernel_rfl) ?_ | refine kN (by kernel_rfl) ?_ | (first | refine kB1 ?_ ?_ | refine kB2 ?_ ?_) <;> intro hp | (first | refine kD1 ?_ ?_ | refine kD2 ?_ ?_ | refine kS1 ?_ ?_ | refine kS2 ?_ ?_) <;> intro hp <;> try simp only [hp] | simp -implicitDefEqProofs (disch := omega) only [go_sem, Nat.reduceAdd, Nat.reduceSub, reduceCtorEq, Nat.reduceLT, Nat.reduceLeDiff, Nat.reduceEqDiff, Nat.reduceMul, Int.reduceToNat, ↓reduceIte, List.take_of_length_le, if_pos, if_neg, List.getElem?_set_self, List.set_set, cnE, cnV, Try.ntmps95, Try.results95,  c1, e1, e2, hb, q1, q2, hn, q0])
    · rw [if_pos rfl, if_neg (by simp)] at q0
      repeat' (first | with_reducible first | refine kI (by kernel_rfl) ?_ | refine kN (by kernel_rfl) ?_ | (first | refine kB1 ?_ ?_ | refine kB2 ?_ ?_) <;> intro hp | (first | refine kD1 ?_ ?_ | refine kD2 ?_ ?_ | refine kS1 ?_ ?_ | refine kS2 ?_ ?_) <;> intro hp <;> try simp only [hp] | simp -implicitDefEqProofs (disch := omega) only [go_sem, Nat.reduceAdd, Nat.reduceSub, reduceCtorEq, Nat.reduceLT, Nat.reduceLeDiff, Nat.reduceEqDiff, Nat.reduceMul, Int.reduceToNat, ↓reduceIte, List.take_of_length_le, if_pos, if_neg, List.getElem?_set_self, List.set_set, cnE, cnV, Try.ntmps95, Try.results95,  c1, e1, e2, hb, q1, q2, hn, q0])
    · rw [if_pos rfl, if_pos rfl] at q0
      repeat' (first | with_reducible first | refine kI (by kernel_rfl) ?_ | refine kN (by kernel_rfl) ?_ | (first | refine kB1 ?_ ?_ | refine kB2 ?_ ?_) <;> intro hp | (first | refine kD1 ?_ ?_ | refine kD2 ?_ ?_ | refine kS1 ?_ ?_ | refine kS2 ?_ ?_) <;> intro hp <;> try simp only [hp] | simp -implicitDefEqProofs (disch := omega) only [go_sem, Nat.reduceAdd, Nat.reduceSub, reduceCtorEq, Nat.reduceLT, Nat.reduceLeDiff, Nat.reduceEqDiff, Nat.reduceMul, Int.reduceToNat, ↓reduceIte, List.take_of_length_le, if_pos, if_neg, List.getElem?_set_self, List.set_set, cnE, cnV, Try.ntmps95, Try.results95,  c1, e1, e2, hb, q1, q2, hn, q0])
def gIndT (n : Int) (s : Sl) : Option (List Int) := gd True (if inR n 0 60 = true ∧ slOK s = true then indF n s else [])
theorem gIndT_eq (n : Int) (s : Sl) : gIndT n s = some (if inR n 0 60 = true ∧ slOK s = true then indF n s else []) := rfl
set_option maxHeartbeats 4000000 in
set_option maxRecDepth 100000 in
theorem spec_IndicesOf {Sg : FuncId → Option (List AV → Option AV)} (hS : Sound Try.prog Sg) (hc : Sg 76 = some (F1 gAreCells)) (hs : Sg 90 = some (F1 gValidSl)) (hi : Sg 95 = some (F2 gIndices)) : ∀ a r, F2 gIndT a = some r → CSpec Try.prog 42 a r := by
  refine F2_spec ?_
  intro n s r hr
  obtain ⟨-, rfl⟩ := gd_some hr
  refine CSpec.intro Try.func42 rfl (own _) (vc3_sound Try.pf hS hS _ _ _ ?_)
  have q1 := gAreCells_eq n
  have q2 := gValidSl_eq s
  cases e1 : inR n 0 60 with
  | false =>
    rw [e1] at q1
    rw [if_neg (by simp)]
    repeat' (first | with_reducible first | refine kI (by kernel_rfl) ?_ | refine kN (by kernel_rfl) ?_ | (first | refine kB1 ?_ ?_ | refine kB2 ?_ ?_) <;> intro hp | (first | refine kD1 ?_ ?_ | refine kD2 ?_ ?_ | refine kS1 ?_ ?_ | refine kS2 ?_ ?_) <;> intro hp <;> try simp only [hp] | simp -implicitDefEqProofs (disch := omega) only [go_sem, Nat.reduceAdd, Nat.reduceSub, reduceCtorEq, Nat.reduceLT, Nat.reduceLeDiff, Nat.reduceEqDiff, Nat.reduceMul, Int.reduceToNat, ↓reduceIte, List.take_of_length_le, if_pos, if_neg, List.getElem?_set_self, List.set_set, cnE, cnV, Try.ntmps42, Try.results42,  hc, q1])
  | true =>
    rw [e1] at q1
    have hn : 0 ≤ n ∧ n ≤ 60 := by unfold inR at e1; simpa using e1
    cases e2 : slOK s with
    | false =>
      rw [e2] at q2
      rw [if_neg (by simp)]
      repeat' (first | with_reducible first | refine kI (by kernel_rfl) ?_ | refine kN (by kernel_rfl) ?_ | (first | refine kB1 ?_ ?_ | refine kB2 ?_ ?_) <;> intro hp | (first | refine kD1 ?_ ?_ | refine kD2 ?_ ?_ | refine kS1 ?_ ?_ | refine kS2 ?_ ?_) <;> intro hp <;> try simp only [hp] | simp -implicitDefEqProofs (disch := omega) only [go_sem, Nat.reduceAdd, Nat.reduceSub, reduceCtorEq, Nat.reduceLT, Nat.reduceLeDiff, Nat.reduceEqDiff, Nat.reduceMul, Int.reduceToNat, ↓reduceIte, List.take_of_length_le, if_pos, if_neg, List.getElem?_set_self, List.set_set, cnE, cnV, Try.ntmps42, Try.results42,  hc, q1, hs, q2])
    | true =>
      rw [e2] at q2
      rw [if_pos ⟨rfl, rfl⟩]
      have q3 := gIndices_eq (n := n) (s := s) ⟨⟨by omega, by omega⟩, slOK_b e2⟩
      repeat' (first | with_reducible first | refine kI (by kernel_rfl) ?_ | refine kN (by kernel_rfl) ?_ | (first | refine kB1 ?_ ?_ | refine kB2 ?_ ?_) <;> intro hp | (first | refine kD1 ?_ ?_ | refine kD2 ?_ ?_ | refine kS1 ?_ ?_ | refine kS2 ?_ ?_) <;> intro hp <;> try simp only [hp] | simp -implicitDefEqProofs (disch := omega) only [go_sem, Nat.reduceAdd, Nat.reduceSub, reduceCtorEq, Nat.reduceLT, Nat.reduceLeDiff, Nat.reduceEqDiff, Nat.reduceMul, Int.reduceToNat, ↓reduceIte, List.take_of_length_le, if_pos, if_neg, List.getElem?_set_self, List.set_set, cnE, cnV, Try.ntmps42, Try.results42,  hc, q1, hs, q2, hi, q3])
def gHasDim (v : Vi) (d : Int) : Option Bool := gd (viB v) (viewOK v && inR d 0 (v.sh.length - 1))
theorem gHasDim_eq {v : Vi} (h : viB v) (d : Int) : gHasDim v d = some (viewOK v && inR d 0 (v.sh.length - 1)) := gd_eq h
set_option maxHeartbeats 4000000 in
set_option maxRecDepth 100000 in
theorem spec_hasDim {Sg : FuncId → Option (List AV → Option AV)} (hS : Sound Try.prog Sg) (hv : Sg 51 = some (F1 gValidV)) : ∀ a r, F2 gHasDim a = some r → CSpec Try.prog 49 a r := by
  refine F2_spec ?_
  intro v d r hr
  obtain ⟨h, rfl⟩ := gd_some hr
  refine CSpec.intro Try.func49 rfl (own _) (vc3_sound Try.pf hS hS _ _ _ ?_)
  have q1 := gValidV_eq h
  unfold inR
  cases e : viewOK v with
  | false =>
    rw [e] at q1
    repeat' (first | with_reducible first | refine kI (by kernel_rfl) ?_ | refine kN (by kernel_rfl) ?_ | (first | refine kB1 ?_ ?_ | refine kB2 ?_ ?_) <;> intro hp | (first | refine kD1 ?_ ?_ | refine kD2 ?_ ?_ | refine kS1 ?_ ?_ | refine kS2 ?_ ?_) <;> intro hp <;> try simp only [hp] | simp -implicitDefEqProofs (disch := omega) only [go_sem, Nat.reduceAdd, Nat.reduceSub, reduceCtorEq, Nat.reduceLT, Nat.reduceLeDiff, Nat.reduceEqDiff, Nat.reduceMul, Int.reduceToNat, ↓reduceIte, List.take_of_length_le, if_pos, if_neg, List.getElem?_set_self, List.set_set, cnE, cnV, Try.ntmps49, Try.results49,  hv, q1])
    try rfl
  | true =>
    rw [e] at q1
    have e2 : decide (d ≤ (v.sh.length : Int) - 1) = decide (d < (v.sh.length : Int)) := by rw [decide_eq_decide]; omega
    by_cases c : 0 ≤ d
    · repeat' (first | with_reducible first | refine kI (by kernel_rfl) ?_ | refine kN (by kernel_rfl) ?_ | (first | refine kB1 ?_ ?_ | refine kB2 ?_ ?_) <;> intro hp | (first | refine kD1 ?_ ?_ | refine kD2 ?_ ?_ | refine kS1 ?_ ?_ | refine kS2 ?_ ?_) <;> intro hp <;> try simp only [hp] | simp -implicitDefEqProofs (disch := omega) only [go_sem, Nat.reduceAdd, Nat.reduceSub, reduceCtorEq, Nat.reduceLT, Nat.reduceLeDiff, Nat.reduceEqDiff, Nat.reduceMul, Int.reduceToNat, ↓reduceIte, List.take_of_length_le, if_pos, if_neg, List.getElem?_set_self, List.set_set, cnE, cnV, Try.ntmps49, Try.results49,  hv, q1, c, e2])
      try rfl
    · repeat' (first | with_reducible first | refine kI (by kernel_rfl) ?_ | refine kN (by kernel_rfl) ?_ | (first | refine kB1 ?_ ?_ | refine kB2 ?_ ?_) <;> intro hp | (first | refine kD1 ?_ ?_ | refine kD2 ?_ ?_ | refine kS1 ?_ ?_ | refine kS2 ?_ ?_) <;> intro hp <;> try simp only [hp] | simp -implicitDefEqProofs (disch := omega) only [go_sem, Nat.reduceAdd, Nat.reduceSub, reduceCtorEq, Nat.reduceLT, Nat.reduceLeDiff, Nat.reduceEqDiff, Nat.reduceMul, Int.reduceToNat, ↓reduceIte, List.take_of_length_le, if_pos, if_neg, List.getElem?_set_self, List.set_set, cnE, cnV, Try.ntmps49, Try.results49,  hv, q1, c])
      try rfl
set_option maxHeartbeats 2000000 in
set_option maxRecDepth 100000 in
theorem isp_cleared {Sg : FuncId → Option (List AV → Option AV)} (hS : Sound Try.prog Sg) (hct : Sg 97 = some (F1 gCountOf)) (v : Vi) (b c : Nat) (L : List Blk) (hb : L[b]? = some (stB v.sh)) (hc : L[c]? = some (stB v.st)) (hv : v.sh.length < 4294967296) {m k : Nat} (hm : v.sh.length = m) (hk : v.st.length = k) : ISpec Try.prog 102 [.agg [i64 v.b, .sl b m 0 m m, .sl c k 0 k k]] L (fun r L' => ∃ X d, c ≤ d ∧ r = viA b d (tidyF v) ∧ L' = L ++ X ∧ (L ++ X)[b]? = some (stB (tidyF v).sh) ∧ (L ++ X)[d]? = some (stB (tidyF v).st)) := by
  refine ISpec.intro Try.func102 rfl (vc_sound Try.pf hS _ _ _ ?_)
  subst hm hk
  have hbl := (List.getElem?_eq_some_iff.1 hb).1
  have hcl := (List.getElem?_eq_some_iff.1 hc).1
  have hbx : ∀ X, (L ++ X)[b]? = some (stB v.sh) := fun X => by rw [List.getElem?_append_left hbl]; exact hb
  have hcx : ∀ X, (L ++ X)[c]? = some (stB v.st) := fun X => by rw [List.getElem?_append_left hcl]; exact hc
  have hbt : ∀ X m, b < m → ((L ++ X).take m)[b]? = some (stB v.sh) := fun X m hm => by rw [List.getElem?_take_of_lt hm, hbx]
  have q2 := gCountOf_eq (l := v.sh) (by omega)
  by_cases e1 : prodW v.sh = 0
  · rw [e1] at q2
    have hn : tidyF v = ⟨0, v.sh, List.replicate v.sh.length 0⟩ := by unfold tidyF; rw [if_pos e1]
    rw [hn]
    repeat' (first | with_reducible first | refine kI (by kernel_rfl) ?_ | refine kN (by kernel_rfl) ?_ | (first | refine kB1 ?_ ?_ | refine kB2 ?_ ?_) <;> intro hp | (first | refine kD1 ?_ ?_ | refine kD2 ?_ ?_ | refine kS1 ?_ ?_ | refine kS2 ?_ ?_) <;> intro hp <;> try simp only [hp] | simp -implicitDefEqProofs (disch := omega) only [go_sem, Nat.reduceAdd, Nat.reduceSub, reduceCtorEq, Nat.reduceLT, Nat.reduceLeDiff, Nat.reduceEqDiff, Nat.reduceMul, Int.reduceToNat, ↓reduceIte, List.take_of_length_le, if_pos, if_neg, List.getElem?_set_self, List.set_set, cnE, cnV, Try.ntmps102, Try.results102,  hbt, hbx, hct, q2])
    exact ⟨_, L.length + 2, by omega, by simp only [List.length_replicate, viA], rfl, by rw [List.getElem?_append_right (by omega), Nat.add_sub_cancel_left]; rfl⟩
  · have e1' : (prodW v.sh == 0) = false := beq_f e1
    have hn : tidyF v = v := by unfold tidyF; rw [if_neg e1]
    rw [hn]
    repeat' (first | with_reducible first | refine kI (by kernel_rfl) ?_ | refine kN (by kernel_rfl) ?_ | (first | refine kB1 ?_ ?_ | refine kB2 ?_ ?_) <;> intro hp | (first | refine kD1 ?_ ?_ | refine kD2 ?_ ?_ | refine kS1 ?_ ?_ | refine kS2 ?_ ?_) <;> intro hp <;> try simp only [hp] | simp -implicitDefEqProofs (disch := omega) only [go_sem, Nat.reduceAdd, Nat.reduceSub, reduceCtorEq, Nat.reduceLT, Nat.reduceLeDiff, Nat.reduceEqDiff, Nat.reduceMul, Int.reduceToNat, ↓reduceIte, List.take_of_length_le, if_pos, if_neg, List.getElem?_set_self, List.set_set, cnE, cnV, Try.ntmps102, Try.results102,  hbt, hct, q2, e1'])
    exact ⟨_, c, Nat.le_refl _, rfl, rfl, hbx _, hcx _⟩
set_option maxHeartbeats 4000000 in
set_option maxRecDepth 100000 in
theorem o_copyViewI {Sg : FuncId → Option (List AV → Option AV)} (hS : Sound Try.prog Sg) (v : Vi) (h : viM v) : OSpec Try.prog 101 [.agg [i64 v.b, ints 0 v.sh, ints 0 v.st]] (fun n => viA n (n + 1) v) (fun _ => viN v) := by
  refine OSpec.intro Try.func101 rfl (vc3_sound Try.pf hS hS _ _ _ ?_)
  have hs := h.1
  have ht := h.2
  repeat' (first | with_reducible first | refine kI (by kernel_rfl) ?_ | (first | refine kB1 ?_ ?_ | refine kB2 ?_ ?_) <;> intro hp | (first | refine kD1 ?_ ?_ | refine kD2 ?_ ?_ | refine kS1 ?_ ?_ | refine kS2 ?_ ?_) <;> intro hp <;> try simp only [hp] | simp -implicitDefEqProofs (disch := omega) only [go_sem, Nat.reduceAdd, Nat.reduceSub, reduceCtorEq, Nat.reduceLT, Nat.reduceLeDiff, Nat.reduceEqDiff, Nat.reduceMul, Int.reduceToNat, ↓reduceIte, List.take_of_length_le, if_pos, if_neg, List.getElem?_set_self, List.set_set, cnE, cnV, Try.ntmps101, Try.results101])
  refine DrawQ.pendS 6 23 3 1 [([0, 1, 3, 4, 7, 8], 2, [0, 1, 3, 4, 7, 8]), ([], 5, [0, 1, 3, 4, 7, 8]), ([6], 9, [0, 1, 3, 4, 7, 8]), ([10], 11, [0, 1, 3, 4, 7, 8])] [] [0, 1, 3, 4, 7, 8] rfl rfl rfl rfl (by decide) (by kernel_rfl) ?_
  repeat' (first | with_reducible first | refine kI (by kernel_rfl) ?_ | (first | refine kB1 ?_ ?_ | refine kB2 ?_ ?_) <;> intro hp | (first | refine kD1 ?_ ?_ | refine kD2 ?_ ?_ | refine kS1 ?_ ?_ | refine kS2 ?_ ?_) <;> intro hp <;> try simp only [hp] | simp -implicitDefEqProofs (disch := omega) only [go_sem, Nat.reduceAdd, Nat.reduceSub, reduceCtorEq, Nat.reduceLT, Nat.reduceLeDiff, Nat.reduceEqDiff, Nat.reduceMul, Int.reduceToNat, ↓reduceIte, List.take_of_length_le, if_pos, if_neg, List.getElem?_set_self, List.set_set, cnE, cnV, Try.ntmps101, Try.results101])
  exact own_vi (b := 2) (c := 3) rfl rfl (by decide)
end Go.Proofs.Ytgpflkmelindfaa
