/- Contracts of functions that the laws of this seat call. -/
import Derived.Test.YtgpflkmelindfaaWh
set_option linter.all false
namespace Go.Proofs.Ytgpflkmelindfaa
open Go Go.Ev Go.RowKit Go.Ev.Enc Go.Pl

def DrFill (f : FuncId) : Prop := ∀ (bs : List UInt8), bs.length ≤ 1048576 → ∀ L : List Blk, ISpec Try.prog f [bytesA 0 bs] L fun r L' => ∃ (m : List Int) (v : Vi) (x : Int), m.length ≤ 60 ∧ viOK v ∧ r = .tup [ints 1 m, viD v, i64 x] ∧ L' = L
theorem fill_at {m A V : List Int} {x : Int} (hV : ∀ k, k < A.length → V.getD k 0 = x) (hA : inM A m.length) : ∀ k, k ≤ A.length → ∀ i, i < k → (stoT m A V k).getD (A.getD i 0).toNat 0 = x
  | k + 1, hk, i, hi => by
    obtain ⟨j, hj, hjm⟩ := in_at hA (show i < A.length by omega)
    rw [stoT, hj, Int.toNat_natCast, hV k (by omega)]
    by_cases he : (A.getD k 0).toNat = j
    · rw [he, getD_set_eq (by rw [stoT_len]; exact hjm)]
    · rw [getD_set_ne (Ne.symm he)]
      have hik : i < k := by
        rcases Nat.lt_or_eq_of_le (Nat.le_of_lt_succ hi) with h | h
        · exact h
        · subst h; rw [hj] at he; exact absurd rfl he
      have := fill_at hV hA k (by omega) i hik
      rw [hj, Int.toNat_natCast] at this
      exact this
theorem tkn_atI {m A : List Int} {i : Nat} (h : i < A.length) : (tkn m A).getD i 0 = m.getD (A.getD i 0).toNat 0 := by simp [tkn, h]
theorem can_DrawFillView : CanCall Try.prog 16 := ⟨_, Try.func16, rfl, rfl⟩
theorem eq_nil_t : gEqInts [] [] = some true := (gEqInts_eq (a := []) (b := []) ⟨by decide, by decide⟩).trans rfl
theorem within_srt {C A : List Int} (h : ∀ x ∈ C, x ∈ A) : (C.all fun x => (srt A).contains x) = true := within_mem fun x hx => (srt_mem A x).2 (h x hx)
set_option maxHeartbeats 8000000 in
set_option maxRecDepth 100000 in
theorem law_FillView {Sg Sd : FuncId → Option (List AV → Option AV)} (hS : Sound Try.prog Sg) (hD : Sound Try.prog Sd) (n1 : Sg 16 = none) (h1 : Sg 17 = some (F3 gFill)) (h2 : Sg 18 = some (F3 gFill)) (h3 : Sg 14 = some (F2 gEqInts)) (h4 : Sg 19 = some (F2 gLoad)) (h5 : Sd 21 = some (F2 gChg)) (h6 : Sd 15 = some (F1 gCellsT)) (h7 : Sd 20 = some (F2 gWithin)) (hDr : DrFill 16) : ∀ a r, F1 gTrueW a = some r → CSpec Try.prog 4 a r := by
  refine F1_spec ?_
  intro bs r hr
  obtain ⟨g1, rfl⟩ := gd_some hr
  refine law3 Try.func4 rfl Try.pf hS hD ?_
  by_cases hb : 1048576 < bs.length
  · repeat' (first | with_reducible first | refine kI (by kernel_rfl) ?_ | refine kN (by kernel_rfl) ?_ | (first | refine kB1 ?_ ?_ | refine kB2 ?_ ?_) <;> intro hp | (first | refine kD1 ?_ ?_ | refine kD2 ?_ ?_ | refine kS1 ?_ ?_ | refine kS2 ?_ ?_) <;> intro hp <;> try simp only [hp] | simp -implicitDefEqProofs (disch := omega) only [go_sem, Nat.reduceAdd, Nat.reduceSub, reduceCtorEq, Nat.reduceLT, Nat.reduceLeDiff, Nat.reduceEqDiff, Nat.reduceMul, Int.reduceToNat, ↓reduceIte, List.take_of_length_le, if_pos, if_neg, List.getElem?_set_self, List.set_set, cnE, cnV, Try.ntmps4, Try.results4])
  · repeat' (first | with_reducible first | refine kI (by kernel_rfl) ?_ | refine kN (by kernel_rfl) ?_ | (first | refine kB1 ?_ ?_ | refine kB2 ?_ ?_) <;> intro hp | (first | refine kD1 ?_ ?_ | refine kD2 ?_ ?_ | refine kS1 ?_ ?_ | refine kS2 ?_ ?_) <;> intro hp <;> try simp only [hp] | simp -implicitDefEqProofs (disch := omega) only [go_sem, Nat.reduceAdd, Nat.reduceSub, reduceCtorEq, Nat.reduceLT, Nat.reduceLeDiff, Nat.reduceEqDiff, Nat.reduceMul, Int.reduceToNat, ↓reduceIte, List.take_of_length_le, if_pos, if_neg, List.getElem?_set_self, List.set_set, cnE, cnV, Try.ntmps4, Try.results4,  n1, opQ_none])
    refine InlK_intro rfl rfl can_DrawFillView ((hDr bs (by omega) _).mono ?_)
    rintro r L1 ⟨m, v, y, hm60, ⟨k1, k2⟩, rfl, rfl⟩
    have hmv : memB m v := ⟨by omega, by omega, by omega⟩
    have q1 := gFill_eq hmv y
    unfold filR at q1
    by_cases hc : holdB m v = true ∧ inR y 0 255 = true
    · rw [if_pos hc] at q1
      obtain ⟨e1, e2⟩ := hc
      obtain ⟨f1, f2, f3⟩ := fit_in e1
      have hy : 0 ≤ y ∧ y ≤ 255 := by unfold inR at e2; simpa using e2
      have h6' := offF_60 (vOK f2).1
      have hVl : (repV v y).length = (offF v).length := by simp [repV]
      have hV : ∀ k, k < (offF v).length → (repV v y).getD k 0 = y := fun k hk => by simp [repV, hk]
      have hVm : ∀ x ∈ repV v y, 0 ≤ x ∧ x ≤ 255 := fun x hx => by
        have := (List.mem_replicate.1 hx).2
        omega
      generalize repV v y = V at *
      have hmo := sto_mem (A := offF v) f1 hVm (k := (offF v).length) (by omega)
      have hln := stoT_len m (offF v) V (offF v).length
      have hfa := fill_at hV f3 (offF v).length (Nat.le_refl _)
      have hch := within_srt (chg_sto (V := V) f3 (Nat.le_refl (offF v).length))
      have hcl := chgT_len m (stoT m (offF v) V (offF v).length) m.length
      have q4 := gLoad_eq (m := stoT m (offF v) V (offF v).length) (v := v) ⟨by omega, hmv.2⟩
      rw [hold_of e1 hmo hln, if_pos rfl] at q4
      have hta := fun i hi => tkn_atI (m := stoT m (offF v) V (offF v).length) (A := offF v) (i := i) hi
      have htl := tkn_len (stoT m (offF v) V (offF v).length) (offF v)
      have q5 := gChg_eq (a := m) (b := stoT m (offF v) V (offF v).length) ⟨by omega, by omega⟩
      have hcl2 : (chgF m (stoT m (offF v) V (offF v).length)).length ≤ 60 := by
        unfold chgF
        split
        · omega
        · simp
      have q6 := gCellsT_eq hmv.2
      rw [f2, if_pos rfl] at q6
      have hsl := srt_len (offF v)
      have q7 := (gWithin_eq (a := chgF m (stoT m (offF v) V (offF v).length)) (b := srt (offF v)) ⟨by omega, by omega⟩).trans (by rw [hch])
      have q3 := (gEqInts_eq (a := stoT m (offF v) V (offF v).length) (b := stoT m (offF v) V (offF v).length) ⟨by omega, by omega⟩).trans (by rw [decide_eq_true rfl])
      generalize chgF m (stoT m (offF v) V (offF v).length) = C at *
      generalize stoT m (offF v) V (offF v).length = O at *
      have hall : ∀ i, i < (tkn O (offF v)).length → (tkn O (offF v)).getD i 0 = y := fun i hi => by
        rw [hta i (by omega)]
        exact hfa i (by omega)
      generalize tkn O (offF v) = T at *
      repeat' (first | with_reducible first | refine kI (by kernel_rfl) ?_ | refine kN (by kernel_rfl) ?_ | (first | refine kB1 ?_ ?_ | refine kB2 ?_ ?_) <;> intro hp | (first | refine kD1 ?_ ?_ | refine kD2 ?_ ?_ | refine kS1 ?_ ?_ | refine kS2 ?_ ?_) <;> intro hp <;> try simp only [hp] | simp -implicitDefEqProofs (disch := omega) only [go_sem, Nat.reduceAdd, Nat.reduceSub, reduceCtorEq, Nat.reduceLT, Nat.reduceLeDiff, Nat.reduceEqDiff, Nat.reduceMul, Int.reduceToNat, ↓reduceIte, List.take_of_length_le, if_pos, if_neg, List.getElem?_set_self, List.set_set, cnE, cnV, Try.ntmps4, Try.results4,  h1, q1, h2, h3, q3, h4, q4])
      refine LoopQ.mix (fun t0 L0 nn ss => ∃ (i : Nat) (_ : Unit), (∃ x : Nat → AV, ss = ⟨mixL 0 (.k :: .k :: .s :: .k :: .k :: .k :: .k :: .k :: .k :: .k :: .k :: .v (i64 (i : Nat)) :: .k :: .k :: .k :: .k :: .k :: .k :: .k :: .k :: .k :: .k :: .k :: .k :: .k :: .k :: .k :: .k :: .k :: .k :: .k :: .k :: .k :: .k :: .k :: .k :: .k :: .k :: .k :: .k :: .k :: .k :: .k :: .k :: .k :: .k :: .k :: .k :: .k :: .k :: .k :: .k :: .k :: .k :: .k :: .k :: .k :: .k :: .k :: .s :: .s :: .s :: .s :: .s :: .s :: .s :: .s :: .s :: .s :: .s :: .s :: .k :: .k :: .k :: .k :: .k :: .k :: []) t0 x, L0⟩) ∧ (i ≤ T.length) ∧ nn = T.length - i) ?_ ?_
      · exact ⟨_, ⟨0, (), mixI rfl, Nat.zero_le _, rfl⟩⟩
      · rintro I0 hI0 nn s ⟨i, _, ⟨x, rfl⟩, g1, rfl⟩
        by_cases hi : i < T.length
        · have hii : (i : Int) < (T.length : Int) := by omega
          have he := hall i hi
          repeat' (first | with_reducible first | refine kI (by kernel_rfl) ?_ | refine kN (by kernel_rfl) ?_ | (first | refine kB1 ?_ ?_ | refine kB2 ?_ ?_) <;> intro hp | (first | refine kD1 ?_ ?_ | refine kD2 ?_ ?_ | refine kS1 ?_ ?_ | refine kS2 ?_ ?_) <;> intro hp <;> try simp only [hp] | simp -implicitDefEqProofs (disch := omega) only [go_sem, Nat.reduceAdd, Nat.reduceSub, reduceCtorEq, Nat.reduceLT, Nat.reduceLeDiff, Nat.reduceEqDiff, Nat.reduceMul, Int.reduceToNat, ↓reduceIte, List.take_of_length_le, if_pos, if_neg, List.getElem?_set_self, List.set_set, cnE, cnV, Try.ntmps4, Try.results4,  hii, getD_ints hi, he])
          exact ⟨T.length - (i + 1), by omega, hI0 _ _ ⟨i + 1, (), mixI rfl, hi, rfl⟩⟩
        · obtain rfl : i = T.length := by omega
          repeat' (first | with_reducible first | refine kI (by kernel_rfl) ?_ | refine kN (by kernel_rfl) ?_ | (first | refine kB1 ?_ ?_ | refine kB2 ?_ ?_) <;> intro hp | (first | refine kD1 ?_ ?_ | refine kD2 ?_ ?_ | refine kS1 ?_ ?_ | refine kS2 ?_ ?_) <;> intro hp <;> try simp only [hp] | simp -implicitDefEqProofs (disch := omega) only [go_sem, Nat.reduceAdd, Nat.reduceSub, reduceCtorEq, Nat.reduceLT, Nat.reduceLeDiff, Nat.reduceEqDiff, Nat.reduceMul, Int.reduceToNat, ↓reduceIte, List.take_of_length_le, if_pos, if_neg, List.getElem?_set_self, List.set_set, cnE, cnV, Try.ntmps4, Try.results4,  h5, q5, h6, q6, h7, q7])
    · rw [if_neg hc] at q1
      have q3 := eq_nil_t
      repeat' (first | with_reducible first | refine kI (by kernel_rfl) ?_ | refine kN (by kernel_rfl) ?_ | (first | refine kB1 ?_ ?_ | refine kB2 ?_ ?_) <;> intro hp | (first | refine kD1 ?_ ?_ | refine kD2 ?_ ?_ | refine kS1 ?_ ?_ | refine kS2 ?_ ?_) <;> intro hp <;> try simp only [hp] | simp -implicitDefEqProofs (disch := omega) only [go_sem, Nat.reduceAdd, Nat.reduceSub, reduceCtorEq, Nat.reduceLT, Nat.reduceLeDiff, Nat.reduceEqDiff, Nat.reduceMul, Int.reduceToNat, ↓reduceIte, List.take_of_length_le, if_pos, if_neg, List.getElem?_set_self, List.set_set, cnE, cnV, Try.ntmps4, Try.results4,  h1, q1, h2, h3, q3, dec_i0])
end Go.Proofs.Ytgpflkmelindfaa
