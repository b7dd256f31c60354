/- Contracts of functions that the laws of this seat call. -/
import Derived.Test.YtgepbcakcjdmoaaVk
import Derived.Test.YtgepbcakcjdmoaaVl
set_option linter.all false
namespace Go.Proofs.Ytgepbcakcjdmoaa
open Go Go.Ev Go.RowKit Go.Ev.Enc Go.Pl

theorem can_someView : CanCall Try.prog 61 := ⟨_, Try.func61, rfl, rfl⟩
theorem can_newRd : CanCall Try.prog 62 := ⟨_, Try.func62, rfl, rfl⟩
def SomeV : Prop := ∀ {bs : List UInt8} {b n : Nat} {rL : Int → List Blk} (hC : RC bs b n rL) (hb : bs.length ≤ 2000) (p : Int) (hp : 0 ≤ p ∧ p ≤ 800000000), ISpec Try.prog 61 [.ptr b 1 0 0] (rL p) fun r L' => ∃ (v : Vi) (p' : Int), v.sh.length ≤ 4 ∧ v.st.length ≤ 5 ∧ r = viD v ∧ p ≤ p' ∧ p' ≤ p + 210 ∧ L' = rL p'
def DrOne (f : FuncId) : Prop := ∀ (bs : List UInt8), bs.length ≤ 1048576 → ∀ L : List Blk, ISpec Try.prog f [bytesA 0 bs] L fun r L' => ∃ v : Vi, v.sh.length ≤ 4 ∧ v.st.length ≤ 5 ∧ r = viD v ∧ L' = L
def gTrueW (bs : List UInt8) : Option Bool := gd (bs.length < 9223372036854775808) true
theorem selV_viD {g : Nat → Option Nat} {L : List Blk} {v : Vi} : selV g L (viD v) = viD v := by
  rw [selV_agg]
  simp only [List.map_cons, List.map_nil, selC_d, selC_int]
theorem can_DrawIsOneToOne : CanCall Try.prog 15 := ⟨_, Try.func15, rfl, rfl⟩
set_option maxHeartbeats 4000000 in
set_option maxRecDepth 100000 in
theorem isp_DrawIsOneToOne {Sg : FuncId → Option (List AV → Option AV)} (hS : Sound Try.prog Sg) (h6 : Sg 62 = none) (h7 : Sg 61 = none) (bs : List UInt8) (hb : bs.length ≤ 1048576) (L : List Blk) (hsv : SomeV) : ISpec Try.prog 15 [bytesA 0 bs] (L) (fun r L' => ∃ v : Vi, v.sh.length ≤ 4 ∧ v.st.length ≤ 5 ∧ r = viD v ∧ L' = L) := by
  refine ISpec.ret Try.func15 rfl (vc3_sound Try.pf hS hS _ _ _ ?_)
  repeat' (first | with_reducible first | refine kI (by kernel_rfl) ?_ | refine kN (by kernel_rfl) ?_ | (first | refine kB1 ?_ ?_ | refine kB2 ?_ ?_) <;> intro hp | (first | refine kD1 ?_ ?_ | refine kD2 ?_ ?_ | refine kS1 ?_ ?_ | refine kS2 ?_ ?_) <;> intro hp <;> try simp only [hp] | simp -implicitDefEqProofs (disch := omega) only [go_sem, Nat.reduceAdd, Nat.reduceSub, reduceCtorEq, Nat.reduceLT, Nat.reduceLeDiff, Nat.reduceEqDiff, Nat.reduceMul, Int.reduceToNat, ↓reduceIte, List.take_of_length_le, if_pos, if_neg, List.getElem?_set_self, List.set_set, cnE, cnV, Try.ntmps15, Try.results15,  h6, opQ_none])
  refine InlK_intro rfl rfl can_newRd ((isp_newReader hS bs hb _).mono ?_)
  rintro r L1 ⟨rfl, rfl⟩
  repeat' (first | with_reducible first | refine kI (by kernel_rfl) ?_ | refine kN (by kernel_rfl) ?_ | (first | refine kB1 ?_ ?_ | refine kB2 ?_ ?_) <;> intro hp | (first | refine kD1 ?_ ?_ | refine kD2 ?_ ?_ | refine kS1 ?_ ?_ | refine kS2 ?_ ?_) <;> intro hp <;> try simp only [hp] | simp -implicitDefEqProofs (disch := omega) only [go_sem, Nat.reduceAdd, Nat.reduceSub, reduceCtorEq, Nat.reduceLT, Nat.reduceLeDiff, Nat.reduceEqDiff, Nat.reduceMul, Int.reduceToNat, ↓reduceIte, List.take_of_length_le, if_pos, if_neg, List.getElem?_set_self, List.set_set, cnE, cnV, Try.ntmps15, Try.results15,  h7, opQ_none])
  refine InlK_intro rfl rfl can_someView ((hsv (RC.new1 (bs.take 2000) L _) (by simp; omega) 0 (by omega)).mono ?_)
  rintro r L1 ⟨v, p', k1, k2, rfl, m1, m2, rfl⟩
  repeat' (first | with_reducible first | refine kI (by kernel_rfl) ?_ | refine kN (by kernel_rfl) ?_ | (first | refine kB1 ?_ ?_ | refine kB2 ?_ ?_) <;> intro hp | (first | refine kD1 ?_ ?_ | refine kD2 ?_ ?_ | refine kS1 ?_ ?_ | refine kS2 ?_ ?_) <;> intro hp <;> try simp only [hp] | simp -implicitDefEqProofs (disch := omega) only [go_sem, Nat.reduceAdd, Nat.reduceSub, reduceCtorEq, Nat.reduceLT, Nat.reduceLeDiff, Nat.reduceEqDiff, Nat.reduceMul, Int.reduceToNat, ↓reduceIte, List.take_of_length_le, if_pos, if_neg, List.getElem?_set_self, List.set_set, cnE, cnV, Try.ntmps15, Try.results15])
  exact RetQ.top ⟨v, k1, k2, selV_viD, rfl⟩
theorem can_DrawCellsOf : CanCall Try.prog 22 := ⟨_, Try.func22, rfl, rfl⟩
set_option maxHeartbeats 4000000 in
set_option maxRecDepth 100000 in
theorem isp_DrawCellsOf {Sg : FuncId → Option (List AV → Option AV)} (hS : Sound Try.prog Sg) (h6 : Sg 62 = none) (h7 : Sg 61 = none) (bs : List UInt8) (hb : bs.length ≤ 1048576) (L : List Blk) (hsv : SomeV) : ISpec Try.prog 22 [bytesA 0 bs] (L) (fun r L' => ∃ v : Vi, v.sh.length ≤ 4 ∧ v.st.length ≤ 5 ∧ r = viD v ∧ L' = L) := by
  refine ISpec.ret Try.func22 rfl (vc3_sound Try.pf hS hS _ _ _ ?_)
  repeat' (first | with_reducible first | refine kI (by kernel_rfl) ?_ | refine kN (by kernel_rfl) ?_ | (first | refine kB1 ?_ ?_ | refine kB2 ?_ ?_) <;> intro hp | (first | refine kD1 ?_ ?_ | refine kD2 ?_ ?_ | refine kS1 ?_ ?_ | refine kS2 ?_ ?_) <;> intro hp <;> try simp only [hp] | simp -implicitDefEqProofs (disch := omega) only [go_sem, Nat.reduceAdd, Nat.reduceSub, reduceCtorEq, Nat.reduceLT, Nat.reduceLeDiff, Nat.reduceEqDiff, Nat.reduceMul, Int.reduceToNat, ↓reduceIte, List.take_of_length_le, if_pos, if_neg, List.getElem?_set_self, List.set_set, cnE, cnV, Try.ntmps22, Try.results22,  h6, opQ_none])
  refine InlK_intro rfl rfl can_newRd ((isp_newReader hS bs hb _).mono ?_)
  rintro r L1 ⟨rfl, rfl⟩
  repeat' (first | with_reducible first | refine kI (by kernel_rfl) ?_ | refine kN (by kernel_rfl) ?_ | (first | refine kB1 ?_ ?_ | refine kB2 ?_ ?_) <;> intro hp | (first | refine kD1 ?_ ?_ | refine kD2 ?_ ?_ | refine kS1 ?_ ?_ | refine kS2 ?_ ?_) <;> intro hp <;> try simp only [hp] | simp -implicitDefEqProofs (disch := omega) only [go_sem, Nat.reduceAdd, Nat.reduceSub, reduceCtorEq, Nat.reduceLT, Nat.reduceLeDiff, Nat.reduceEqDiff, Nat.reduceMul, Int.reduceToNat, ↓reduceIte, List.take_of_length_le, if_pos, if_neg, List.getElem?_set_self, List.set_set, cnE, cnV, Try.ntmps22, Try.results22,  h7, opQ_none])
  refine InlK_intro rfl rfl can_someView ((hsv (RC.new1 (bs.take 2000) L _) (by simp; omega) 0 (by omega)).mono ?_)
  rintro r L1 ⟨v, p', k1, k2, rfl, m1, m2, rfl⟩
  repeat' (first | with_reducible first | refine kI (by kernel_rfl) ?_ | refine kN (by kernel_rfl) ?_ | (first | refine kB1 ?_ ?_ | refine kB2 ?_ ?_) <;> intro hp | (first | refine kD1 ?_ ?_ | refine kD2 ?_ ?_ | refine kS1 ?_ ?_ | refine kS2 ?_ ?_) <;> intro hp <;> try simp only [hp] | simp -implicitDefEqProofs (disch := omega) only [go_sem, Nat.reduceAdd, Nat.reduceSub, reduceCtorEq, Nat.reduceLT, Nat.reduceLeDiff, Nat.reduceEqDiff, Nat.reduceMul, Int.reduceToNat, ↓reduceIte, List.take_of_length_le, if_pos, if_neg, List.getElem?_set_self, List.set_set, cnE, cnV, Try.ntmps22, Try.results22])
  exact RetQ.top ⟨v, k1, k2, selV_viD, rfl⟩
theorem can_DrawRepeatsOf : CanCall Try.prog 40 := ⟨_, Try.func40, rfl, rfl⟩
set_option maxHeartbeats 4000000 in
set_option maxRecDepth 100000 in
theorem isp_DrawRepeatsOf {Sg : FuncId → Option (List AV → Option AV)} (hS : Sound Try.prog Sg) (h6 : Sg 62 = none) (h7 : Sg 61 = none) (bs : List UInt8) (hb : bs.length ≤ 1048576) (L : List Blk) (hsv : SomeV) : ISpec Try.prog 40 [bytesA 0 bs] (L) (fun r L' => ∃ v : Vi, v.sh.length ≤ 4 ∧ v.st.length ≤ 5 ∧ r = viD v ∧ L' = L) := by
  refine ISpec.ret Try.func40 rfl (vc3_sound Try.pf hS hS _ _ _ ?_)
  repeat' (first | with_reducible first | refine kI (by kernel_rfl) ?_ | refine kN (by kernel_rfl) ?_ | (first | refine kB1 ?_ ?_ | refine kB2 ?_ ?_) <;> intro hp | (first | refine kD1 ?_ ?_ | refine kD2 ?_ ?_ | refine kS1 ?_ ?_ | refine kS2 ?_ ?_) <;> intro hp <;> try simp only [hp] | simp -implicitDefEqProofs (disch := omega) only [go_sem, Nat.reduceAdd, Nat.reduceSub, reduceCtorEq, Nat.reduceLT, Nat.reduceLeDiff, Nat.reduceEqDiff, Nat.reduceMul, Int.reduceToNat, ↓reduceIte, List.take_of_length_le, if_pos, if_neg, List.getElem?_set_self, List.set_set, cnE, cnV, Try.ntmps40, Try.results40,  h6, opQ_none])
  refine InlK_intro rfl rfl can_newRd ((isp_newReader hS bs hb _).mono ?_)
  rintro r L1 ⟨rfl, rfl⟩
  repeat' (first | with_reducible first | refine kI (by kernel_rfl) ?_ | refine kN (by kernel_rfl) ?_ | (first | refine kB1 ?_ ?_ | refine kB2 ?_ ?_) <;> intro hp | (first | refine kD1 ?_ ?_ | refine kD2 ?_ ?_ | refine kS1 ?_ ?_ | refine kS2 ?_ ?_) <;> intro hp <;> try simp only [hp] | simp -implicitDefEqProofs (disch := omega) only [go_sem, Nat.reduceAdd, Nat.reduceSub, reduceCtorEq, Nat.reduceLT, Nat.reduceLeDiff, Nat.reduceEqDiff, Nat.reduceMul, Int.reduceToNat, ↓reduceIte, List.take_of_length_le, if_pos, if_neg, List.getElem?_set_self, List.set_set, cnE, cnV, Try.ntmps40, Try.results40,  h7, opQ_none])
  refine InlK_intro rfl rfl can_someView ((hsv (RC.new1 (bs.take 2000) L _) (by simp; omega) 0 (by omega)).mono ?_)
  rintro r L1 ⟨v, p', k1, k2, rfl, m1, m2, rfl⟩
  repeat' (first | with_reducible first | refine kI (by kernel_rfl) ?_ | refine kN (by kernel_rfl) ?_ | (first | refine kB1 ?_ ?_ | refine kB2 ?_ ?_) <;> intro hp | (first | refine kD1 ?_ ?_ | refine kD2 ?_ ?_ | refine kS1 ?_ ?_ | refine kS2 ?_ ?_) <;> intro hp <;> try simp only [hp] | simp -implicitDefEqProofs (disch := omega) only [go_sem, Nat.reduceAdd, Nat.reduceSub, reduceCtorEq, Nat.reduceLT, Nat.reduceLeDiff, Nat.reduceEqDiff, Nat.reduceMul, Int.reduceToNat, ↓reduceIte, List.take_of_length_le, if_pos, if_neg, List.getElem?_set_self, List.set_set, cnE, cnV, Try.ntmps40, Try.results40])
  exact RetQ.top ⟨v, k1, k2, selV_viD, rfl⟩
theorem can_DrawGapsOf : CanCall Try.prog 47 := ⟨_, Try.func47, rfl, rfl⟩
set_option maxHeartbeats 4000000 in
set_option maxRecDepth 100000 in
theorem isp_DrawGapsOf {Sg : FuncId → Option (List AV → Option AV)} (hS : Sound Try.prog Sg) (h6 : Sg 62 = none) (h7 : Sg 61 = none) (bs : List UInt8) (hb : bs.length ≤ 1048576) (L : List Blk) (hsv : SomeV) : ISpec Try.prog 47 [bytesA 0 bs] (L) (fun r L' => ∃ v : Vi, v.sh.length ≤ 4 ∧ v.st.length ≤ 5 ∧ r = viD v ∧ L' = L) := by
  refine ISpec.ret Try.func47 rfl (vc3_sound Try.pf hS hS _ _ _ ?_)
  repeat' (first | with_reducible first | refine kI (by kernel_rfl) ?_ | refine kN (by kernel_rfl) ?_ | (first | refine kB1 ?_ ?_ | refine kB2 ?_ ?_) <;> intro hp | (first | refine kD1 ?_ ?_ | refine kD2 ?_ ?_ | refine kS1 ?_ ?_ | refine kS2 ?_ ?_) <;> intro hp <;> try simp only [hp] | simp -implicitDefEqProofs (disch := omega) only [go_sem, Nat.reduceAdd, Nat.reduceSub, reduceCtorEq, Nat.reduceLT, Nat.reduceLeDiff, Nat.reduceEqDiff, Nat.reduceMul, Int.reduceToNat, ↓reduceIte, List.take_of_length_le, if_pos, if_neg, List.getElem?_set_self, List.set_set, cnE, cnV, Try.ntmps47, Try.results47,  h6, opQ_none])
  refine InlK_intro rfl rfl can_newRd ((isp_newReader hS bs hb _).mono ?_)
  rintro r L1 ⟨rfl, rfl⟩
  repeat' (first | with_reducible first | refine kI (by kernel_rfl) ?_ | refine kN (by kernel_rfl) ?_ | (first | refine kB1 ?_ ?_ | refine kB2 ?_ ?_) <;> intro hp | (first | refine kD1 ?_ ?_ | refine kD2 ?_ ?_ | refine kS1 ?_ ?_ | refine kS2 ?_ ?_) <;> intro hp <;> try simp only [hp] | simp -implicitDefEqProofs (disch := omega) only [go_sem, Nat.reduceAdd, Nat.reduceSub, reduceCtorEq, Nat.reduceLT, Nat.reduceLeDiff, Nat.reduceEqDiff, Nat.reduceMul, Int.reduceToNat, ↓reduceIte, List.take_of_length_le, if_pos, if_neg, List.getElem?_set_self, List.set_set, cnE, cnV, Try.ntmps47, Try.results47,  h7, opQ_none])
  refine InlK_intro rfl rfl can_someView ((hsv (RC.new1 (bs.take 2000) L _) (by simp; omega) 0 (by omega)).mono ?_)
  rintro r L1 ⟨v, p', k1, k2, rfl, m1, m2, rfl⟩
  repeat' (first | with_reducible first | refine kI (by kernel_rfl) ?_ | refine kN (by kernel_rfl) ?_ | (first | refine kB1 ?_ ?_ | refine kB2 ?_ ?_) <;> intro hp | (first | refine kD1 ?_ ?_ | refine kD2 ?_ ?_ | refine kS1 ?_ ?_ | refine kS2 ?_ ?_) <;> intro hp <;> try simp only [hp] | simp -implicitDefEqProofs (disch := omega) only [go_sem, Nat.reduceAdd, Nat.reduceSub, reduceCtorEq, Nat.reduceLT, Nat.reduceLeDiff, Nat.reduceEqDiff, Nat.reduceMul, Int.reduceToNat, ↓reduceIte, List.take_of_length_le, if_pos, if_neg, List.getElem?_set_self, List.set_set, cnE, cnV, Try.ntmps47, Try.results47])
  exact RetQ.top ⟨v, k1, k2, selV_viD, rfl⟩
theorem dec_i0 : (dec (AV.ds 0 []) : Option (List Int)) = some [] := (ok _ _).2 rfl
theorem within_mem {a b : List Int} (h : ∀ x ∈ a, x ∈ b) : (a.all fun x => b.contains x) = true := by
  rw [List.all_eq_true]
  exact fun x hx => List.contains_iff_mem.2 (h x hx)
set_option maxHeartbeats 8000000 in
set_option maxRecDepth 100000 in
theorem law_CellsOf {Sg Sd : FuncId → Option (List AV → Option AV)} (hS : Sound Try.prog Sg) (hD : Sound Try.prog Sd) (n1 : Sg 22 = none) (h1 : Sg 20 = some (F1 gCellsT)) (h2 : Sg 24 = some (F1 gCellsT)) (h3 : Sg 23 = some (F2 gEqInts)) (h4 : Sg 18 = some (F1 gValidV)) (h5 : Sg 25 = some (F1 gOffT)) (h6 : Sg 26 = some (F1 gAscends)) (h7 : Sg 27 = some (F2 gWithin)) (hDr : DrOne 22) : ∀ a r, F1 gTrueW a = some r → CSpec Try.prog 4 a r := by
  refine F1_spec ?_
  intro bs r hr
  obtain ⟨g1, rfl⟩ := gd_some hr
  refine law3 Try.func4 rfl Try.pf hS hD ?_
  by_cases hb : 1048576 < bs.length
  · repeat' (first | with_reducible first | refine kI (by kernel_rfl) ?_ | refine kN (by kernel_rfl) ?_ | (first | refine kB1 ?_ ?_ | refine kB2 ?_ ?_) <;> intro hp | (first | refine kD1 ?_ ?_ | refine kD2 ?_ ?_ | refine kS1 ?_ ?_ | refine kS2 ?_ ?_) <;> intro hp <;> try simp only [hp] | simp -implicitDefEqProofs (disch := omega) only [go_sem, Nat.reduceAdd, Nat.reduceSub, reduceCtorEq, Nat.reduceLT, Nat.reduceLeDiff, Nat.reduceEqDiff, Nat.reduceMul, Int.reduceToNat, ↓reduceIte, List.take_of_length_le, if_pos, if_neg, List.getElem?_set_self, List.set_set, cnE, cnV, Try.ntmps4, Try.results4])
  · repeat' (first | with_reducible first | refine kI (by kernel_rfl) ?_ | refine kN (by kernel_rfl) ?_ | (first | refine kB1 ?_ ?_ | refine kB2 ?_ ?_) <;> intro hp | (first | refine kD1 ?_ ?_ | refine kD2 ?_ ?_ | refine kS1 ?_ ?_ | refine kS2 ?_ ?_) <;> intro hp <;> try simp only [hp] | simp -implicitDefEqProofs (disch := omega) only [go_sem, Nat.reduceAdd, Nat.reduceSub, reduceCtorEq, Nat.reduceLT, Nat.reduceLeDiff, Nat.reduceEqDiff, Nat.reduceMul, Int.reduceToNat, ↓reduceIte, List.take_of_length_le, if_pos, if_neg, List.getElem?_set_self, List.set_set, cnE, cnV, Try.ntmps4, Try.results4,  n1, opQ_none])
    refine InlK_intro rfl rfl can_DrawCellsOf ((hDr bs (by omega) _).mono ?_)
    rintro r L1 ⟨v, k1, k2, rfl, rfl⟩
    have q1 := gCellsT_eq (v := v) ⟨by omega, by omega⟩
    have q4 := gValidV_eq (v := v) ⟨by omega, by omega⟩
    cases e : viewOK v with
    | false =>
      rw [e] at q1 q4
      rw [if_neg (by simp)] at q1
      have q3 : gEqInts [] [] = some true := gEqInts_eq (a := []) (b := []) ⟨by decide, by decide⟩
      repeat' (first | with_reducible first | refine kI (by kernel_rfl) ?_ | refine kN (by kernel_rfl) ?_ | (first | refine kB1 ?_ ?_ | refine kB2 ?_ ?_) <;> intro hp | (first | refine kD1 ?_ ?_ | refine kD2 ?_ ?_ | refine kS1 ?_ ?_ | refine kS2 ?_ ?_) <;> intro hp <;> try simp only [hp] | simp -implicitDefEqProofs (disch := omega) only [go_sem, Nat.reduceAdd, Nat.reduceSub, reduceCtorEq, Nat.reduceLT, Nat.reduceLeDiff, Nat.reduceEqDiff, Nat.reduceMul, Int.reduceToNat, ↓reduceIte, List.take_of_length_le, if_pos, if_neg, List.getElem?_set_self, List.set_set, cnE, cnV, Try.ntmps4, Try.results4,  h1, q1, h2, h3, q3, h4, q4, dec_i0])
    | true =>
      have hA := offF_60 (viewOK_iff.1 e).1
      have hl := srt_len (offF v)
      have q5 := gOffT_eq (v := v) ⟨by omega, by omega⟩
      rw [e, if_pos rfl] at q1 q5
      rw [e] at q4
      have m := srt_mem (offF v)
      have q6 := (gAscends_eq (l := srt (offF v)) (by omega)).trans (by rw [ascB_pw (srt_asc _)])
      generalize offF v = A at *
      have q3 : gEqInts (srt A) (srt A) = some true := (gEqInts_eq ⟨by omega, by omega⟩).trans (by simp)
      have q7 := (gWithin_eq (a := srt A) (b := A) ⟨by omega, by omega⟩).trans (by rw [within_mem fun x hx => (m x).1 hx])
      have q8 := (gWithin_eq (a := A) (b := srt A) ⟨by omega, by omega⟩).trans (by rw [within_mem fun x hx => (m x).2 hx])
      repeat' (first | with_reducible first | refine kI (by kernel_rfl) ?_ | refine kN (by kernel_rfl) ?_ | (first | refine kB1 ?_ ?_ | refine kB2 ?_ ?_) <;> intro hp | (first | refine kD1 ?_ ?_ | refine kD2 ?_ ?_ | refine kS1 ?_ ?_ | refine kS2 ?_ ?_) <;> intro hp <;> try simp only [hp] | simp -implicitDefEqProofs (disch := omega) only [go_sem, Nat.reduceAdd, Nat.reduceSub, reduceCtorEq, Nat.reduceLT, Nat.reduceLeDiff, Nat.reduceEqDiff, Nat.reduceMul, Int.reduceToNat, ↓reduceIte, List.take_of_length_le, if_pos, if_neg, List.getElem?_set_self, List.set_set, cnE, cnV, Try.ntmps4, Try.results4,  h1, q1, h2, h3, q3, h4, q4, h5, q5, h6, q6, h7, q7, q8])
end Go.Proofs.Ytgepbcakcjdmoaa
