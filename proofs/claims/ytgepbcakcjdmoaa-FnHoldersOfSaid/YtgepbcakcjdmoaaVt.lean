/- Contracts of functions that the laws of this seat call. -/
import Derived.Test.YtgepbcakcjdmoaaVs
set_option linter.all false
namespace Go.Proofs.Ytgepbcakcjdmoaa
open Go Go.Ev Go.RowKit Go.Ev.Enc Go.Pl

/-- two numbers and a mark -/
structure Wit where
  x : Int
  y : Int
  ok : Bool
  deriving DecidableEq
instance : Enc Wit where
  enc t w := .tup [.int .i64 w.x, .int .i64 w.y, .bool w.ok]
  dec | .tup [z, x, y] => (dec z).bind fun n => (dec x).bind fun a => (dec y).map fun b => ⟨n, a, b⟩
      | _ => none
  ok x a := by
    constructor
    · intro h
      split at h
      · simp only [Option.bind_eq_some_iff, Option.map_eq_some_iff] at h
        obtain ⟨n, hn, p, hp, q, hq, rfl⟩ := h
        rw [(ok _ _).1 hn, (ok _ _).1 hp, (ok _ _).1 hq]; rfl
      · simp at h
    · rintro rfl
      show ((dec (enc 0 a.x)).bind fun n => (dec (enc 0 a.y)).bind fun p => (dec (enc 0 a.ok)).map fun q => (⟨n, p, q⟩ : Wit)) = some a
      rw [(ok _ a.x).2 rfl, (ok _ a.y).2 rfl, (ok _ a.ok).2 rfl]; rfl
  own a := .tup _ (by
    intro x hx
    simp only [List.mem_cons, List.not_mem_nil, or_false] at hx
    rcases hx with rfl | rfl | rfl
    · exact own a.x
    · exact own a.y
    · exact own a.ok)
theorem enc_wit (t : Nat) (w : Wit) : (enc t w : AV) = .tup [.int .i64 w.x, .int .i64 w.y, .bool w.ok] := rfl
attribute [go_sem] enc_wit
/-! ### covers -/
theorem both_all {A B : List Int} (hB : inC B) : decide ((bothF A B).length = (srt B).length) = B.all fun x => A.contains x := by
  have e : bothF A B = (srt B).filter fun x => A.contains x := by
    refine asc_ext (both_asc A B) ((srt_asc B).sublist List.filter_sublist) fun x => ?_
    rw [List.mem_filter, List.contains_iff_mem, srt_mem, mem_both]
    exact ⟨fun h => ⟨h.2.2, h.2.1⟩, fun h => ⟨hB x h.1, h.2, h.1⟩⟩
  rw [e, Bool.eq_iff_iff, decide_eq_true_eq, List.length_filter_eq_length_iff, List.all_eq_true]
  exact ⟨fun h x hx => h x ((srt_mem B x).2 hx), fun h x hx => h x ((srt_mem B x).1 hx)⟩
def gCov (a b : Vi) : Option Bool := gd (viB2 a b) (okk a b && (offF b).all fun x => (offF a).contains x)
theorem gCov_eq {a b : Vi} (h : viB2 a b) : gCov a b = some (okk a b && (offF b).all fun x => (offF a).contains x) := gd_eq h
set_option maxHeartbeats 4000000 in
set_option maxRecDepth 100000 in
theorem spec_CoversViewI {Sg : FuncId → Option (List AV → Option AV)} (hS : Sound Try.prog Sg) (hv : Sg 63 = some (F1 gValidV)) (ho : Sg 77 = some (F2 gOv)) (hc : Sg 72 = some (F1 gCells)) : ∀ a r, F2 gCov a = some r → CSpec Try.prog 29 a r := by
  refine F2_spec ?_
  intro a b r hr
  obtain ⟨⟨ha, hb⟩, rfl⟩ := gd_some hr
  refine CSpec.intro Try.func29 rfl (own _) (vc3_sound Try.pf hS hS _ _ _ ?_)
  have q1 := gValidV_eq ha
  have q2 := gValidV_eq hb
  cases e1 : viewOK a with
  | false =>
    rw [e1] at q1
    have eo : okk a b = false := by unfold okk; rw [e1]; rfl
    rw [eo, Bool.false_and]
    repeat' (first | with_reducible first | refine kI (by kernel_rfl) ?_ | refine kN (by kernel_rfl) ?_ | (first | refine kB1 ?_ ?_ | refine kB2 ?_ ?_) <;> intro hp | (first | refine kD1 ?_ ?_ | refine kD2 ?_ ?_ | refine kS1 ?_ ?_ | refine kS2 ?_ ?_) <;> intro hp <;> try simp only [hp] | simp -implicitDefEqProofs (disch := omega) only [go_sem, Nat.reduceAdd, Nat.reduceSub, reduceCtorEq, Nat.reduceLT, Nat.reduceLeDiff, Nat.reduceEqDiff, Nat.reduceMul, Int.reduceToNat, ↓reduceIte, List.take_of_length_le, if_pos, if_neg, List.getElem?_set_self, List.set_set, cnE, cnV, Try.ntmps29, Try.results29,  hv, q1])
  | true =>
    rw [e1] at q1
    cases e2 : viewOK b with
    | false =>
      rw [e2] at q2
      have eo : okk a b = false := by unfold okk; rw [e1, e2]; rfl
      rw [eo, Bool.false_and]
      repeat' (first | with_reducible first | refine kI (by kernel_rfl) ?_ | refine kN (by kernel_rfl) ?_ | (first | refine kB1 ?_ ?_ | refine kB2 ?_ ?_) <;> intro hp | (first | refine kD1 ?_ ?_ | refine kD2 ?_ ?_ | refine kS1 ?_ ?_ | refine kS2 ?_ ?_) <;> intro hp <;> try simp only [hp] | simp -implicitDefEqProofs (disch := omega) only [go_sem, Nat.reduceAdd, Nat.reduceSub, reduceCtorEq, Nat.reduceLT, Nat.reduceLeDiff, Nat.reduceEqDiff, Nat.reduceMul, Int.reduceToNat, ↓reduceIte, List.take_of_length_le, if_pos, if_neg, List.getElem?_set_self, List.set_set, cnE, cnV, Try.ntmps29, Try.results29,  hv, q1, q2])
    | true =>
      rw [e2] at q2
      rw [okk_iff.2 ⟨e1, e2⟩, Bool.true_and]
      have q3 := gOv_eq ⟨vOK e1, vOK e2⟩
      have q4 := ovF_eq (B := offF b) (offF_in e1)
      have q5 := gCells_eq (vOK e2)
      have q6 := both_all (A := offF a) (offF_in e2)
      have q7 : (((bothF (offF a) (offF b)).length : Int) == ((srt (offF b)).length : Int)) = (offF b).all fun x => (offF a).contains x := by
        rw [← q6, Bool.eq_iff_iff, beq_iff_eq, decide_eq_true_eq]; omega
      repeat' (first | with_reducible first | refine kI (by kernel_rfl) ?_ | refine kN (by kernel_rfl) ?_ | (first | refine kB1 ?_ ?_ | refine kB2 ?_ ?_) <;> intro hp | (first | refine kD1 ?_ ?_ | refine kD2 ?_ ?_ | refine kS1 ?_ ?_ | refine kS2 ?_ ?_) <;> intro hp <;> try simp only [hp] | simp -implicitDefEqProofs (disch := omega) only [go_sem, Nat.reduceAdd, Nat.reduceSub, reduceCtorEq, Nat.reduceLT, Nat.reduceLeDiff, Nat.reduceEqDiff, Nat.reduceMul, Int.reduceToNat, ↓reduceIte, List.take_of_length_le, if_pos, if_neg, List.getElem?_set_self, List.set_set, cnE, cnV, Try.ntmps29, Try.results29,  hv, q1, q2, ho, q3, q4, hc, q5, q7])
theorem all_take {p : Int → Bool} {l : List Int} {k : Nat} (hk : k < l.length) : (l.take (k + 1)).all p = ((l.take k).all p && p (l.getD k 0)) := by
  rw [take_snocI hk, List.all_append]; simp
set_option maxHeartbeats 4000000 in
set_option maxRecDepth 100000 in
theorem spec_CoversViewS {Sg : FuncId → Option (List AV → Option AV)} (hS : Sound Try.prog Sg) (hv : Sg 65 = some (F1 gValidV)) (ho : Sg 67 = some (F1 gOffsets)) (hp : Sg 78 = some (F2 gPlaceIn)) : ∀ a r, F2 gCov a = some r → CSpec Try.prog 30 a r := by
  refine F2_spec ?_
  intro a b r hr
  obtain ⟨⟨ha, hb⟩, rfl⟩ := gd_some hr
  refine CSpec.intro Try.func30 rfl (own _) (vc3_sound Try.pf hS hS _ _ _ ?_)
  have q1 := gValidV_eq ha
  have q2 := gValidV_eq hb
  cases e1 : viewOK a with
  | false =>
    rw [e1] at q1
    have eo : okk a b = false := by unfold okk; rw [e1]; rfl
    rw [eo, Bool.false_and]
    repeat' (first | with_reducible first | refine kI (by kernel_rfl) ?_ | refine kN (by kernel_rfl) ?_ | (first | refine kB1 ?_ ?_ | refine kB2 ?_ ?_) <;> intro hp | (first | refine kD1 ?_ ?_ | refine kD2 ?_ ?_ | refine kS1 ?_ ?_ | refine kS2 ?_ ?_) <;> intro hp <;> try simp only [hp] | simp -implicitDefEqProofs (disch := omega) only [go_sem, Nat.reduceAdd, Nat.reduceSub, reduceCtorEq, Nat.reduceLT, Nat.reduceLeDiff, Nat.reduceEqDiff, Nat.reduceMul, Int.reduceToNat, ↓reduceIte, List.take_of_length_le, if_pos, if_neg, List.getElem?_set_self, List.set_set, cnE, cnV, Try.ntmps30, Try.results30,  hv, q1])
  | true =>
    rw [e1] at q1
    cases e2 : viewOK b with
    | false =>
      rw [e2] at q2
      have eo : okk a b = false := by unfold okk; rw [e1, e2]; rfl
      rw [eo, Bool.false_and]
      repeat' (first | with_reducible first | refine kI (by kernel_rfl) ?_ | refine kN (by kernel_rfl) ?_ | (first | refine kB1 ?_ ?_ | refine kB2 ?_ ?_) <;> intro hp | (first | refine kD1 ?_ ?_ | refine kD2 ?_ ?_ | refine kS1 ?_ ?_ | refine kS2 ?_ ?_) <;> intro hp <;> try simp only [hp] | simp -implicitDefEqProofs (disch := omega) only [go_sem, Nat.reduceAdd, Nat.reduceSub, reduceCtorEq, Nat.reduceLT, Nat.reduceLeDiff, Nat.reduceEqDiff, Nat.reduceMul, Int.reduceToNat, ↓reduceIte, List.take_of_length_le, if_pos, if_neg, List.getElem?_set_self, List.set_set, cnE, cnV, Try.ntmps30, Try.results30,  hv, q1, q2])
    | true =>
      rw [e2] at q2
      rw [okk_iff.2 ⟨e1, e2⟩, Bool.true_and]
      have a6 := offF_60 (vOK e1).1
      have b6 := offF_60 (vOK e2).1
      have q3 := gOffsets_eq (vOK e1)
      have q4 := gOffsets_eq (vOK e2)
      repeat' (first | with_reducible first | refine kI (by kernel_rfl) ?_ | refine kN (by kernel_rfl) ?_ | (first | refine kB1 ?_ ?_ | refine kB2 ?_ ?_) <;> intro hp | (first | refine kD1 ?_ ?_ | refine kD2 ?_ ?_ | refine kS1 ?_ ?_ | refine kS2 ?_ ?_) <;> intro hp <;> try simp only [hp] | simp -implicitDefEqProofs (disch := omega) only [go_sem, Nat.reduceAdd, Nat.reduceSub, reduceCtorEq, Nat.reduceLT, Nat.reduceLeDiff, Nat.reduceEqDiff, Nat.reduceMul, Int.reduceToNat, ↓reduceIte, List.take_of_length_le, if_pos, if_neg, List.getElem?_set_self, List.set_set, cnE, cnV, Try.ntmps30, Try.results30,  hv, q1, q2, ho, q3, q4])
      generalize offF a = A at *
      generalize offF b = B at *
      refine LoopQ.mix (fun t0 L0 nn ss => ∃ (k : Nat) (_ : Unit), (∃ x : Nat → AV, ss = ⟨mixL 0 (.k :: .k :: .k :: .k :: .s :: .k :: .k :: .v (i64 (k : Nat)) :: .k :: .k :: .k :: .k :: .k :: .k :: .k :: .k :: .k :: .k :: .k :: .k :: .s :: .s :: .s :: .s :: .s :: .s :: .s :: .s :: .s :: .s :: .s :: .s :: .s :: []) t0 x, L0⟩) ∧ (k ≤ B.length) ∧ ((B.take k).all (fun x => A.contains x) = true) ∧ nn = B.length - k) ?_ ?_
      · exact ⟨_, ⟨0, (), mixI rfl, Nat.zero_le _, rfl, rfl⟩⟩
      · rintro I0 hI0 nn s ⟨k, _, ⟨x, rfl⟩, g1, g2, rfl⟩
        by_cases hk : k < B.length
        · have hki : (k : Int) < (B.length : Int) := by omega
          have p1 := gPlaceIn_eq (l := A) (by omega) (B.getD k 0)
          have p2 := plc_nonneg (l := A) (n := B.getD k 0)
          have hs := all_take (p := fun x => A.contains x) hk
          rw [g2, Bool.true_and] at hs
          by_cases hm : B.getD k 0 ∈ A
          · have p3 : ¬ plc A (B.getD k 0) < 0 := by have := p2.2 hm; omega
            rw [List.contains_iff_mem.2 hm] at hs
            repeat' (first | with_reducible first | refine kI (by kernel_rfl) ?_ | refine kN (by kernel_rfl) ?_ | (first | refine kB1 ?_ ?_ | refine kB2 ?_ ?_) <;> intro hp | (first | refine kD1 ?_ ?_ | refine kD2 ?_ ?_ | refine kS1 ?_ ?_ | refine kS2 ?_ ?_) <;> intro hp <;> try simp only [hp] | simp -implicitDefEqProofs (disch := omega) only [go_sem, Nat.reduceAdd, Nat.reduceSub, reduceCtorEq, Nat.reduceLT, Nat.reduceLeDiff, Nat.reduceEqDiff, Nat.reduceMul, Int.reduceToNat, ↓reduceIte, List.take_of_length_le, if_pos, if_neg, List.getElem?_set_self, List.set_set, cnE, cnV, Try.ntmps30, Try.results30,  hki, hp, p1, p3])
            exact ⟨B.length - (k + 1), by omega, hI0 _ _ ⟨k + 1, (), mixI rfl, hk, hs, rfl⟩⟩
          · have p3 : plc A (B.getD k 0) < 0 := by
              rcases Int.lt_or_le (plc A (B.getD k 0)) 0 with h | h
              · exact h
              · exact absurd (p2.1 h) hm
            have hall : (B.all fun x => A.contains x) = false := by
              rw [← Bool.not_eq_true, List.all_eq_true]
              exact fun h => hm (List.contains_iff_mem.1 (h _ (gmem hk)))
            repeat' (first | with_reducible first | refine kI (by kernel_rfl) ?_ | refine kN (by kernel_rfl) ?_ | (first | refine kB1 ?_ ?_ | refine kB2 ?_ ?_) <;> intro hp | (first | refine kD1 ?_ ?_ | refine kD2 ?_ ?_ | refine kS1 ?_ ?_ | refine kS2 ?_ ?_) <;> intro hp <;> try simp only [hp] | simp -implicitDefEqProofs (disch := omega) only [go_sem, Nat.reduceAdd, Nat.reduceSub, reduceCtorEq, Nat.reduceLT, Nat.reduceLeDiff, Nat.reduceEqDiff, Nat.reduceMul, Int.reduceToNat, ↓reduceIte, List.take_of_length_le, if_pos, if_neg, List.getElem?_set_self, List.set_set, cnE, cnV, Try.ntmps30, Try.results30,  hki, hp, p1, p3, hall])
        · obtain rfl : k = B.length := by omega
          rw [List.take_length] at g2
          repeat' (first | with_reducible first | refine kI (by kernel_rfl) ?_ | refine kN (by kernel_rfl) ?_ | (first | refine kB1 ?_ ?_ | refine kB2 ?_ ?_) <;> intro hp | (first | refine kD1 ?_ ?_ | refine kD2 ?_ ?_ | refine kS1 ?_ ?_ | refine kS2 ?_ ?_) <;> intro hp <;> try simp only [hp] | simp -implicitDefEqProofs (disch := omega) only [go_sem, Nat.reduceAdd, Nat.reduceSub, reduceCtorEq, Nat.reduceLT, Nat.reduceLeDiff, Nat.reduceEqDiff, Nat.reduceMul, Int.reduceToNat, ↓reduceIte, List.take_of_length_le, if_pos, if_neg, List.getElem?_set_self, List.set_set, cnE, cnV, Try.ntmps30, Try.results30,  g2])
/-! ### witnesses -/
def witF (a b : Vi) : Wit := if okk a b = true ∧ 0 < (bothF (offF a) (offF b)).length then ⟨plc (offF a) ((bothF (offF a) (offF b)).getD 0 0), plc (offF b) ((bothF (offF a) (offF b)).getD 0 0), true⟩ else ⟨-1, -1, false⟩
def gWit (a b : Vi) : Option Wit := gd (viB2 a b) (witF a b)
theorem gWit_eq {a b : Vi} (h : viB2 a b) : gWit a b = some (witF a b) := gd_eq h
theorem witF_n {a b : Vi} (h : okk a b = false) : witF a b = ⟨-1, -1, false⟩ := by unfold witF; rw [h]; rfl
set_option maxHeartbeats 4000000 in
set_option maxRecDepth 100000 in
theorem spec_WitnessOfI {Sg : FuncId → Option (List AV → Option AV)} (hS : Sound Try.prog Sg) (hv : Sg 63 = some (F1 gValidV)) (hw : Sg 77 = some (F2 gOv)) (ho : Sg 68 = some (F1 gOffsets)) (hi : Sg 85 = some (F2 gPlaceIn)) : ∀ a r, F2 gWit a = some r → CSpec Try.prog 37 a r := by
  refine F2_spec ?_
  intro a b r hr
  obtain ⟨⟨ha, hb⟩, rfl⟩ := gd_some hr
  refine CSpec.intro Try.func37 rfl (own _) (vc3_sound Try.pf hS hS _ _ _ ?_)
  have q1 := gValidV_eq ha
  have q2 := gValidV_eq hb
  cases e1 : viewOK a with
  | false =>
    rw [e1] at q1
    rw [witF_n (by unfold okk; rw [e1]; rfl)]
    repeat' (first | with_reducible first | refine kI (by kernel_rfl) ?_ | refine kN (by kernel_rfl) ?_ | (first | refine kB1 ?_ ?_ | refine kB2 ?_ ?_) <;> intro hp | (first | refine kD1 ?_ ?_ | refine kD2 ?_ ?_ | refine kS1 ?_ ?_ | refine kS2 ?_ ?_) <;> intro hp <;> try simp only [hp] | simp -implicitDefEqProofs (disch := omega) only [go_sem, Nat.reduceAdd, Nat.reduceSub, reduceCtorEq, Nat.reduceLT, Nat.reduceLeDiff, Nat.reduceEqDiff, Nat.reduceMul, Int.reduceToNat, ↓reduceIte, List.take_of_length_le, if_pos, if_neg, List.getElem?_set_self, List.set_set, cnE, cnV, Try.ntmps37, Try.results37,  hv, q1])
  | true =>
    rw [e1] at q1
    cases e2 : viewOK b with
    | false =>
      rw [e2] at q2
      rw [witF_n (by unfold okk; rw [e1, e2]; rfl)]
      repeat' (first | with_reducible first | refine kI (by kernel_rfl) ?_ | refine kN (by kernel_rfl) ?_ | (first | refine kB1 ?_ ?_ | refine kB2 ?_ ?_) <;> intro hp | (first | refine kD1 ?_ ?_ | refine kD2 ?_ ?_ | refine kS1 ?_ ?_ | refine kS2 ?_ ?_) <;> intro hp <;> try simp only [hp] | simp -implicitDefEqProofs (disch := omega) only [go_sem, Nat.reduceAdd, Nat.reduceSub, reduceCtorEq, Nat.reduceLT, Nat.reduceLeDiff, Nat.reduceEqDiff, Nat.reduceMul, Int.reduceToNat, ↓reduceIte, List.take_of_length_le, if_pos, if_neg, List.getElem?_set_self, List.set_set, cnE, cnV, Try.ntmps37, Try.results37,  hv, q1, q2])
    | true =>
      rw [e2] at q2
      have a6 := offF_60 (vOK e1).1
      have b6 := offF_60 (vOK e2).1
      have q3 := gOv_eq ⟨vOK e1, vOK e2⟩
      have q4 := ovF_eq (B := offF b) (offF_in e1)
      have q5 := gOffsets_eq (vOK e1)
      have q6 := gOffsets_eq (vOK e2)
      unfold witF
      by_cases h0 : 0 < (bothF (offF a) (offF b)).length
      · rw [if_pos ⟨okk_iff.2 ⟨e1, e2⟩, h0⟩]
        have h0' : (((bothF (offF a) (offF b)).length : Int) == 0) = false := beq_f (by omega)
        have h1' : (0 : Int) < ((bothF (offF a) (offF b)).length : Int) := by omega
        have q7 := gPlaceIn_eq (l := offF a) (by omega) ((bothF (offF a) (offF b)).getD 0 0)
        have q8 := gPlaceIn_eq (l := offF b) (by omega) ((bothF (offF a) (offF b)).getD 0 0)
        repeat' (first | with_reducible first | refine kI (by kernel_rfl) ?_ | refine kN (by kernel_rfl) ?_ | (first | refine kB1 ?_ ?_ | refine kB2 ?_ ?_) <;> intro hp | (first | refine kD1 ?_ ?_ | refine kD2 ?_ ?_ | refine kS1 ?_ ?_ | refine kS2 ?_ ?_) <;> intro hp <;> try simp only [hp] | simp -implicitDefEqProofs (disch := omega) only [go_sem, Nat.reduceAdd, Nat.reduceSub, reduceCtorEq, Nat.reduceLT, Nat.reduceLeDiff, Nat.reduceEqDiff, Nat.reduceMul, Int.reduceToNat, ↓reduceIte, List.take_of_length_le, if_pos, if_neg, List.getElem?_set_self, List.set_set, cnE, cnV, Try.ntmps37, Try.results37,  hv, q1, q2, hw, q3, q4, h0', h1', ho, q5, q6, hi, q7, q8])
      · rw [if_neg (fun h => h0 h.2)]
        have h0' : (((bothF (offF a) (offF b)).length : Int) == 0) = true := beq_t (by omega)
        repeat' (first | with_reducible first | refine kI (by kernel_rfl) ?_ | refine kN (by kernel_rfl) ?_ | (first | refine kB1 ?_ ?_ | refine kB2 ?_ ?_) <;> intro hp | (first | refine kD1 ?_ ?_ | refine kD2 ?_ ?_ | refine kS1 ?_ ?_ | refine kS2 ?_ ?_) <;> intro hp <;> try simp only [hp] | simp -implicitDefEqProofs (disch := omega) only [go_sem, Nat.reduceAdd, Nat.reduceSub, reduceCtorEq, Nat.reduceLT, Nat.reduceLeDiff, Nat.reduceEqDiff, Nat.reduceMul, Int.reduceToNat, ↓reduceIte, List.take_of_length_le, if_pos, if_neg, List.getElem?_set_self, List.set_set, cnE, cnV, Try.ntmps37, Try.results37,  hv, q1, q2, hw, q3, q4, h0'])
set_option maxHeartbeats 4000000 in
set_option maxRecDepth 100000 in
theorem spec_WitnessOfS {Sg : FuncId → Option (List AV → Option AV)} (hS : Sound Try.prog Sg) (hd : Sg 45 = some (F2 gDoOv)) (hw : Sg 86 = some (F2 gBoth)) (ho : Sg 67 = some (F1 gOffsets)) (hi : Sg 78 = some (F2 gPlaceIn)) : ∀ a r, F2 gWit a = some r → CSpec Try.prog 38 a r := by
  refine F2_spec ?_
  intro a b r hr
  obtain ⟨hab, rfl⟩ := gd_some hr
  refine CSpec.intro Try.func38 rfl (own _) (vc3_sound Try.pf hS hS _ _ _ ?_)
  have q1 := gDoOv_eq hab
  by_cases hk : okk a b = true
  · obtain ⟨e1, e2⟩ := okk_iff.1 hk
    have a6 := offF_60 (vOK e1).1
    have b6 := offF_60 (vOK e2).1
    have q4 := gBoth_eq (a := offF a) (b := offF b) ⟨by omega, by omega⟩
    have q5 := gOffsets_eq (vOK e1)
    have q6 := gOffsets_eq (vOK e2)
    rw [hk, Bool.true_and] at q1
    unfold witF
    by_cases h0 : 0 < (bothF (offF a) (offF b)).length
    · rw [decide_eq_true h0] at q1
      rw [if_pos ⟨hk, h0⟩]
      have h1' : (0 : Int) < ((bothF (offF a) (offF b)).length : Int) := by omega
      have q7 := gPlaceIn_eq (l := offF a) (by omega) ((bothF (offF a) (offF b)).getD 0 0)
      have q8 := gPlaceIn_eq (l := offF b) (by omega) ((bothF (offF a) (offF b)).getD 0 0)
      repeat' (first | with_reducible first | refine kI (by kernel_rfl) ?_ | refine kN (by kernel_rfl) ?_ | (first | refine kB1 ?_ ?_ | refine kB2 ?_ ?_) <;> intro hp | (first | refine kD1 ?_ ?_ | refine kD2 ?_ ?_ | refine kS1 ?_ ?_ | refine kS2 ?_ ?_) <;> intro hp <;> try simp only [hp] | simp -implicitDefEqProofs (disch := omega) only [go_sem, Nat.reduceAdd, Nat.reduceSub, reduceCtorEq, Nat.reduceLT, Nat.reduceLeDiff, Nat.reduceEqDiff, Nat.reduceMul, Int.reduceToNat, ↓reduceIte, List.take_of_length_le, if_pos, if_neg, List.getElem?_set_self, List.set_set, cnE, cnV, Try.ntmps38, Try.results38,  hd, q1, hw, q4, h1', ho, q5, q6, hi, q7, q8])
    · rw [decide_eq_false h0] at q1
      rw [if_neg (fun h => h0 h.2)]
      repeat' (first | with_reducible first | refine kI (by kernel_rfl) ?_ | refine kN (by kernel_rfl) ?_ | (first | refine kB1 ?_ ?_ | refine kB2 ?_ ?_) <;> intro hp | (first | refine kD1 ?_ ?_ | refine kD2 ?_ ?_ | refine kS1 ?_ ?_ | refine kS2 ?_ ?_) <;> intro hp <;> try simp only [hp] | simp -implicitDefEqProofs (disch := omega) only [go_sem, Nat.reduceAdd, Nat.reduceSub, reduceCtorEq, Nat.reduceLT, Nat.reduceLeDiff, Nat.reduceEqDiff, Nat.reduceMul, Int.reduceToNat, ↓reduceIte, List.take_of_length_le, if_pos, if_neg, List.getElem?_set_self, List.set_set, cnE, cnV, Try.ntmps38, Try.results38,  hd, q1])
  · have hk' : okk a b = false := by simpa using hk
    rw [hk', Bool.false_and] at q1
    rw [witF_n hk']
    repeat' (first | with_reducible first | refine kI (by kernel_rfl) ?_ | refine kN (by kernel_rfl) ?_ | (first | refine kB1 ?_ ?_ | refine kB2 ?_ ?_) <;> intro hp | (first | refine kD1 ?_ ?_ | refine kD2 ?_ ?_ | refine kS1 ?_ ?_ | refine kS2 ?_ ?_) <;> intro hp <;> try simp only [hp] | simp -implicitDefEqProofs (disch := omega) only [go_sem, Nat.reduceAdd, Nat.reduceSub, reduceCtorEq, Nat.reduceLT, Nat.reduceLeDiff, Nat.reduceEqDiff, Nat.reduceMul, Int.reduceToNat, ↓reduceIte, List.take_of_length_le, if_pos, if_neg, List.getElem?_set_self, List.set_set, cnE, cnV, Try.ntmps38, Try.results38,  hd, q1])
end Go.Proofs.Ytgepbcakcjdmoaa
