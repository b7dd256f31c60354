/- Contracts of functions that the laws of this seat call. -/
import Derived.Test.YtkmnepmnjpdpkaaGreatDoorXb
set_option linter.all false
namespace Go.Proofs.YtkmnepmnjpdpkaaGreatDoor
open Go Go.Ev Go.RowKit Go.Ev.Enc Go.Pl

instance : Enc Ac where
  enc t a := acA t a
  dec | .agg [x, y] => (dec x).bind fun k => (dec y).map fun n => ⟨k, n⟩
      | _ => none
  ok x a := by
    constructor
    · intro h
      split at h
      · simp only [Option.bind_eq_some_iff, Option.map_eq_some_iff] at h
        obtain ⟨p, hp, q, hq, rfl⟩ := h
        rw [(ok _ _).1 hp, (ok _ _).1 hq]; rfl
      · simp at h
    · rintro rfl
      show ((dec (enc 0 a.k)).bind fun p => (dec (enc 0 a.n)).map fun q => (⟨p, q⟩ : Ac)) = some a
      rw [(ok _ a.k).2 rfl, (ok _ a.n).2 rfl]; rfl
  own a := .agg _ (by
    intro x hx
    simp only [List.mem_cons, List.not_mem_nil, or_false] at hx
    rcases hx with rfl | rfl
    · exact own a.k
    · exact own a.n)
theorem enc_ac (t : Nat) (a : Ac) : (enc t a : AV) = .agg [.int .i64 a.k, ints t a.n] := rfl
theorem dec_ac (k : Int) (n : List Int) : (dec (.agg [.int .i64 k, ints 0 n]) : Option Ac) = some ⟨k, n⟩ := (ok _ _).2 rfl
attribute [go_sem] enc_ac dec_ac
def notNum (x : Int) : Bool := decide (x < -100) || decide (100 < x)
set_option maxHeartbeats 2000000 in
set_option maxRecDepth 100000 in
theorem isp_isAct1 {Sg : FuncId → Option (List AV → Option AV)} (hS : Sound Tryz.prog Sg) (x : Int) (L : List Blk) : ISpec Tryz.prog 109 [i64 x] L (fun r L' => r = .bool (notNum x) ∧ L' = L) := by
  refine ISpec.intro Tryz.func109 rfl (vc_sound Tryz.pf hS _ _ _ ?_)
  by_cases h : x < -100
  · repeat' (first | with_reducible first | refine kI (by kernel_rfl) ?_ | refine kN (by kernel_rfl) ?_ | simp -implicitDefEqProofs (disch := omega) only [go_sem, Nat.reduceAdd, Nat.reduceSub, reduceCtorEq, Nat.reduceLT, Nat.reduceLeDiff, Nat.reduceEqDiff, ↓reduceIte, List.take_of_length_le, if_pos, if_neg, getD_exs, cnE, cnV, Tryz.ntmps109, Tryz.results109,  h, notNum])
  · by_cases h' : 100 < x
    · repeat' (first | with_reducible first | refine kI (by kernel_rfl) ?_ | refine kN (by kernel_rfl) ?_ | simp -implicitDefEqProofs (disch := omega) only [go_sem, Nat.reduceAdd, Nat.reduceSub, reduceCtorEq, Nat.reduceLT, Nat.reduceLeDiff, Nat.reduceEqDiff, ↓reduceIte, List.take_of_length_le, if_pos, if_neg, getD_exs, cnE, cnV, Tryz.ntmps109, Tryz.results109,  h, h', notNum])
    · repeat' (first | with_reducible first | refine kI (by kernel_rfl) ?_ | refine kN (by kernel_rfl) ?_ | simp -implicitDefEqProofs (disch := omega) only [go_sem, Nat.reduceAdd, Nat.reduceSub, reduceCtorEq, Nat.reduceLT, Nat.reduceLeDiff, Nat.reduceEqDiff, ↓reduceIte, List.take_of_length_le, if_pos, if_neg, getD_exs, cnE, cnV, Tryz.ntmps109, Tryz.results109,  h, h', notNum])
theorem num_any {l : List Int} : (!l.any notNum) = l.all fun x => decide (-100 ≤ x ∧ x ≤ 100) := by
  rw [Bool.eq_iff_iff, Bool.not_eq_true', List.any_eq_false, List.all_eq_true]
  unfold notNum
  simp
theorem isAct_can : CanCall Tryz.prog 109 := ⟨_, Tryz.func109, rfl, rfl⟩
theorem cnt_get {k : Int} (h : 0 ≤ k ∧ k ≤ 7) : cntA.getD k.toNat .any = .int .i64 (nedF k : Nat) := by
  obtain ⟨m, rfl⟩ : ∃ m : Nat, k = m := ⟨k.toNat, by omega⟩
  have hm : m < 8 := by omega
  rw [Int.toNat_natCast]
  match m, hm with
  | 0, _ => rfl
  | 1, _ => rfl
  | 2, _ => rfl
  | 3, _ => rfl
  | 4, _ => rfl
  | 5, _ => rfl
  | 6, _ => rfl
  | 7, _ => rfl
theorem cntA_len : cntA.length = 8 := rfl
def gActB (a : Ac) : Option Bool := gd (a.n.length < 4294967296) (actB a)
theorem gActB_eq {a : Ac} (h : a.n.length < 4294967296) : gActB a = some (actB a) := gd_eq h
set_option maxHeartbeats 4000000 in
set_option maxRecDepth 100000 in
theorem spec_isAct {Sg : FuncId → Option (List AV → Option AV)} (hS : Sound Tryz.prog Sg) (hc : Sg 108 = none) (hf : Sg 146 = none) : ∀ a r, F1 gActB a = some r → CSpec Tryz.prog 62 a r := by
  refine F1_spec ?_
  intro a r hr
  obtain ⟨h, rfl⟩ := gd_some hr
  obtain ⟨k, n⟩ := a
  refine CSpec.intro Tryz.func62 rfl (own _) (vc3_sound Tryz.pf hS hS _ _ _ ?_)
  unfold actB
  dsimp only at h ⊢
  rw [← num_any]
  by_cases h0 : k < 0
  · rw [decide_eq_false (by omega)]
    repeat' (first | with_reducible first | refine kI (by kernel_rfl) ?_ | refine kN (by kernel_rfl) ?_ | simp -implicitDefEqProofs (disch := omega) only [go_sem, Nat.reduceAdd, Nat.reduceSub, reduceCtorEq, Nat.reduceLT, Nat.reduceLeDiff, Nat.reduceEqDiff, ↓reduceIte, List.take_of_length_le, if_pos, if_neg, getD_exs, cnE, cnV, Tryz.ntmps62, Tryz.results62,  h0])
    try rfl
  by_cases h7 : 7 < k
  · rw [decide_eq_false (by omega)]
    repeat' (first | with_reducible first | refine kI (by kernel_rfl) ?_ | refine kN (by kernel_rfl) ?_ | simp -implicitDefEqProofs (disch := omega) only [go_sem, Nat.reduceAdd, Nat.reduceSub, reduceCtorEq, Nat.reduceLT, Nat.reduceLeDiff, Nat.reduceEqDiff, ↓reduceIte, List.take_of_length_le, if_pos, if_neg, getD_exs, cnE, cnV, Tryz.ntmps62, Tryz.results62,  h0, h7])
    try rfl
  have hcn := cnt_get (k := k) (by omega)
  have hle : k < 8 := by omega
  have h0' : 0 ≤ k := by omega
  by_cases hl : n.length = nedF k
  · have hl' : ((n.length : Int) == ((nedF k : Nat) : Int)) = true := beq_t (by omega)
    rw [decide_eq_true ⟨⟨h0', by omega⟩, hl⟩]
    repeat' (first | with_reducible first | refine kI (by kernel_rfl) ?_ | refine kN (by kernel_rfl) ?_ | simp -implicitDefEqProofs (disch := omega) only [go_sem, Nat.reduceAdd, Nat.reduceSub, reduceCtorEq, Nat.reduceLT, Nat.reduceLeDiff, Nat.reduceEqDiff, ↓reduceIte, List.take_of_length_le, if_pos, if_neg, getD_exs, cnE, cnV, Tryz.ntmps62, Tryz.results62,  h0, h7, hcn, cntA_len, hle, h0', hl', hc, opQ_none])
    refine InlK_intro rfl rfl can_ContainsFunc ((ispec_ContainsFunc hS hf isAct_can (fun x L => isp_isAct1 hS x L) 0 n h _).mono ?_)
    rintro r L' ⟨rfl, rfl⟩
    repeat' (first | with_reducible first | refine kI (by kernel_rfl) ?_ | refine kN (by kernel_rfl) ?_ | simp -implicitDefEqProofs (disch := omega) only [go_sem, Nat.reduceAdd, Nat.reduceSub, reduceCtorEq, Nat.reduceLT, Nat.reduceLeDiff, Nat.reduceEqDiff, ↓reduceIte, List.take_of_length_le, if_pos, if_neg, getD_exs, cnE, cnV, Tryz.ntmps62, Tryz.results62])
    try rfl
  · have hl' : ((n.length : Int) == ((nedF k : Nat) : Int)) = false := beq_f (by omega)
    rw [decide_eq_false (by omega)]
    repeat' (first | with_reducible first | refine kI (by kernel_rfl) ?_ | refine kN (by kernel_rfl) ?_ | simp -implicitDefEqProofs (disch := omega) only [go_sem, Nat.reduceAdd, Nat.reduceSub, reduceCtorEq, Nat.reduceLT, Nat.reduceLeDiff, Nat.reduceEqDiff, ↓reduceIte, List.take_of_length_le, if_pos, if_neg, getD_exs, cnE, cnV, Tryz.ntmps62, Tryz.results62,  h0, h7, hcn, cntA_len, hle, h0', hl'])
    try rfl
def gNeeds (k : Int) : Option Int := gd (0 ≤ k ∧ k ≤ 7) ((nedF k : Nat) : Int)
theorem gNeeds_eq {k : Int} (h : 0 ≤ k ∧ k ≤ 7) : gNeeds k = some ((nedF k : Nat) : Int) := gd_eq h
theorem ned_get {k : Int} (h : 0 ≤ k ∧ k ≤ 7) : ([.int .i64 1, .int .i64 3, .int .i64 4, .int .i64 1, .int .i64 2, .int .i64 2, .int .i64 1, .int .i64 1] : List AV).getD k.toNat .any = .int .i64 (nedF k : Nat) := cnt_get h
set_option maxHeartbeats 4000000 in
set_option maxRecDepth 100000 in
theorem spec_needs {Sg : FuncId → Option (List AV → Option AV)} (hS : Sound Tryz.prog Sg) : ∀ a r, F1 gNeeds a = some r → CSpec Tryz.prog 113 a r := by
  refine F1_spec ?_
  intro k r hr
  obtain ⟨h, rfl⟩ := gd_some hr
  refine CSpec.intro Tryz.func113 rfl (own _) (vc3_sound Tryz.pf hS hS _ _ _ ?_)
  have hcn := ned_get h
  have hle : k < 8 := by omega
  have h0' : 0 ≤ k := by omega
  repeat' (first | with_reducible first | refine kI (by kernel_rfl) ?_ | refine kN (by kernel_rfl) ?_ | simp -implicitDefEqProofs (disch := omega) only [go_sem, Nat.reduceAdd, Nat.reduceSub, reduceCtorEq, Nat.reduceLT, Nat.reduceLeDiff, Nat.reduceEqDiff, ↓reduceIte, List.take_of_length_le, if_pos, if_neg, getD_exs, cnE, cnV, Tryz.ntmps113, Tryz.results113,  hcn, hle, h0'])
  try rfl
set_option maxHeartbeats 4000000 in
set_option maxRecDepth 100000 in
theorem spec_validAct {Sg : FuncId → Option (List AV → Option AV)} (hS : Sound Tryz.prog Sg) (hr : Sg 100 = some (F3 gInRange)) (hn : Sg 113 = some (F1 gNeeds)) (ha : Sg 114 = some (F3 gAllIn)) : ∀ a r, F1 gActB a = some r → CSpec Tryz.prog 67 a r := by
  refine F1_spec ?_
  intro a r hr'
  obtain ⟨h, rfl⟩ := gd_some hr'
  obtain ⟨k, n⟩ := a
  refine CSpec.intro Tryz.func67 rfl (own _) (vc3_sound Tryz.pf hS hS _ _ _ ?_)
  unfold actB
  dsimp only at h ⊢
  have q1 := gInRange_eq k 0 7
  have q3 := gAllIn_eq h (-100) 100
  have hall : (n.all fun x => decide (-100 ≤ x ∧ x ≤ 100)) = n.all fun x => inR x (-100) 100 := by
    congr 1; funext x; unfold inR; simp [Bool.decide_and]
  rw [hall]
  cases e : inR k 0 7 with
  | false =>
    rw [e] at q1
    have : ¬ (0 ≤ k ∧ k ≤ 7) := by intro hk; unfold inR at e; simp [hk.1, hk.2] at e
    rw [decide_eq_false (fun hh => this hh.1)]
    repeat' (first | with_reducible first | refine kI (by kernel_rfl) ?_ | refine kN (by kernel_rfl) ?_ | simp -implicitDefEqProofs (disch := omega) only [go_sem, Nat.reduceAdd, Nat.reduceSub, reduceCtorEq, Nat.reduceLT, Nat.reduceLeDiff, Nat.reduceEqDiff, ↓reduceIte, List.take_of_length_le, if_pos, if_neg, getD_exs, cnE, cnV, Tryz.ntmps67, Tryz.results67,  hr, q1])
    try rfl
  | true =>
    rw [e] at q1
    have hk : 0 ≤ k ∧ k ≤ 7 := by unfold inR at e; simpa using e
    have q2 := gNeeds_eq hk
    by_cases hl : n.length = nedF k
    · have hl' : ((n.length : Int) == ((nedF k : Nat) : Int)) = true := beq_t (by omega)
      rw [decide_eq_true ⟨hk, hl⟩]
      repeat' (first | with_reducible first | refine kI (by kernel_rfl) ?_ | refine kN (by kernel_rfl) ?_ | simp -implicitDefEqProofs (disch := omega) only [go_sem, Nat.reduceAdd, Nat.reduceSub, reduceCtorEq, Nat.reduceLT, Nat.reduceLeDiff, Nat.reduceEqDiff, ↓reduceIte, List.take_of_length_le, if_pos, if_neg, getD_exs, cnE, cnV, Tryz.ntmps67, Tryz.results67,  hr, q1, hn, q2, hl', ha, q3])
      try rfl
    · have hl' : ((n.length : Int) == ((nedF k : Nat) : Int)) = false := beq_f (by omega)
      rw [decide_eq_false (fun hh => hl hh.2)]
      repeat' (first | with_reducible first | refine kI (by kernel_rfl) ?_ | refine kN (by kernel_rfl) ?_ | simp -implicitDefEqProofs (disch := omega) only [go_sem, Nat.reduceAdd, Nat.reduceSub, reduceCtorEq, Nat.reduceLT, Nat.reduceLeDiff, Nat.reduceEqDiff, ↓reduceIte, List.take_of_length_le, if_pos, if_neg, getD_exs, cnE, cnV, Tryz.ntmps67, Tryz.results67,  hr, q1, hn, q2, hl'])
      try rfl
instance (B : Bf) : Decidable (bfM B) := by unfold bfM; infer_instance
def gCpB (B : Bf) : Option Bf := gd (bfM B) B
theorem gCpB_eq {B : Bf} (h : bfM B) : gCpB B = some B := gd_eq h
end Go.Proofs.YtkmnepmnjpdpkaaGreatDoor
