/- Contracts of functions that the laws of this seat call. -/
import Derived.Test.YtgpflkmelindfaaVd
set_option linter.all false
namespace Go.Proofs.Ytgpflkmelindfaa
open Go Go.Ev Go.RowKit Go.Ev.Enc Go.Pl

def slOK (s : Sl) : Bool := inR s.f (-100) 100 && (inR s.t (-100) 100 && (inR s.s (-200) 200 && (!(s.s == 0) && ((s.hf || s.f == 0) && (s.ht || s.t == 0)))))
theorem slOK_b {s : Sl} (h : slOK s = true) : slB s := by
  unfold slOK inR at h
  simp only [Bool.and_eq_true, decide_eq_true_eq] at h
  obtain ⟨h1, h2, h3, _⟩ := h
  exact ⟨⟨by omega, by omega⟩, ⟨by omega, by omega⟩, by omega, by omega⟩
def gValidSl (s : Sl) : Option Bool := gd True (slOK s)
theorem gValidSl_eq (s : Sl) : gValidSl s = some (slOK s) := rfl
set_option maxHeartbeats 4000000 in
set_option maxRecDepth 100000 in
theorem spec_validSlice {Sg : FuncId → Option (List AV → Option AV)} (hS : Sound Try.prog Sg) (hr : Sg 60 = some (F3 gInRange)) : ∀ a r, F1 gValidSl a = some r → CSpec Try.prog 92 a r := by
  refine F1_spec ?_
  intro s r hr0
  obtain ⟨-, rfl⟩ := gd_some hr0
  refine CSpec.intro Try.func92 rfl (own _) (vc3_sound Try.pf hS hS _ _ _ ?_)
  have q1 := gInRange_eq s.f (-100) 100
  have q2 := gInRange_eq s.t (-100) 100
  have q3 := gInRange_eq s.s (-200) 200
  unfold slOK
  cases e1 : inR s.f (-100) 100 with
  | false =>
    rw [e1] at q1
    repeat' (first | with_reducible first | refine kI (by kernel_rfl) ?_ | refine kN (by kernel_rfl) ?_ | (first | refine kB1 ?_ ?_ | refine kB2 ?_ ?_) <;> intro hp | (first | refine kD1 ?_ ?_ | refine kD2 ?_ ?_ | refine kS1 ?_ ?_ | refine kS2 ?_ ?_) <;> intro hp <;> try simp only [hp] | simp -implicitDefEqProofs (disch := omega) only [go_sem, Nat.reduceAdd, Nat.reduceSub, reduceCtorEq, Nat.reduceLT, Nat.reduceLeDiff, Nat.reduceEqDiff, Nat.reduceMul, Int.reduceToNat, ↓reduceIte, List.take_of_length_le, if_pos, if_neg, List.getElem?_set_self, List.set_set, cnE, cnV, Try.ntmps92, Try.results92,  hr, q1])
    try rfl
  | true =>
    rw [e1] at q1
    cases e2 : inR s.t (-100) 100 with
    | false =>
      rw [e2] at q2
      repeat' (first | with_reducible first | refine kI (by kernel_rfl) ?_ | refine kN (by kernel_rfl) ?_ | (first | refine kB1 ?_ ?_ | refine kB2 ?_ ?_) <;> intro hp | (first | refine kD1 ?_ ?_ | refine kD2 ?_ ?_ | refine kS1 ?_ ?_ | refine kS2 ?_ ?_) <;> intro hp <;> try simp only [hp] | simp -implicitDefEqProofs (disch := omega) only [go_sem, Nat.reduceAdd, Nat.reduceSub, reduceCtorEq, Nat.reduceLT, Nat.reduceLeDiff, Nat.reduceEqDiff, Nat.reduceMul, Int.reduceToNat, ↓reduceIte, List.take_of_length_le, if_pos, if_neg, List.getElem?_set_self, List.set_set, cnE, cnV, Try.ntmps92, Try.results92,  hr, q1, q2])
      try rfl
    | true =>
      rw [e2] at q2
      cases e3 : inR s.s (-200) 200 with
      | false =>
        rw [e3] at q3
        repeat' (first | with_reducible first | refine kI (by kernel_rfl) ?_ | refine kN (by kernel_rfl) ?_ | (first | refine kB1 ?_ ?_ | refine kB2 ?_ ?_) <;> intro hp | (first | refine kD1 ?_ ?_ | refine kD2 ?_ ?_ | refine kS1 ?_ ?_ | refine kS2 ?_ ?_) <;> intro hp <;> try simp only [hp] | simp -implicitDefEqProofs (disch := omega) only [go_sem, Nat.reduceAdd, Nat.reduceSub, reduceCtorEq, Nat.reduceLT, Nat.reduceLeDiff, Nat.reduceEqDiff, Nat.reduceMul, Int.reduceToNat, ↓reduceIte, List.take_of_length_le, if_pos, if_neg, List.getElem?_set_self, List.set_set, cnE, cnV, Try.ntmps92, Try.results92,  hr, q1, q2, q3])
        try rfl
      | true =>
        rw [e3] at q3
        cases e4 : s.s == 0 with
        | true =>
          repeat' (first | with_reducible first | refine kI (by kernel_rfl) ?_ | refine kN (by kernel_rfl) ?_ | (first | refine kB1 ?_ ?_ | refine kB2 ?_ ?_) <;> intro hp | (first | refine kD1 ?_ ?_ | refine kD2 ?_ ?_ | refine kS1 ?_ ?_ | refine kS2 ?_ ?_) <;> intro hp <;> try simp only [hp] | simp -implicitDefEqProofs (disch := omega) only [go_sem, Nat.reduceAdd, Nat.reduceSub, reduceCtorEq, Nat.reduceLT, Nat.reduceLeDiff, Nat.reduceEqDiff, Nat.reduceMul, Int.reduceToNat, ↓reduceIte, List.take_of_length_le, if_pos, if_neg, List.getElem?_set_self, List.set_set, cnE, cnV, Try.ntmps92, Try.results92,  hr, q1, q2, q3, e4])
          try rfl
        | false =>
          cases e5 : s.hf <;> cases e6 : s.ht <;> cases e7 : s.f == 0 <;> cases e8 : s.t == 0
          all_goals
            repeat' (first | with_reducible first | refine kI (by kernel_rfl) ?_ | refine kN (by kernel_rfl) ?_ | (first | refine kB1 ?_ ?_ | refine kB2 ?_ ?_) <;> intro hp | (first | refine kD1 ?_ ?_ | refine kD2 ?_ ?_ | refine kS1 ?_ ?_ | refine kS2 ?_ ?_) <;> intro hp <;> try simp only [hp] | simp -implicitDefEqProofs (disch := omega) only [go_sem, Nat.reduceAdd, Nat.reduceSub, reduceCtorEq, Nat.reduceLT, Nat.reduceLeDiff, Nat.reduceEqDiff, Nat.reduceMul, Int.reduceToNat, ↓reduceIte, List.take_of_length_le, if_pos, if_neg, List.getElem?_set_self, List.set_set, cnE, cnV, Try.ntmps92, Try.results92,  hr, q1, q2, q3, e4, e5, e6, e7, e8])
          all_goals try rfl
def gIsDim (v : Vi) (d : Int) : Option Bool := gd (v.sh.length < 4294967296) (inR d 0 (v.sh.length - 1))
theorem gIsDim_eq {v : Vi} (h : v.sh.length < 4294967296) (d : Int) : gIsDim v d = some (inR d 0 (v.sh.length - 1)) := gd_eq h
set_option maxHeartbeats 4000000 in
set_option maxRecDepth 100000 in
theorem spec_isDim {Sg : FuncId → Option (List AV → Option AV)} (hS : Sound Try.prog Sg) (hr : Sg 60 = some (F3 gInRange)) : ∀ a r, F2 gIsDim a = some r → CSpec Try.prog 91 a r := by
  refine F2_spec ?_
  intro v d r hr0
  obtain ⟨h1, rfl⟩ := gd_some hr0
  refine CSpec.intro Try.func91 rfl (own _) (vc3_sound Try.pf hS hS _ _ _ ?_)
  have w : IntKind.i64.wrap ((v.sh.length : Int) - 1) = (v.sh.length : Int) - 1 := wrap_in (by omega)
  repeat' (first | with_reducible first | refine kI (by kernel_rfl) ?_ | refine kN (by kernel_rfl) ?_ | (first | refine kB1 ?_ ?_ | refine kB2 ?_ ?_) <;> intro hp | (first | refine kD1 ?_ ?_ | refine kD2 ?_ ?_ | refine kS1 ?_ ?_ | refine kS2 ?_ ?_) <;> intro hp <;> try simp only [hp] | simp -implicitDefEqProofs (disch := omega) only [go_sem, Nat.reduceAdd, Nat.reduceSub, reduceCtorEq, Nat.reduceLT, Nat.reduceLeDiff, Nat.reduceEqDiff, Nat.reduceMul, Int.reduceToNat, ↓reduceIte, List.take_of_length_le, if_pos, if_neg, List.getElem?_set_self, List.set_set, cnE, cnV, Try.ntmps91, Try.results91,  w, hr, gInRange_eq])
def upV (n : Nat) : List Int := (List.range n).map fun i : Nat => (i : Int)
theorem upV_len (n : Nat) : (upV n).length = n := by simp [upV]
theorem upV_snoc (n : Nat) : upV n ++ [(n : Int)] = upV (n + 1) := by simp [upV, List.range_succ]
theorem upV_mem {n : Nat} {x : Int} : x ∈ upV n ↔ 0 ≤ x ∧ x < n := by
  unfold upV
  rw [List.mem_map]
  constructor
  · rintro ⟨i, hi, rfl⟩
    have := List.mem_range.1 hi
    omega
  · intro h
    exact ⟨x.toNat, List.mem_range.2 (by omega), by omega⟩
theorem upV_asc (n : Nat) : (upV n).Pairwise (· < ·) := by
  unfold upV
  rw [List.pairwise_map]
  exact List.pairwise_lt_range.imp fun h => by omega
def gUpV (n : Int) : Option (List Int) := gd (0 ≤ n ∧ n ≤ 1048576) (upV n.toNat)
theorem gUpV_eq {n : Nat} (h : n ≤ 1048576) : gUpV (n : Int) = some (upV n) := gd_eq ⟨by omega, by omega⟩
set_option maxHeartbeats 2000000 in
set_option maxRecDepth 100000 in
theorem spec_upToS {Sg : FuncId → Option (List AV → Option AV)} (hS : Sound Try.prog Sg) : ∀ a r, F1 gUpV a = some r → CSpec Try.prog 136 a r := by
  refine spec1 Try.func136 rfl Try.pf hS ?_
  intro n r hr
  obtain ⟨⟨h1, h2⟩, rfl⟩ := gd_some hr
  obtain ⟨N, rfl⟩ : ∃ N : Nat, n = N := ⟨n.toNat, by omega⟩
  rw [Int.toNat_natCast]
  repeat' (first | with_reducible first | refine kI (by kernel_rfl) ?_ | refine kN (by kernel_rfl) ?_ | (first | refine kB1 ?_ ?_ | refine kB2 ?_ ?_) <;> intro hp | (first | refine kD1 ?_ ?_ | refine kD2 ?_ ?_ | refine kS1 ?_ ?_ | refine kS2 ?_ ?_) <;> intro hp <;> try simp only [hp] | simp -implicitDefEqProofs (disch := omega) only [go_sem, Nat.reduceAdd, Nat.reduceSub, reduceCtorEq, Nat.reduceLT, Nat.reduceLeDiff, Nat.reduceEqDiff, Nat.reduceMul, Int.reduceToNat, ↓reduceIte, List.take_of_length_le, if_pos, if_neg, List.getElem?_set_self, List.set_set, cnE, cnV, Try.ntmps136, Try.results136])
  refine LoopQ.mix (fun t0 L0 nn ss => ∃ (k : Nat) (q : List Int) (_ : Unit), (∃ x : Nat → AV, ss = ⟨mixL 0 (.k :: .k :: .k :: .v (.sl 0 k 0 k k) :: .v (i64 (k : Nat)) :: .k :: .s :: .s :: .s :: .s :: .s :: .s :: .s :: .s :: .s :: .k :: []) t0 x, [⟨1, q.map fun n => .int .i64 n⟩]⟩) ∧ (k ≤ N) ∧ (q.length = k) ∧ (q = upV k) ∧ nn = N - k) ?_ ?_
  · exact ⟨_, ⟨0, [], (), mixI rfl, Nat.zero_le _, rfl, rfl, rfl⟩⟩
  · rintro I0 hI0 nn s ⟨k, q, _, ⟨x, rfl⟩, g1, g2, g3, rfl⟩
    by_cases hlt : k < N
    · have hki : (k : Int) < (N : Int) := by omega
      repeat' (first | with_reducible first | refine kI (by kernel_rfl) ?_ | refine kN (by kernel_rfl) ?_ | (first | refine kB1 ?_ ?_ | refine kB2 ?_ ?_) <;> intro hp | (first | refine kD1 ?_ ?_ | refine kD2 ?_ ?_ | refine kS1 ?_ ?_ | refine kS2 ?_ ?_) <;> intro hp <;> try simp only [hp] | simp -implicitDefEqProofs (disch := omega) only [go_sem, Nat.reduceAdd, Nat.reduceSub, reduceCtorEq, Nat.reduceLT, Nat.reduceLeDiff, Nat.reduceEqDiff, Nat.reduceMul, Int.reduceToNat, ↓reduceIte, List.take_of_length_le, if_pos, if_neg, List.getElem?_set_self, List.set_set, cnE, cnV, Try.ntmps136, Try.results136,  hki])
      exact ⟨N - (k + 1), by omega, hI0 _ _ ⟨k + 1, _, (), mixI rfl, hlt, by simp [g2], by rw [g3, upV_snoc], rfl⟩⟩
    · obtain rfl : k = N := by omega
      repeat' (first | with_reducible first | refine kI (by kernel_rfl) ?_ | refine kN (by kernel_rfl) ?_ | (first | refine kB1 ?_ ?_ | refine kB2 ?_ ?_) <;> intro hp | (first | refine kD1 ?_ ?_ | refine kD2 ?_ ?_ | refine kS1 ?_ ?_ | refine kS2 ?_ ?_) <;> intro hp <;> try simp only [hp] | simp -implicitDefEqProofs (disch := omega) only [go_sem, Nat.reduceAdd, Nat.reduceSub, reduceCtorEq, Nat.reduceLT, Nat.reduceLeDiff, Nat.reduceEqDiff, Nat.reduceMul, Int.reduceToNat, ↓reduceIte, List.take_of_length_le, if_pos, if_neg, List.getElem?_set_self, List.set_set, cnE, cnV, Try.ntmps136, Try.results136])
      rw [g3]
theorem rev_dropV {l : List Int} {m : Nat} (h : m < l.length) : (l.drop (m + 1)).reverse ++ [l.getD m 0] = (l.drop m).reverse := by
  rw [List.drop_eq_getElem_cons h, List.reverse_cons]
  simp [h]
def gRev (l : List Int) : Option (List Int) := gd (l.length ≤ 1048576) l.reverse
theorem gRev_eq {l : List Int} (h : l.length ≤ 1048576) : gRev l = some l.reverse := gd_eq h
set_option maxHeartbeats 2000000 in
set_option maxRecDepth 100000 in
theorem spec_reversed {Sg : FuncId → Option (List AV → Option AV)} (hS : Sound Try.prog Sg) : ∀ a r, F1 gRev a = some r → CSpec Try.prog 135 a r := by
  refine spec1 Try.func135 rfl Try.pf hS ?_
  intro l r hr
  obtain ⟨h1, rfl⟩ := gd_some hr
  repeat' (first | with_reducible first | refine kI (by kernel_rfl) ?_ | refine kN (by kernel_rfl) ?_ | (first | refine kB1 ?_ ?_ | refine kB2 ?_ ?_) <;> intro hp | (first | refine kD1 ?_ ?_ | refine kD2 ?_ ?_ | refine kS1 ?_ ?_ | refine kS2 ?_ ?_) <;> intro hp <;> try simp only [hp] | simp -implicitDefEqProofs (disch := omega) only [go_sem, Nat.reduceAdd, Nat.reduceSub, reduceCtorEq, Nat.reduceLT, Nat.reduceLeDiff, Nat.reduceEqDiff, Nat.reduceMul, Int.reduceToNat, ↓reduceIte, List.take_of_length_le, if_pos, if_neg, List.getElem?_set_self, List.set_set, cnE, cnV, Try.ntmps135, Try.results135])
  refine LoopQ.mix (fun t0 L0 nn ss => ∃ (m : Nat) (k : Nat) (q : List Int) (_ : Unit), (∃ x : Nat → AV, ss = ⟨mixL 0 (.k :: .k :: .k :: .v (.sl 0 k 0 k k) :: .v (i64 ((m : Nat) - 1)) :: .k :: .k :: .k :: .k :: .s :: .s :: .s :: .s :: .s :: .s :: .s :: .s :: .s :: .s :: .s :: .k :: []) t0 x, [⟨1, q.map fun n => .int .i64 n⟩]⟩) ∧ (m + k = l.length) ∧ (q.length = k) ∧ (q = (l.drop m).reverse) ∧ nn = m + 1) ?_ ?_
  · exact ⟨_, ⟨l.length, 0, [], (), mixI rfl, Nat.add_zero _, rfl, by rw [List.drop_of_length_le (Nat.le_refl _)]; rfl, rfl⟩⟩
  · rintro I0 hI0 n s ⟨m, k, q, _, ⟨x, rfl⟩, g1, g2, g3, rfl⟩
    match m, g1, g3 with
    | 0, g1, g3 =>
      repeat' (first | with_reducible first | refine kI (by kernel_rfl) ?_ | refine kN (by kernel_rfl) ?_ | (first | refine kB1 ?_ ?_ | refine kB2 ?_ ?_) <;> intro hp | (first | refine kD1 ?_ ?_ | refine kD2 ?_ ?_ | refine kS1 ?_ ?_ | refine kS2 ?_ ?_) <;> intro hp <;> try simp only [hp] | simp -implicitDefEqProofs (disch := omega) only [go_sem, Nat.reduceAdd, Nat.reduceSub, reduceCtorEq, Nat.reduceLT, Nat.reduceLeDiff, Nat.reduceEqDiff, Nat.reduceMul, Int.reduceToNat, ↓reduceIte, List.take_of_length_le, if_pos, if_neg, List.getElem?_set_self, List.set_set, cnE, cnV, Try.ntmps135, Try.results135])
      rw [g3]; rfl
    | m + 1, g1, g3 =>
      have hml : m < l.length := by omega
      have e1 : (((m + 1 : Nat) : Int) - 1) = (m : Int) := by omega
      have hr1 := rev_dropV hml
      rw [← g3] at hr1
      have hmi : (m : Int) < (l.length : Int) := by omega
      rw [e1]
      repeat' (first | with_reducible first | refine kI (by kernel_rfl) ?_ | refine kN (by kernel_rfl) ?_ | (first | refine kB1 ?_ ?_ | refine kB2 ?_ ?_) <;> intro hp | (first | refine kD1 ?_ ?_ | refine kD2 ?_ ?_ | refine kS1 ?_ ?_ | refine kS2 ?_ ?_) <;> intro hp <;> try simp only [hp] | simp -implicitDefEqProofs (disch := omega) only [go_sem, Nat.reduceAdd, Nat.reduceSub, reduceCtorEq, Nat.reduceLT, Nat.reduceLeDiff, Nat.reduceEqDiff, Nat.reduceMul, Int.reduceToNat, ↓reduceIte, List.take_of_length_le, if_pos, if_neg, List.getElem?_set_self, List.set_set, cnE, cnV, Try.ntmps135, Try.results135,  hmi])
      exact ⟨m + 1, by omega, hI0 _ _ ⟨m, k + 1, q ++ [l.getD m 0], (), mixI rfl, by omega, by simp [g2], hr1, rfl⟩⟩
/-- all numbers from 0 on, each once -/
def ordOK (o : List Int) (n : Int) : Bool := ((o.length : Int) == n) && ((o.all fun x => inR x 0 (n - 1)) && diffF o)
def gOrd (o : List Int) (n : Int) : Option Bool := gd (o.length < 4294967296 ∧ -1000 ≤ n ∧ n ≤ 4294967296) (ordOK o n)
theorem gOrd_eq {o : List Int} {n : Int} (h : o.length < 4294967296 ∧ -1000 ≤ n ∧ n ≤ 4294967296) : gOrd o n = some (ordOK o n) := gd_eq h
set_option maxHeartbeats 4000000 in
set_option maxRecDepth 100000 in
theorem spec_validOrder {Sg : FuncId → Option (List AV → Option AV)} (hS : Sound Try.prog Sg) (ha : Sg 79 = some (F3 gAllIn)) (hd : Sg 72 = some (F1 gDifferent)) : ∀ a r, F2 gOrd a = some r → CSpec Try.prog 153 a r := by
  refine F2_spec ?_
  intro o n r hr
  obtain ⟨⟨h1, h2, h3⟩, rfl⟩ := gd_some hr
  refine CSpec.intro Try.func153 rfl (own _) (vc3_sound Try.pf hS hS _ _ _ ?_)
  have w : IntKind.i64.wrap (n - 1) = n - 1 := wrap_in (by omega)
  have q1 := gAllIn_eq (l := o) h1 0 (n - 1)
  have q2 := gDifferent_eq (l := o) h1
  unfold ordOK
  cases e1 : ((o.length : Int) == n) with
  | false =>
    repeat' (first | with_reducible first | refine kI (by kernel_rfl) ?_ | refine kN (by kernel_rfl) ?_ | (first | refine kB1 ?_ ?_ | refine kB2 ?_ ?_) <;> intro hp | (first | refine kD1 ?_ ?_ | refine kD2 ?_ ?_ | refine kS1 ?_ ?_ | refine kS2 ?_ ?_) <;> intro hp <;> try simp only [hp] | simp -implicitDefEqProofs (disch := omega) only [go_sem, Nat.reduceAdd, Nat.reduceSub, reduceCtorEq, Nat.reduceLT, Nat.reduceLeDiff, Nat.reduceEqDiff, Nat.reduceMul, Int.reduceToNat, ↓reduceIte, List.take_of_length_le, if_pos, if_neg, List.getElem?_set_self, List.set_set, cnE, cnV, Try.ntmps153, Try.results153,  e1, w])
    try rfl
  | true =>
    cases e2 : (o.all fun x => inR x 0 (n - 1)) with
    | false =>
      rw [e2] at q1
      repeat' (first | with_reducible first | refine kI (by kernel_rfl) ?_ | refine kN (by kernel_rfl) ?_ | (first | refine kB1 ?_ ?_ | refine kB2 ?_ ?_) <;> intro hp | (first | refine kD1 ?_ ?_ | refine kD2 ?_ ?_ | refine kS1 ?_ ?_ | refine kS2 ?_ ?_) <;> intro hp <;> try simp only [hp] | simp -implicitDefEqProofs (disch := omega) only [go_sem, Nat.reduceAdd, Nat.reduceSub, reduceCtorEq, Nat.reduceLT, Nat.reduceLeDiff, Nat.reduceEqDiff, Nat.reduceMul, Int.reduceToNat, ↓reduceIte, List.take_of_length_le, if_pos, if_neg, List.getElem?_set_self, List.set_set, cnE, cnV, Try.ntmps153, Try.results153,  e1, w, ha, q1])
      try rfl
    | true =>
      rw [e2] at q1
      repeat' (first | with_reducible first | refine kI (by kernel_rfl) ?_ | refine kN (by kernel_rfl) ?_ | (first | refine kB1 ?_ ?_ | refine kB2 ?_ ?_) <;> intro hp | (first | refine kD1 ?_ ?_ | refine kD2 ?_ ?_ | refine kS1 ?_ ?_ | refine kS2 ?_ ?_) <;> intro hp <;> try simp only [hp] | simp -implicitDefEqProofs (disch := omega) only [go_sem, Nat.reduceAdd, Nat.reduceSub, reduceCtorEq, Nat.reduceLT, Nat.reduceLeDiff, Nat.reduceEqDiff, Nat.reduceMul, Int.reduceToNat, ↓reduceIte, List.take_of_length_le, if_pos, if_neg, List.getElem?_set_self, List.set_set, cnE, cnV, Try.ntmps153, Try.results153,  e1, w, ha, q1, hd, q2])
      try rfl
end Go.Proofs.Ytgpflkmelindfaa
