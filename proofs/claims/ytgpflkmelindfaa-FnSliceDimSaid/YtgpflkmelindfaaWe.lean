/- Contracts of functions that the laws of this seat call. -/
import Derived.Test.YtgpflkmelindfaaWd
set_option linter.all false
namespace Go.Proofs.Ytgpflkmelindfaa
open Go Go.Ev Go.RowKit Go.Ev.Enc Go.Pl

/-! ### tiles -/
def allF (l : List Vi) : List Int := (l.map offF).flatten
theorem allF_s {l : List Vi} {k : Nat} (hk : k < l.length) : allF (l.take (k + 1)) = allF (l.take k) ++ offF (l.getD k ⟨0, [], []⟩) := by
  unfold allF
  rw [List.take_succ_eq_append_getElem hk, List.map_append, List.flatten_append]
  simp [hk]
theorem allF_len {l : List Vi} (h : ∀ v ∈ l, viewOK v = true) : ∀ k, (allF (l.take k)).length ≤ 60 * k
  | 0 => by simp [allF]
  | k + 1 => by
    have := allF_len h k
    by_cases hk : k < l.length
    · rw [allF_s hk, List.length_append]
      have := offF_60 (vOK (h (l.getD k ⟨0, [], []⟩) (by simp [hk]))).1
      omega
    · rw [List.take_of_length_le (by omega)] at this ⊢
      omega
def permB (A : List Int) (n : Int) : Bool := diffF A && ((A.all fun x => inR x 0 (n - 1)) && ((A.length : Int) == n))
abbrev msr (A : List Int) : List Int := A.mergeSort fun x y => decide (x ≤ y)
theorem perm_srt {A : List Int} {n : Int} : permB A n = (decide (msr A = upV A.length) && ((A.length : Int) == n)) := by
  rw [Bool.eq_iff_iff]
  unfold permB inR
  simp only [Bool.and_eq_true, decide_eq_true_eq, beq_iff_eq, List.all_eq_true]
  constructor
  · rintro ⟨h1, h2, h3⟩
    refine ⟨?_, h3⟩
    have hn := diffF_nodup.1 h1
    have hm : (msr A).Pairwise (· < ·) := by
      have p1 := ms_pw A
      have p2 : (msr A).Nodup := (List.mergeSort_perm A _).nodup_iff.2 hn
      rw [List.nodup_iff_pairwise_ne] at p2
      exact (p1.and p2).imp fun ⟨a, b⟩ => by omega
    refine asc_ext hm (upV_asc _) fun x => ?_
    rw [List.mem_mergeSort, upV_mem]
    constructor
    · intro hx
      have := h2 x hx
      omega
    · intro hx
      apply Classical.byContradiction
      intro hna
      have := sub_len (B := A) (A := (upV A.length).erase x) hn fun y hy => by
        have hxy : y ≠ x := fun e => hna (e ▸ hy)
        refine (List.mem_erase_of_ne hxy).2 (upV_mem.2 ?_)
        have := h2 y hy
        omega
      rw [List.length_erase_of_mem (upV_mem.2 hx), upV_len] at this
      have : 0 < A.length := by omega
      omega
  · rintro ⟨h1, h3⟩
    have hp := List.mergeSort_perm A (fun x y => decide (x ≤ y))
    rw [show A.mergeSort (fun x y => decide (x ≤ y)) = upV A.length from h1] at hp
    refine ⟨diffF_nodup.2 (hp.nodup_iff.1 ((upV_asc _).imp fun h => by omega)), fun x hx => ?_, h3⟩
    have := upV_mem.1 (hp.mem_iff.2 hx)
    omega
def tilesB (l : List Vi) (n : Int) : Bool := vsOK l && (inR n 0 60 && permB (allF l) n)
def gTiles (l : List Vi) (n : Int) : Option Bool := gd (vsB l) (tilesB l n)
theorem gTiles_eq {l : List Vi} (h : vsB l) (n : Int) : gTiles l n = some (tilesB l n) := gd_eq h
theorem upV_at {n k : Nat} (h : k < n) : (upV n).getD k 0 = (k : Int) := by simp [upV, h]
set_option maxHeartbeats 4000000 in
set_option maxRecDepth 100000 in
theorem spec_TilesOfI {Sg : FuncId → Option (List AV → Option AV)} (hS : Sound Try.prog Sg) (hv : Sg 75 = some (F1 gVs)) (hc : Sg 76 = some (F1 gAreCells)) (ho : Sg 53 = some (F1 gOffsets)) (hs : Sg 77 = none) : ∀ a r, F2 gTiles a = some r → CSpec Try.prog 27 a r := by
  refine F2_spec ?_
  intro l n r hr0
  obtain ⟨hl, rfl⟩ := gd_some hr0
  refine CSpec.intro Try.func27 rfl (own _) (vc3_sound Try.pf hS hS _ _ _ ?_)
  have hl1 := hl.1
  have q1 := gVs_eq hl
  have q2 := gAreCells_eq n
  unfold tilesB
  cases e : vsOK l with
  | false =>
    rw [e] at q1
    repeat' (first | with_reducible first | refine kI (by kernel_rfl) ?_ | refine kN (by kernel_rfl) ?_ | (first | refine kB1 ?_ ?_ | refine kB2 ?_ ?_) <;> intro hp | (first | refine kD1 ?_ ?_ | refine kD2 ?_ ?_ | refine kS1 ?_ ?_ | refine kS2 ?_ ?_) <;> intro hp <;> try simp only [hp] | simp -implicitDefEqProofs (disch := omega) only [go_sem, Nat.reduceAdd, Nat.reduceSub, reduceCtorEq, Nat.reduceLT, Nat.reduceLeDiff, Nat.reduceEqDiff, Nat.reduceMul, Int.reduceToNat, ↓reduceIte, List.take_of_length_le, if_pos, if_neg, List.getElem?_set_self, List.set_set, cnE, cnV, Try.ntmps27, Try.results27,  hv, q1])
    try rfl
  | true =>
    rw [e] at q1
    obtain ⟨h8, hall⟩ := vsOK_all e
    cases e2 : inR n 0 60 with
    | false =>
      rw [e2] at q2
      repeat' (first | with_reducible first | refine kI (by kernel_rfl) ?_ | refine kN (by kernel_rfl) ?_ | (first | refine kB1 ?_ ?_ | refine kB2 ?_ ?_) <;> intro hp | (first | refine kD1 ?_ ?_ | refine kD2 ?_ ?_ | refine kS1 ?_ ?_ | refine kS2 ?_ ?_) <;> intro hp <;> try simp only [hp] | simp -implicitDefEqProofs (disch := omega) only [go_sem, Nat.reduceAdd, Nat.reduceSub, reduceCtorEq, Nat.reduceLT, Nat.reduceLeDiff, Nat.reduceEqDiff, Nat.reduceMul, Int.reduceToNat, ↓reduceIte, List.take_of_length_le, if_pos, if_neg, List.getElem?_set_self, List.set_set, cnE, cnV, Try.ntmps27, Try.results27,  hv, q1, hc, q2])
      try rfl
    | true =>
      rw [e2] at q2
      have hln := allF_len hall
      repeat' (first | with_reducible first | refine kI (by kernel_rfl) ?_ | refine kN (by kernel_rfl) ?_ | (first | refine kB1 ?_ ?_ | refine kB2 ?_ ?_) <;> intro hp | (first | refine kD1 ?_ ?_ | refine kD2 ?_ ?_ | refine kS1 ?_ ?_ | refine kS2 ?_ ?_) <;> intro hp <;> try simp only [hp] | simp -implicitDefEqProofs (disch := omega) only [go_sem, Nat.reduceAdd, Nat.reduceSub, reduceCtorEq, Nat.reduceLT, Nat.reduceLeDiff, Nat.reduceEqDiff, Nat.reduceMul, Int.reduceToNat, ↓reduceIte, List.take_of_length_le, if_pos, if_neg, List.getElem?_set_self, List.set_set, cnE, cnV, Try.ntmps27, Try.results27,  hv, q1, hc, q2])
      refine LoopQ.mixG 1 (fun t0 L0 nn ss => ∃ (k : Nat) (c : Nat) (q : List Int) (_ : Unit), (∃ x : Nat → AV, ss = ⟨mixL 0 (.k :: .k :: .k :: .k :: .s :: .v (.sl 0 c 0 c c) :: .k :: .s :: .s :: .s :: .k :: .k :: .k :: .k :: .k :: .k :: .k :: .k :: .k :: .k :: .k :: .v (i64 (k : Nat)) :: .s :: .s :: .s :: .s :: .s :: .s :: .s :: .s :: .k :: .k :: .k :: .k :: .s :: .s :: .s :: .s :: .s :: .s :: .s :: .s :: .s :: .k :: .k :: .k :: .k :: []) t0 x, [⟨1, q.map fun n => .int .i64 n⟩]⟩) ∧ (k ≤ l.length) ∧ (q.length = c ∧ c ≤ 60 * k) ∧ (q = allF (l.take k)) ∧ nn = l.length - k) (by simp) ?_ ?_
      · exact ⟨_, ⟨0, 0, [], (), mixI rfl, Nat.zero_le _, ⟨rfl, Nat.zero_le _⟩, rfl, rfl⟩⟩
      · rintro I0 hI0 nn s ⟨k, c, q, _, ⟨x, rfl⟩, g1, ⟨g2, g2'⟩, g3, rfl⟩
        by_cases hlt : k < l.length
        · have hki : (k : Int) < (l.length : Int) := by omega
          have hm : l.getD k ⟨0, [], []⟩ ∈ l := by simp [hlt]
          have q3 := gOffsets_eq (vOK (hall _ hm))
          have h6 := offF_60 (vOK (hall _ hm)).1
          have hs1 := allF_s hlt
          rw [← g3] at hs1
          generalize offF (l.getD k ⟨0, [], []⟩) = B at *
          repeat' (first | with_reducible first | refine kI (by kernel_rfl) ?_ | refine kN (by kernel_rfl) ?_ | (first | refine kB1 ?_ ?_ | refine kB2 ?_ ?_) <;> intro hp | (first | refine kD1 ?_ ?_ | refine kD2 ?_ ?_ | refine kS1 ?_ ?_ | refine kS2 ?_ ?_) <;> intro hp <;> try simp only [hp] | simp -implicitDefEqProofs (disch := omega) only [go_sem, Nat.reduceAdd, Nat.reduceSub, reduceCtorEq, Nat.reduceLT, Nat.reduceLeDiff, Nat.reduceEqDiff, Nat.reduceMul, Int.reduceToNat, ↓reduceIte, List.take_of_length_le, if_pos, if_neg, List.getElem?_set_self, List.set_set, cnE, cnV, Try.ntmps27, Try.results27,  hki, ho, q3])
          exact ⟨l.length - (k + 1), by omega, hI0 _ _ ⟨k + 1, c + B.length, q ++ B, (), mixI rfl, hlt, ⟨by simp [g2], by omega⟩, hs1.symm, rfl⟩⟩
        · obtain rfl : k = l.length := by omega
          rw [List.take_length] at g3
          rw [← g3, perm_srt]
          have hms : (msr q).length = c := by rw [List.length_mergeSort]; exact g2
          obtain ⟨M, hM⟩ : ∃ M, msr q = M := ⟨_, rfl⟩
          rw [hM] at hms ⊢
          rw [g2]
          repeat' (first | with_reducible first | refine kI (by kernel_rfl) ?_ | (first | refine kB1 ?_ ?_ | refine kB2 ?_ ?_) <;> intro hp | (first | refine kD1 ?_ ?_ | refine kD2 ?_ ?_ | refine kS1 ?_ ?_ | refine kS2 ?_ ?_) <;> intro hp <;> try simp only [hp] | simp -implicitDefEqProofs (disch := omega) only [go_sem, Nat.reduceAdd, Nat.reduceSub, reduceCtorEq, Nat.reduceLT, Nat.reduceLeDiff, Nat.reduceEqDiff, Nat.reduceMul, Int.reduceToNat, ↓reduceIte, List.take_of_length_le, if_pos, if_neg, List.getElem?_set_self, List.set_set, cnE, cnV, Try.ntmps27, Try.results27,  hs, opQ_none])
          refine InlK_intro rfl rfl can_sort ((isp_sort (q := q) rfl g2 (by omega)).mono ?_)
          rintro r L' ⟨rfl, rfl⟩
          rw [show (q.mergeSort fun x y => decide (x ≤ y)) = M from hM]
          repeat' (first | with_reducible first | refine kI (by kernel_rfl) ?_ | (first | refine kB1 ?_ ?_ | refine kB2 ?_ ?_) <;> intro hp | (first | refine kD1 ?_ ?_ | refine kD2 ?_ ?_ | refine kS1 ?_ ?_ | refine kS2 ?_ ?_) <;> intro hp <;> try simp only [hp] | simp -implicitDefEqProofs (disch := omega) only [go_sem, Nat.reduceAdd, Nat.reduceSub, reduceCtorEq, Nat.reduceLT, Nat.reduceLeDiff, Nat.reduceEqDiff, Nat.reduceMul, Int.reduceToNat, ↓reduceIte, List.take_of_length_le, if_pos, if_neg, List.getElem?_set_self, List.set_set, cnE, cnV, Try.ntmps27, Try.results27])
          refine LoopQ.mix (fun t0 L0 nn ss => ∃ (k : Nat) (_ : Unit), (∃ x : Nat → AV, ss = ⟨mixL 0 (.k :: .k :: .k :: .k :: .s :: .k :: .k :: .k :: .s :: .s :: .k :: .k :: .k :: .k :: .k :: .k :: .k :: .k :: .k :: .k :: .k :: .k :: .k :: .k :: .k :: .k :: .k :: .k :: .k :: .k :: .k :: .k :: .k :: .k :: .v (i64 (k : Nat)) :: .s :: .s :: .s :: .s :: .s :: .s :: .s :: .s :: .k :: .k :: .k :: .k :: []) t0 x, L0⟩) ∧ (k ≤ c) ∧ (∀ i, i < k → M.getD i 0 = (i : Int)) ∧ nn = c - k) ?_ ?_
          · exact ⟨_, ⟨0, (), mixI rfl, Nat.zero_le _, fun i hi => absurd hi (Nat.not_lt_zero _), rfl⟩⟩
          · rintro I1 hI1 nn s1 ⟨k, _, ⟨y, rfl⟩, m1, m2, rfl⟩
            by_cases hk : k < c
            · have hki : (k : Int) < (c : Int) := by omega
              have hkM : k < M.length := by omega
              by_cases he : M.getD k 0 = (k : Int)
              · repeat' (first | with_reducible first | refine kI (by kernel_rfl) ?_ | refine kN (by kernel_rfl) ?_ | (first | refine kB1 ?_ ?_ | refine kB2 ?_ ?_) <;> intro hp | (first | refine kD1 ?_ ?_ | refine kD2 ?_ ?_ | refine kS1 ?_ ?_ | refine kS2 ?_ ?_) <;> intro hp <;> try simp only [hp] | simp -implicitDefEqProofs (disch := omega) only [go_sem, Nat.reduceAdd, Nat.reduceSub, reduceCtorEq, Nat.reduceLT, Nat.reduceLeDiff, Nat.reduceEqDiff, Nat.reduceMul, Int.reduceToNat, ↓reduceIte, List.take_of_length_le, if_pos, if_neg, List.getElem?_set_self, List.set_set, cnE, cnV, Try.ntmps27, Try.results27,  hki, getD_ints hkM, he])
                exact ⟨c - (k + 1), by omega, hI1 _ _ ⟨k + 1, (), mixI rfl, hk, fun i hi => if h : i = k then by subst h; exact he else m2 i (by omega), rfl⟩⟩
              · have hf : decide (M = upV c) = false := decide_eq_false fun h => he (by rw [h, upV_at hk])
                repeat' (first | with_reducible first | refine kI (by kernel_rfl) ?_ | refine kN (by kernel_rfl) ?_ | (first | refine kB1 ?_ ?_ | refine kB2 ?_ ?_) <;> intro hp | (first | refine kD1 ?_ ?_ | refine kD2 ?_ ?_ | refine kS1 ?_ ?_ | refine kS2 ?_ ?_) <;> intro hp <;> try simp only [hp] | simp -implicitDefEqProofs (disch := omega) only [go_sem, Nat.reduceAdd, Nat.reduceSub, reduceCtorEq, Nat.reduceLT, Nat.reduceLeDiff, Nat.reduceEqDiff, Nat.reduceMul, Int.reduceToNat, ↓reduceIte, List.take_of_length_le, if_pos, if_neg, List.getElem?_set_self, List.set_set, cnE, cnV, Try.ntmps27, Try.results27,  hki, getD_ints hkM, he, hf])
                try rfl
            · obtain rfl : k = c := by omega
              have hf : decide (M = upV k) = true := decide_eq_true (ints_ext (by rw [upV_len]; exact hms) fun i hi => by rw [upV_at (by omega)]; exact m2 i (by omega))
              repeat' (first | with_reducible first | refine kI (by kernel_rfl) ?_ | refine kN (by kernel_rfl) ?_ | (first | refine kB1 ?_ ?_ | refine kB2 ?_ ?_) <;> intro hp | (first | refine kD1 ?_ ?_ | refine kD2 ?_ ?_ | refine kS1 ?_ ?_ | refine kS2 ?_ ?_) <;> intro hp <;> try simp only [hp] | simp -implicitDefEqProofs (disch := omega) only [go_sem, Nat.reduceAdd, Nat.reduceSub, reduceCtorEq, Nat.reduceLT, Nat.reduceLeDiff, Nat.reduceEqDiff, Nat.reduceMul, Int.reduceToNat, ↓reduceIte, List.take_of_length_le, if_pos, if_neg, List.getElem?_set_self, List.set_set, cnE, cnV, Try.ntmps27, Try.results27,  hf])
              try rfl
set_option maxHeartbeats 4000000 in
set_option maxRecDepth 100000 in
theorem spec_TilesOfS {Sg : FuncId → Option (List AV → Option AV)} (hS : Sound Try.prog Sg) (hv : Sg 78 = some (F1 gVs)) (hc : Sg 60 = some (F3 gInRange)) (ho : Sg 62 = some (F1 gOffsets)) (hd : Sg 72 = some (F1 gDifferent)) (ha : Sg 79 = some (F3 gAllIn)) : ∀ a r, F2 gTiles a = some r → CSpec Try.prog 28 a r := by
  refine F2_spec ?_
  intro l n r hr0
  obtain ⟨hl, rfl⟩ := gd_some hr0
  refine CSpec.intro Try.func28 rfl (own _) (vc3_sound Try.pf hS hS _ _ _ ?_)
  have hl1 := hl.1
  have q1 := gVs_eq hl
  have q2 := gInRange_eq n 0 60
  unfold tilesB
  cases e : vsOK l with
  | false =>
    rw [e] at q1
    repeat' (first | with_reducible first | refine kI (by kernel_rfl) ?_ | refine kN (by kernel_rfl) ?_ | (first | refine kB1 ?_ ?_ | refine kB2 ?_ ?_) <;> intro hp | (first | refine kD1 ?_ ?_ | refine kD2 ?_ ?_ | refine kS1 ?_ ?_ | refine kS2 ?_ ?_) <;> intro hp <;> try simp only [hp] | simp -implicitDefEqProofs (disch := omega) only [go_sem, Nat.reduceAdd, Nat.reduceSub, reduceCtorEq, Nat.reduceLT, Nat.reduceLeDiff, Nat.reduceEqDiff, Nat.reduceMul, Int.reduceToNat, ↓reduceIte, List.take_of_length_le, if_pos, if_neg, List.getElem?_set_self, List.set_set, cnE, cnV, Try.ntmps28, Try.results28,  hv, q1])
    try rfl
  | true =>
    rw [e] at q1
    obtain ⟨h8, hall⟩ := vsOK_all e
    cases e2 : inR n 0 60 with
    | false =>
      rw [e2] at q2
      repeat' (first | with_reducible first | refine kI (by kernel_rfl) ?_ | refine kN (by kernel_rfl) ?_ | (first | refine kB1 ?_ ?_ | refine kB2 ?_ ?_) <;> intro hp | (first | refine kD1 ?_ ?_ | refine kD2 ?_ ?_ | refine kS1 ?_ ?_ | refine kS2 ?_ ?_) <;> intro hp <;> try simp only [hp] | simp -implicitDefEqProofs (disch := omega) only [go_sem, Nat.reduceAdd, Nat.reduceSub, reduceCtorEq, Nat.reduceLT, Nat.reduceLeDiff, Nat.reduceEqDiff, Nat.reduceMul, Int.reduceToNat, ↓reduceIte, List.take_of_length_le, if_pos, if_neg, List.getElem?_set_self, List.set_set, cnE, cnV, Try.ntmps28, Try.results28,  hv, q1, hc, q2])
      try rfl
    | true =>
      rw [e2] at q2
      have hnb : 0 ≤ n ∧ n ≤ 60 := by unfold inR at e2; simpa using e2
      have hln := allF_len hall
      repeat' (first | with_reducible first | refine kI (by kernel_rfl) ?_ | refine kN (by kernel_rfl) ?_ | (first | refine kB1 ?_ ?_ | refine kB2 ?_ ?_) <;> intro hp | (first | refine kD1 ?_ ?_ | refine kD2 ?_ ?_ | refine kS1 ?_ ?_ | refine kS2 ?_ ?_) <;> intro hp <;> try simp only [hp] | simp -implicitDefEqProofs (disch := omega) only [go_sem, Nat.reduceAdd, Nat.reduceSub, reduceCtorEq, Nat.reduceLT, Nat.reduceLeDiff, Nat.reduceEqDiff, Nat.reduceMul, Int.reduceToNat, ↓reduceIte, List.take_of_length_le, if_pos, if_neg, List.getElem?_set_self, List.set_set, cnE, cnV, Try.ntmps28, Try.results28,  hv, q1, hc, q2])
      refine LoopQ.mix (fun t0 L0 nn ss => ∃ (k : Nat) (c : Nat) (q : List Int) (_ : Unit), (∃ x : Nat → AV, ss = ⟨mixL 0 (.k :: .k :: .k :: .k :: .k :: .v (.sl 0 c 0 c c) :: .v (i64 (k : Nat)) :: .k :: .k :: .k :: .k :: .k :: .k :: .k :: .k :: .k :: .s :: .s :: .s :: .s :: .s :: .s :: .s :: .s :: .s :: .s :: .s :: .s :: .s :: .k :: .k :: .k :: .k :: .k :: .k :: .k :: .k :: .k :: .k :: .k :: .k :: .k :: .k :: []) t0 x, [⟨1, q.map fun n => .int .i64 n⟩]⟩) ∧ (k ≤ l.length) ∧ (q.length = c ∧ c ≤ 60 * k) ∧ (q = allF (l.take k)) ∧ nn = l.length - k) ?_ ?_
      · exact ⟨_, ⟨0, 0, [], (), mixI rfl, Nat.zero_le _, ⟨rfl, Nat.zero_le _⟩, rfl, rfl⟩⟩
      · rintro I0 hI0 nn s ⟨k, c, q, _, ⟨x, rfl⟩, g1, ⟨g2, g2'⟩, g3, rfl⟩
        by_cases hlt : k < l.length
        · have hki : (k : Int) < (l.length : Int) := by omega
          have hm : l.getD k ⟨0, [], []⟩ ∈ l := by simp [hlt]
          have q3 := gOffsets_eq (vOK (hall _ hm))
          have h6 := offF_60 (vOK (hall _ hm)).1
          have hs1 := allF_s hlt
          rw [← g3] at hs1
          generalize offF (l.getD k ⟨0, [], []⟩) = B at *
          repeat' (first | with_reducible first | refine kI (by kernel_rfl) ?_ | refine kN (by kernel_rfl) ?_ | (first | refine kB1 ?_ ?_ | refine kB2 ?_ ?_) <;> intro hp | (first | refine kD1 ?_ ?_ | refine kD2 ?_ ?_ | refine kS1 ?_ ?_ | refine kS2 ?_ ?_) <;> intro hp <;> try simp only [hp] | simp -implicitDefEqProofs (disch := omega) only [go_sem, Nat.reduceAdd, Nat.reduceSub, reduceCtorEq, Nat.reduceLT, Nat.reduceLeDiff, Nat.reduceEqDiff, Nat.reduceMul, Int.reduceToNat, ↓reduceIte, List.take_of_length_le, if_pos, if_neg, List.getElem?_set_self, List.set_set, cnE, cnV, Try.ntmps28, Try.results28,  hki, ho, q3])
          exact ⟨l.length - (k + 1), by omega, hI0 _ _ ⟨k + 1, c + B.length, q ++ B, (), mixI rfl, hlt, ⟨by simp [g2], by omega⟩, hs1.symm, rfl⟩⟩
        · obtain rfl : k = l.length := by omega
          rw [List.take_length] at g3
          rw [← g3]
          unfold permB
          rw [g2]
          have hw : IntKind.i64.wrap (n - 1) = n - 1 := wrap_in (by omega)
          have p1 := gDifferent_eq (l := q) (by omega)
          have p2 := gAllIn_eq (l := q) (by omega) 0 (n - 1)
          cases e3 : diffF q with
          | false =>
            rw [e3] at p1
            repeat' (first | with_reducible first | refine kI (by kernel_rfl) ?_ | refine kN (by kernel_rfl) ?_ | (first | refine kB1 ?_ ?_ | refine kB2 ?_ ?_) <;> intro hp | (first | refine kD1 ?_ ?_ | refine kD2 ?_ ?_ | refine kS1 ?_ ?_ | refine kS2 ?_ ?_) <;> intro hp <;> try simp only [hp] | simp -implicitDefEqProofs (disch := omega) only [go_sem, Nat.reduceAdd, Nat.reduceSub, reduceCtorEq, Nat.reduceLT, Nat.reduceLeDiff, Nat.reduceEqDiff, Nat.reduceMul, Int.reduceToNat, ↓reduceIte, List.take_of_length_le, if_pos, if_neg, List.getElem?_set_self, List.set_set, cnE, cnV, Try.ntmps28, Try.results28,  hd, p1])
            try rfl
          | true =>
            rw [e3] at p1
            cases e4 : (q.all fun x => inR x 0 (n - 1)) with
            | false =>
              rw [e4] at p2
              repeat' (first | with_reducible first | refine kI (by kernel_rfl) ?_ | refine kN (by kernel_rfl) ?_ | (first | refine kB1 ?_ ?_ | refine kB2 ?_ ?_) <;> intro hp | (first | refine kD1 ?_ ?_ | refine kD2 ?_ ?_ | refine kS1 ?_ ?_ | refine kS2 ?_ ?_) <;> intro hp <;> try simp only [hp] | simp -implicitDefEqProofs (disch := omega) only [go_sem, Nat.reduceAdd, Nat.reduceSub, reduceCtorEq, Nat.reduceLT, Nat.reduceLeDiff, Nat.reduceEqDiff, Nat.reduceMul, Int.reduceToNat, ↓reduceIte, List.take_of_length_le, if_pos, if_neg, List.getElem?_set_self, List.set_set, cnE, cnV, Try.ntmps28, Try.results28,  hd, p1, hw, ha, p2])
              try rfl
            | true =>
              rw [e4] at p2
              repeat' (first | with_reducible first | refine kI (by kernel_rfl) ?_ | refine kN (by kernel_rfl) ?_ | (first | refine kB1 ?_ ?_ | refine kB2 ?_ ?_) <;> intro hp | (first | refine kD1 ?_ ?_ | refine kD2 ?_ ?_ | refine kS1 ?_ ?_ | refine kS2 ?_ ?_) <;> intro hp <;> try simp only [hp] | simp -implicitDefEqProofs (disch := omega) only [go_sem, Nat.reduceAdd, Nat.reduceSub, reduceCtorEq, Nat.reduceLT, Nat.reduceLeDiff, Nat.reduceEqDiff, Nat.reduceMul, Int.reduceToNat, ↓reduceIte, List.take_of_length_le, if_pos, if_neg, List.getElem?_set_self, List.set_set, cnE, cnV, Try.ntmps28, Try.results28,  hd, p1, hw, ha, p2])
              try rfl
/-- one holder -/
theorem hold_one {l : List Vi} {x : Int} (hn : (allF l).Nodup) (hx : x ∈ allF l) : (hldT l x l.length).length = 1 := by
  unfold allF at hn hx
  rw [List.nodup_iff_pairwise_ne, List.pairwise_flatten] at hn
  obtain ⟨-, hd⟩ := hn
  rw [List.pairwise_iff_getElem] at hd
  obtain ⟨B, hB, hxB⟩ := List.mem_flatten.1 hx
  obtain ⟨i, hi, rfl⟩ := List.mem_iff_getElem.1 hB
  rw [List.length_map] at hi
  rw [List.getElem_map] at hxB
  have hc : (hldT l x l.length).contains (i : Int) = true := by
    rw [hldT_mem hi, List.contains_iff_mem]
    simpa [hi] using hxB
  have hle := sub_len (B := hldT l x l.length) (A := [(i : Int)]) ((hldT_asc _ _ _).imp fun h => by omega) fun y hy => by
    unfold hldT at hy
    obtain ⟨j, hj, rfl⟩ := List.mem_map.1 hy
    obtain ⟨j1, j2⟩ := List.mem_filter.1 hj
    have j1 := List.mem_range.1 j1
    rw [List.contains_iff_mem] at j2
    have j2 : x ∈ offF l[j] := by simpa [j1] using j2
    rw [List.mem_singleton]
    rcases Nat.lt_trichotomy i j with h | h | h
    · exact absurd rfl (hd i j (by simpa using hi) (by simpa using j1) h x (by rw [List.getElem_map]; exact hxB) x (by rw [List.getElem_map]; exact j2))
    · omega
    · exact absurd rfl (hd j i (by simpa using j1) (by simpa using hi) h x (by rw [List.getElem_map]; exact j2) x (by rw [List.getElem_map]; exact hxB))
  have := List.length_pos_of_mem (List.contains_iff_mem.1 hc)
  simp only [List.length_cons, List.length_nil] at hle
  omega
theorem all_disj {l : List Vi} (hn : (allF l).Nodup) {i k : Nat} (hi : i < l.length) (hk : k < i) : ¬ 0 < (bothF (offF (l.getD i ⟨0, [], []⟩)) (offF (l.getD k ⟨0, [], []⟩))).length := by
  intro h
  unfold allF at hn
  rw [List.nodup_iff_pairwise_ne, List.pairwise_flatten] at hn
  obtain ⟨-, hd⟩ := hn
  rw [List.pairwise_iff_getElem] at hd
  obtain ⟨x, hx⟩ := List.exists_mem_of_length_pos h
  obtain ⟨-, h1, h2⟩ := mem_both.1 hx
  have hkl : k < l.length := by omega
  refine absurd rfl (hd k i (by simpa using hkl) (by simpa using hi) hk x ?_ x ?_)
  · rw [List.getElem_map]; simpa [hkl] using h2
  · rw [List.getElem_map]; simpa [hi] using h1
theorem all_one {l : List Vi} (hn : (allF l).Nodup) {v : Vi} (hv : v ∈ l) : diffF (offF v) = true := by
  unfold allF at hn
  rw [List.nodup_iff_pairwise_ne, List.pairwise_flatten] at hn
  exact diffF_nodup.2 (List.nodup_iff_pairwise_ne.2 (hn.1 _ (List.mem_map.2 ⟨v, hv, rfl⟩)))
theorem perm_facts {A : List Int} {n : Int} (h : permB A n = true) : A.Nodup ∧ (∀ x ∈ A, 0 ≤ x ∧ x < n) ∧ (A.length : Int) = n ∧ ∀ x : Int, 0 ≤ x → x < n → x ∈ A := by
  have h' := h
  rw [perm_srt] at h'
  unfold permB inR at h
  simp only [Bool.and_eq_true, decide_eq_true_eq, beq_iff_eq, List.all_eq_true] at h h'
  refine ⟨diffF_nodup.1 h.1, fun x hx => by have := h.2.1 x hx; omega, h.2.2, fun x h0 h1 => ?_⟩
  have : x ∈ msr A := by rw [h'.1, upV_mem]; omega
  exact List.mem_mergeSort.1 this
end Go.Proofs.Ytgpflkmelindfaa
