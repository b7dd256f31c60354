/- Contracts of functions that the laws of this seat call. -/
import Derived.Test.YtgepbcakcjdmoaaVm
set_option linter.all false
namespace Go.Proofs.Ytgepbcakcjdmoaa
open Go Go.Ev Go.RowKit Go.Ev.Enc Go.Pl

/-! ### cells of several indices -/
theorem plc_at {A : List Int} {x : Int} (h : x ∈ A) : ∃ j : Nat, plc A x = j ∧ j < A.length ∧ A.getD j 0 = x ∧ ∀ i, i < j → A.getD i 0 ≠ x := by
  have hl : A.findIdx (· == x) < A.length := List.findIdx_lt_length.2 ⟨x, h, by simp⟩
  refine ⟨A.findIdx (· == x), if_pos hl, hl, ?_, fun i hi he => ?_⟩
  · have := List.findIdx_getElem (w := hl)
    rw [List.getD_eq_getElem?_getD, List.getElem?_eq_getElem hl, Option.getD_some]
    simpa using this
  · have h1 := List.not_of_lt_findIdx hi
    rw [List.getD_eq_getElem?_getD, List.getElem?_eq_getElem (by omega), Option.getD_some] at he
    simp [he] at h1
theorem mem_dropI {A : List Int} {m : Nat} {x : Int} : x ∈ A.drop m ↔ ∃ i, m ≤ i ∧ i < A.length ∧ A.getD i 0 = x := by
  rw [List.mem_drop_iff_getElem]
  constructor
  · rintro ⟨i, hi, he⟩
    exact ⟨i + m, by omega, by omega, by rw [List.getD_eq_getElem?_getD, List.getElem?_eq_getElem (by omega), Option.getD_some, ← he]; congr 1; omega⟩
  · rintro ⟨i, h1, h2, he⟩
    refine ⟨i - m, by omega, ?_⟩
    rw [List.getD_eq_getElem?_getD, List.getElem?_eq_getElem h2, Option.getD_some] at he
    rw [← he]; congr 1; omega
theorem mem_takeI {A : List Int} {m : Nat} {x : Int} : x ∈ A.take m ↔ ∃ i, i < m ∧ i < A.length ∧ A.getD i 0 = x := by
  rw [List.mem_take_iff_getElem]
  constructor
  · rintro ⟨i, hi, he⟩
    exact ⟨i, by omega, by omega, by rw [List.getD_eq_getElem?_getD, List.getElem?_eq_getElem (by omega), Option.getD_some, ← he]⟩
  · rintro ⟨i, h1, h2, he⟩
    refine ⟨i, by omega, ?_⟩
    rw [List.getD_eq_getElem?_getD, List.getElem?_eq_getElem h2, Option.getD_some] at he
    exact he
def repC (A : List Int) (x : Int) : Bool := A.contains x && (A.drop ((plc A x).toNat + 1)).contains x
theorem repC_iff {A : List Int} {x : Int} : repC A x = true ↔ ∃ i, i < A.length ∧ A.getD i 0 = x ∧ x ∈ A.take i := by
  unfold repC
  simp only [Bool.and_eq_true, List.contains_iff_mem]
  constructor
  · rintro ⟨h1, h2⟩
    obtain ⟨j, e, hj, hx, hm⟩ := plc_at h1
    rw [e, Int.toNat_natCast] at h2
    obtain ⟨i, i1, i2, i3⟩ := mem_dropI.1 h2
    exact ⟨i, i2, i3, mem_takeI.2 ⟨j, by omega, by omega, hx⟩⟩
  · rintro ⟨i, h1, h2, h3⟩
    obtain ⟨k, k1, k2, k3⟩ := mem_takeI.1 h3
    have hA : x ∈ A := by rw [← h2]; exact gmem h1
    obtain ⟨j, e, hj, hx, hm⟩ := plc_at hA
    refine ⟨hA, ?_⟩
    rw [e, Int.toNat_natCast]
    have : ¬ k < j := fun hk => hm k hk k3
    exact mem_dropI.2 ⟨i, by omega, h1, h2⟩
def repT (A : List Int) (k : Nat) : List Int := (upV k).filter (repC A)
def repF (A : List Int) : List Int := repT A 60
theorem repT_y {A : List Int} {k : Nat} (h : repC A k = true) : repT A k ++ [(k : Int)] = repT A (k + 1) := by
  unfold repT
  rw [← upV_snoc, List.filter_append]
  simp [h]
theorem repT_n {A : List Int} {k : Nat} (h : repC A k = false) : repT A (k + 1) = repT A k := by
  unfold repT
  rw [← upV_snoc, List.filter_append]
  simp [h]
theorem rep_asc (A : List Int) : (repF A).Pairwise (· < ·) := (upV_asc 60).sublist List.filter_sublist
theorem mem_rep {A : List Int} {x : Int} : x ∈ repF A ↔ (0 ≤ x ∧ x < 60) ∧ repC A x = true := by
  unfold repF repT
  rw [List.mem_filter, upV_mem]; exact Iff.rfl
theorem rep_len (A : List Int) : (repF A).length ≤ 60 := by
  have := List.length_filter_le (repC A) (upV 60)
  rw [upV_len] at this
  exact this
def rpL (A : List Int) : Nat → List Int
  | 0 => []
  | k + 1 => if A.getD k 0 ∈ A.take k then rpL A k ++ [A.getD k 0] else rpL A k
theorem rpL_y {A : List Int} {k : Nat} (h : A.getD k 0 ∈ A.take k) : rpL A (k + 1) = rpL A k ++ [A.getD k 0] := if_pos h
theorem rpL_n {A : List Int} {k : Nat} (h : ¬ A.getD k 0 ∈ A.take k) : rpL A (k + 1) = rpL A k := if_neg h
theorem mem_rpL {A : List Int} {x : Int} : ∀ {k : Nat}, x ∈ rpL A k ↔ ∃ i, i < k ∧ A.getD i 0 = x ∧ x ∈ A.take i
  | 0 => by simp [rpL]
  | k + 1 => by
    by_cases h : A.getD k 0 ∈ A.take k
    · rw [rpL_y h, List.mem_append, mem_rpL]
      constructor
      · rintro (⟨i, h1, h2, h3⟩ | h1)
        · exact ⟨i, by omega, h2, h3⟩
        · simp at h1; subst h1; exact ⟨k, by omega, by simp, by simpa using h⟩
      · rintro ⟨i, h1, h2, h3⟩
        by_cases hik : i = k
        · subst hik; right; simp only [List.mem_singleton]; exact h2.symm
        · exact .inl ⟨i, by omega, h2, h3⟩
    · rw [rpL_n h, mem_rpL]
      constructor
      · rintro ⟨i, h1, h2, h3⟩
        exact ⟨i, by omega, h2, h3⟩
      · rintro ⟨i, h1, h2, h3⟩
        by_cases hik : i = k
        · subst hik; rw [h2] at h; exact absurd h3 h
        · exact ⟨i, by omega, h2, h3⟩
theorem rpL_len (A : List Int) : ∀ k, (rpL A k).length ≤ k
  | 0 => by simp [rpL]
  | k + 1 => by
    have := rpL_len A k
    unfold rpL
    split
    · simp; omega
    · omega
theorem srt_rpL {A : List Int} (h : inC A) : srt (rpL A A.length) = repF A :=
  srt_eq (rep_asc A) fun x => by
    rw [mem_rep, repC_iff, mem_rpL]
    constructor
    · rintro ⟨_, i, h1, h2, h3⟩; exact ⟨i, h1, h2, h3⟩
    · rintro ⟨i, h1, h2, h3⟩
      exact ⟨h x (by rw [← h2]; exact gmem h1), i, h1, h2, h3⟩
theorem rep_sub {A : List Int} {x : Int} (h : x ∈ repF A) : x ∈ A := by
  obtain ⟨i, h1, h2, _⟩ := repC_iff.1 (mem_rep.1 h).2
  rw [← h2]; exact gmem h1
theorem diff_rep {A : List Int} (h : inC A) : diffF A = decide ((repF A).length = 0) := by
  rw [Bool.eq_iff_iff, decide_eq_true_eq, List.length_eq_zero_iff]
  unfold diffF
  rw [decide_eq_true_eq]
  constructor
  · intro hd
    rw [List.eq_nil_iff_forall_not_mem]
    intro x hx
    obtain ⟨i, h1, h2, h3⟩ := repC_iff.1 (mem_rep.1 hx).2
    exact hd i h1 (by rw [h2]; exact h3)
  · intro he k hk hm
    have : A.getD k 0 ∈ repF A := mem_rep.2 ⟨h _ (gmem hk), repC_iff.2 ⟨k, hk, rfl, hm⟩⟩
    rw [he] at this
    simp at this
def gRep (v : Vi) : Option (List Int) := gd (viB v) (if viewOK v = true then repF (offF v) else [])
theorem gRep_eq {v : Vi} (h : viB v) : gRep v = some (if viewOK v = true then repF (offF v) else []) := gd_eq h
abbrev viB0 (v : Vi) : Blk := ⟨3, [.agg [i64 v.b, ints 0 v.sh, ints 0 v.st]]⟩
set_option maxHeartbeats 4000000 in
set_option maxRecDepth 100000 in
theorem spec_RepeatsOfS {Sg : FuncId → Option (List AV → Option AV)} (hS : Sound Try.prog Sg) (hv : Sg 65 = some (F1 gValidV)) (ho : Sg 67 = some (F1 gOffsets)) (hp : Sg 78 = some (F2 gPlaceIn)) : ∀ a r, F1 gRep a = some r → CSpec Try.prog 41 a r := by
  refine F1_spec ?_
  intro v r hr
  obtain ⟨h, rfl⟩ := gd_some hr
  refine CSpec.intro Try.func41 rfl (own _) (vc3_sound Try.pf hS hS _ _ _ ?_)
  have q1 := gValidV_eq (v := v) h
  cases e1 : viewOK v with
  | false =>
    rw [e1] at q1
    rw [if_neg (by simp)]
    repeat' (first | with_reducible first | refine kI (by kernel_rfl) ?_ | refine kN (by kernel_rfl) ?_ | (first | refine kB1 ?_ ?_ | refine kB2 ?_ ?_) <;> intro hp | (first | refine kD1 ?_ ?_ | refine kD2 ?_ ?_ | refine kS1 ?_ ?_ | refine kS2 ?_ ?_) <;> intro hp <;> try simp only [hp] | simp -implicitDefEqProofs (disch := omega) only [go_sem, Nat.reduceAdd, Nat.reduceSub, reduceCtorEq, Nat.reduceLT, Nat.reduceLeDiff, Nat.reduceEqDiff, Nat.reduceMul, Int.reduceToNat, ↓reduceIte, List.take_of_length_le, if_pos, if_neg, List.getElem?_set_self, List.set_set, cnE, cnV, Try.ntmps41, Try.results41,  hv, q1])
  | true =>
    rw [e1] at q1
    rw [if_pos rfl]
    obtain ⟨k1, k2, _⟩ := viewOK_iff.1 e1
    have hA := offF_60 k1
    have q2 := gOffsets_eq (v := v) ⟨k1, k2⟩
    have hv0 : viB0 v = viB0 v := rfl
    repeat' (first | with_reducible first | refine kI (by kernel_rfl) ?_ | refine kN (by kernel_rfl) ?_ | (first | refine kB1 ?_ ?_ | refine kB2 ?_ ?_) <;> intro hp | (first | refine kD1 ?_ ?_ | refine kD2 ?_ ?_ | refine kS1 ?_ ?_ | refine kS2 ?_ ?_) <;> intro hp <;> try simp only [hp] | simp -implicitDefEqProofs (disch := omega) only [go_sem, Nat.reduceAdd, Nat.reduceSub, reduceCtorEq, Nat.reduceLT, Nat.reduceLeDiff, Nat.reduceEqDiff, Nat.reduceMul, Int.reduceToNat, ↓reduceIte, List.take_of_length_le, if_pos, if_neg, List.getElem?_set_self, List.set_set, cnE, cnV, Try.ntmps41, Try.results41,  hv, q1, ho, q2])
    generalize offF v = A at *
    refine LoopQ.mix (fun t0 L0 nn ss => ∃ (k : Nat) (q : List Int) (c : Nat) (_ : Unit), (∃ x : Nat → AV, ss = ⟨mixL 0 (.k :: .k :: .k :: .v (.sl 1 c 0 c c) :: .k :: .v (i64 (k : Nat)) :: .s :: .k :: .k :: .k :: .k :: .k :: .k :: .s :: .s :: .s :: .s :: .s :: .s :: .s :: .s :: .s :: .s :: .s :: .s :: .s :: .s :: .s :: .s :: .s :: .s :: .s :: .s :: .s :: .s :: .k :: []) t0 x, [viB0 v, ⟨1, q.map fun n => .int .i64 n⟩]⟩) ∧ (k ≤ 60) ∧ (q.length = c ∧ c ≤ k) ∧ (q = repT A k) ∧ nn = 60 - k) ?_ ?_
    · exact ⟨_, ⟨0, [], 0, (), mixI rfl, Nat.zero_le _, ⟨rfl, Nat.zero_le _⟩, rfl, rfl⟩⟩
    · rintro I0 hI0 nn s ⟨k, q, c, _, ⟨x, rfl⟩, g1, ⟨g2, g2'⟩, g3, rfl⟩
      have p1 := gPlaceIn_eq (l := A) (by omega) (k : Int)
      by_cases hk : k < 60
      · have hki : (k : Int) < 60 := by omega
        by_cases ha : (k : Int) ∈ A
        · obtain ⟨j, e, hj, hx, hm⟩ := plc_at ha
          rw [e] at p1
          have p2 := gPlaceIn_eq (l := A.drop (j + 1)) (by rw [List.length_drop]; omega) (k : Int)
          have p3 := plc_nonneg (l := A.drop (j + 1)) (n := (k : Int))
          have ht : ((j : Int) + 1).toNat = j + 1 := by omega
          have hc : repC A k = (A.drop (j + 1)).contains (k : Int) := by unfold repC; rw [List.contains_iff_mem.2 ha, e]; rfl
          by_cases hb : (k : Int) ∈ A.drop (j + 1)
          · have hs := repT_y (A := A) (k := k) (by rw [hc]; exact List.contains_iff_mem.2 hb)
            rw [← g3] at hs
            repeat' (first | with_reducible first | refine kI (by kernel_rfl) ?_ | refine kN (by kernel_rfl) ?_ | (first | refine kB1 ?_ ?_ | refine kB2 ?_ ?_) <;> intro hp | (first | refine kD1 ?_ ?_ | refine kD2 ?_ ?_ | refine kS1 ?_ ?_ | refine kS2 ?_ ?_) <;> intro hp <;> try simp only [hp] | simp -implicitDefEqProofs (disch := omega) only [go_sem, Nat.reduceAdd, Nat.reduceSub, reduceCtorEq, Nat.reduceLT, Nat.reduceLeDiff, Nat.reduceEqDiff, Nat.reduceMul, Int.reduceToNat, ↓reduceIte, List.take_of_length_le, if_pos, if_neg, List.getElem?_set_self, List.set_set, cnE, cnV, Try.ntmps41, Try.results41,  hki, hp, p1, ht, p2, p3, hb])
            exact ⟨60 - (k + 1), by omega, hI0 _ _ ⟨k + 1, q ++ [(k : Int)], c + 1, (), mixI rfl, by omega, ⟨by simp [g2], by omega⟩, hs, rfl⟩⟩
          · have hs := repT_n (A := A) (k := k) (by rw [hc, ← Bool.not_eq_true, List.contains_iff_mem]; exact hb)
            rw [← g3] at hs
            repeat' (first | with_reducible first | refine kI (by kernel_rfl) ?_ | refine kN (by kernel_rfl) ?_ | (first | refine kB1 ?_ ?_ | refine kB2 ?_ ?_) <;> intro hp | (first | refine kD1 ?_ ?_ | refine kD2 ?_ ?_ | refine kS1 ?_ ?_ | refine kS2 ?_ ?_) <;> intro hp <;> try simp only [hp] | simp -implicitDefEqProofs (disch := omega) only [go_sem, Nat.reduceAdd, Nat.reduceSub, reduceCtorEq, Nat.reduceLT, Nat.reduceLeDiff, Nat.reduceEqDiff, Nat.reduceMul, Int.reduceToNat, ↓reduceIte, List.take_of_length_le, if_pos, if_neg, List.getElem?_set_self, List.set_set, cnE, cnV, Try.ntmps41, Try.results41,  hki, hp, p1, ht, p2, p3, hb])
            exact ⟨60 - (k + 1), by omega, hI0 _ _ ⟨k + 1, q, c, (), mixI rfl, by omega, ⟨g2, by omega⟩, hs.symm, rfl⟩⟩
        · have hs := repT_n (A := A) (k := k) (by unfold repC; rw [← Bool.not_eq_true, Bool.and_eq_true, List.contains_iff_mem]; exact fun h => ha h.1)
          rw [← g3] at hs
          have p3 := plc_nonneg (l := A) (n := (k : Int))
          repeat' (first | with_reducible first | refine kI (by kernel_rfl) ?_ | refine kN (by kernel_rfl) ?_ | (first | refine kB1 ?_ ?_ | refine kB2 ?_ ?_) <;> intro hp | (first | refine kD1 ?_ ?_ | refine kD2 ?_ ?_ | refine kS1 ?_ ?_ | refine kS2 ?_ ?_) <;> intro hp <;> try simp only [hp] | simp -implicitDefEqProofs (disch := omega) only [go_sem, Nat.reduceAdd, Nat.reduceSub, reduceCtorEq, Nat.reduceLT, Nat.reduceLeDiff, Nat.reduceEqDiff, Nat.reduceMul, Int.reduceToNat, ↓reduceIte, List.take_of_length_le, if_pos, if_neg, List.getElem?_set_self, List.set_set, cnE, cnV, Try.ntmps41, Try.results41,  hki, hp, p1, p3, ha])
          exact ⟨60 - (k + 1), by omega, hI0 _ _ ⟨k + 1, q, c, (), mixI rfl, by omega, ⟨g2, by omega⟩, hs.symm, rfl⟩⟩
      · obtain rfl : k = 60 := by omega
        repeat' (first | with_reducible first | refine kI (by kernel_rfl) ?_ | refine kN (by kernel_rfl) ?_ | (first | refine kB1 ?_ ?_ | refine kB2 ?_ ?_) <;> intro hp | (first | refine kD1 ?_ ?_ | refine kD2 ?_ ?_ | refine kS1 ?_ ?_ | refine kS2 ?_ ?_) <;> intro hp <;> try simp only [hp] | simp -implicitDefEqProofs (disch := omega) only [go_sem, Nat.reduceAdd, Nat.reduceSub, reduceCtorEq, Nat.reduceLT, Nat.reduceLeDiff, Nat.reduceEqDiff, Nat.reduceMul, Int.reduceToNat, ↓reduceIte, List.take_of_length_le, if_pos, if_neg, List.getElem?_set_self, List.set_set, cnE, cnV, Try.ntmps41, Try.results41])
        rw [g3]; rfl
set_option maxHeartbeats 4000000 in
set_option maxRecDepth 100000 in
theorem spec_RepeatsOfI {Sg : FuncId → Option (List AV → Option AV)} (hS : Sound Try.prog Sg) (hv : Sg 63 = some (F1 gValidV)) (ho : Sg 68 = some (F1 gOffsets)) (hc : Sg 69 = some (F2 gContains)) (hs : Sg 70 = none) (hp : Sg 71 = none) : ∀ a r, F1 gRep a = some r → CSpec Try.prog 19 a r := by
  refine F1_spec ?_
  intro v r hr
  obtain ⟨h, rfl⟩ := gd_some hr
  refine CSpec.intro Try.func19 rfl (own _) (vc3_sound Try.pf hS hS _ _ _ ?_)
  have q1 := gValidV_eq (v := v) h
  cases e1 : viewOK v with
  | false =>
    rw [e1] at q1
    rw [if_neg (by simp)]
    repeat' (first | with_reducible first | refine kI (by kernel_rfl) ?_ | refine kN (by kernel_rfl) ?_ | (first | refine kB1 ?_ ?_ | refine kB2 ?_ ?_) <;> intro hp | (first | refine kD1 ?_ ?_ | refine kD2 ?_ ?_ | refine kS1 ?_ ?_ | refine kS2 ?_ ?_) <;> intro hp <;> try simp only [hp] | simp -implicitDefEqProofs (disch := omega) only [go_sem, Nat.reduceAdd, Nat.reduceSub, reduceCtorEq, Nat.reduceLT, Nat.reduceLeDiff, Nat.reduceEqDiff, Nat.reduceMul, Int.reduceToNat, ↓reduceIte, List.take_of_length_le, if_pos, if_neg, List.getElem?_set_self, List.set_set, cnE, cnV, Try.ntmps19, Try.results19,  hv, q1])
  | true =>
    rw [e1] at q1
    rw [if_pos rfl]
    obtain ⟨k1, k2, _⟩ := viewOK_iff.1 e1
    have hA := offF_60 k1
    have hin := offF_in e1
    have q2 := gOffsets_eq (v := v) ⟨k1, k2⟩
    repeat' (first | with_reducible first | refine kI (by kernel_rfl) ?_ | refine kN (by kernel_rfl) ?_ | (first | refine kB1 ?_ ?_ | refine kB2 ?_ ?_) <;> intro hp | (first | refine kD1 ?_ ?_ | refine kD2 ?_ ?_ | refine kS1 ?_ ?_ | refine kS2 ?_ ?_) <;> intro hp <;> try simp only [hp] | simp -implicitDefEqProofs (disch := omega) only [go_sem, Nat.reduceAdd, Nat.reduceSub, reduceCtorEq, Nat.reduceLT, Nat.reduceLeDiff, Nat.reduceEqDiff, Nat.reduceMul, Int.reduceToNat, ↓reduceIte, List.take_of_length_le, if_pos, if_neg, List.getElem?_set_self, List.set_set, cnE, cnV, Try.ntmps19, Try.results19,  hv, q1, ho, q2])
    generalize offF v = A at *
    refine LoopQ.mix (fun t0 L0 nn ss => ∃ (k : Nat) (q : List Int) (c : Nat) (_ : Unit), (∃ x : Nat → AV, ss = ⟨mixL 0 (.k :: .k :: .k :: .k :: .v (.sl 1 c 0 c c) :: .s :: .s :: .k :: .k :: .k :: .k :: .k :: .k :: .k :: .k :: .v (i64 (k : Nat)) :: .s :: .s :: .s :: .s :: .s :: .s :: .s :: .s :: .s :: .s :: .s :: .s :: .s :: .s :: .k :: .k :: .k :: .k :: []) t0 x, [viB0 v, ⟨1, q.map fun n => .int .i64 n⟩]⟩) ∧ (k ≤ A.length) ∧ (q.length = c ∧ c ≤ k) ∧ (q = rpL A k) ∧ nn = A.length - k) ?_ ?_
    · exact ⟨_, ⟨0, [], 0, (), mixI rfl, Nat.zero_le _, ⟨rfl, Nat.zero_le _⟩, rfl, rfl⟩⟩
    · rintro I0 hI0 nn s ⟨k, q, c, _, ⟨x, rfl⟩, g1, ⟨g2, g2'⟩, g3, rfl⟩
      by_cases hk : k < A.length
      · have hki : (k : Int) < (A.length : Int) := by omega
        have p1 := gContains_eq (l := A.take k) (by rw [List.length_take]; omega) (A.getD k 0)
        by_cases hb : A.getD k 0 ∈ A.take k
        · rw [List.contains_iff_mem.2 hb] at p1
          have hs := rpL_y hb
          rw [← g3] at hs
          repeat' (first | with_reducible first | refine kI (by kernel_rfl) ?_ | refine kN (by kernel_rfl) ?_ | (first | refine kB1 ?_ ?_ | refine kB2 ?_ ?_) <;> intro hp | (first | refine kD1 ?_ ?_ | refine kD2 ?_ ?_ | refine kS1 ?_ ?_ | refine kS2 ?_ ?_) <;> intro hp <;> try simp only [hp] | simp -implicitDefEqProofs (disch := omega) only [go_sem, Nat.reduceAdd, Nat.reduceSub, reduceCtorEq, Nat.reduceLT, Nat.reduceLeDiff, Nat.reduceEqDiff, Nat.reduceMul, Int.reduceToNat, ↓reduceIte, List.take_of_length_le, if_pos, if_neg, List.getElem?_set_self, List.set_set, cnE, cnV, Try.ntmps19, Try.results19,  hki, hc, p1])
          exact ⟨A.length - (k + 1), by omega, hI0 _ _ ⟨k + 1, q ++ [A.getD k 0], c + 1, (), mixI rfl, by omega, ⟨by simp [g2], by omega⟩, hs.symm, rfl⟩⟩
        · rw [show (A.take k).contains (A.getD k 0) = false from by rw [← Bool.not_eq_true, List.contains_iff_mem]; exact hb] at p1
          have hs := rpL_n hb
          rw [← g3] at hs
          repeat' (first | with_reducible first | refine kI (by kernel_rfl) ?_ | refine kN (by kernel_rfl) ?_ | (first | refine kB1 ?_ ?_ | refine kB2 ?_ ?_) <;> intro hp | (first | refine kD1 ?_ ?_ | refine kD2 ?_ ?_ | refine kS1 ?_ ?_ | refine kS2 ?_ ?_) <;> intro hp <;> try simp only [hp] | simp -implicitDefEqProofs (disch := omega) only [go_sem, Nat.reduceAdd, Nat.reduceSub, reduceCtorEq, Nat.reduceLT, Nat.reduceLeDiff, Nat.reduceEqDiff, Nat.reduceMul, Int.reduceToNat, ↓reduceIte, List.take_of_length_le, if_pos, if_neg, List.getElem?_set_self, List.set_set, cnE, cnV, Try.ntmps19, Try.results19,  hki, hc, p1])
          exact ⟨A.length - (k + 1), by omega, hI0 _ _ ⟨k + 1, q, c, (), mixI rfl, by omega, ⟨g2, by omega⟩, hs.symm, rfl⟩⟩
      · obtain rfl : k = A.length := by omega
        repeat' (first | with_reducible first | refine kI (by kernel_rfl) ?_ | (first | refine kB1 ?_ ?_ | refine kB2 ?_ ?_) <;> intro hp | (first | refine kD1 ?_ ?_ | refine kD2 ?_ ?_ | refine kS1 ?_ ?_ | refine kS2 ?_ ?_) <;> intro hp <;> try simp only [hp] | simp -implicitDefEqProofs (disch := omega) only [go_sem, Nat.reduceAdd, Nat.reduceSub, reduceCtorEq, Nat.reduceLT, Nat.reduceLeDiff, Nat.reduceEqDiff, Nat.reduceMul, Int.reduceToNat, ↓reduceIte, List.take_of_length_le, if_pos, if_neg, List.getElem?_set_self, List.set_set, cnE, cnV, Try.ntmps19, Try.results19,  hs, opQ_none])
        refine InlK_intro rfl rfl can_sort ((isp_sort (q := q) rfl g2 (by omega)).mono ?_)
        rintro r L' ⟨rfl, rfl⟩
        repeat' (first | with_reducible first | refine kI (by kernel_rfl) ?_ | (first | refine kB1 ?_ ?_ | refine kB2 ?_ ?_) <;> intro hp | (first | refine kD1 ?_ ?_ | refine kD2 ?_ ?_ | refine kS1 ?_ ?_ | refine kS2 ?_ ?_) <;> intro hp <;> try simp only [hp] | simp -implicitDefEqProofs (disch := omega) only [go_sem, Nat.reduceAdd, Nat.reduceSub, reduceCtorEq, Nat.reduceLT, Nat.reduceLeDiff, Nat.reduceEqDiff, Nat.reduceMul, Int.reduceToNat, ↓reduceIte, List.take_of_length_le, if_pos, if_neg, List.getElem?_set_self, List.set_set, cnE, cnV, Try.ntmps19, Try.results19,  hp, opQ_none])
        refine InlK_intro rfl rfl can_compact ((isp_compact (q := q.mergeSort fun x y => decide (x ≤ y)) rfl (by rw [List.length_mergeSort]; exact g2) (by omega)).mono ?_)
        rintro r L' ⟨rfl, rfl⟩
        have hl := Lib.compact_length_le (q.mergeSort fun x y => decide (x ≤ y))
        rw [List.length_mergeSort] at hl
        repeat' (first | with_reducible first | refine kI (by kernel_rfl) ?_ | refine kN (by kernel_rfl) ?_ | (first | refine kB1 ?_ ?_ | refine kB2 ?_ ?_) <;> intro hp | (first | refine kD1 ?_ ?_ | refine kD2 ?_ ?_ | refine kS1 ?_ ?_ | refine kS2 ?_ ?_) <;> intro hp <;> try simp only [hp] | simp -implicitDefEqProofs (disch := omega) only [go_sem, Nat.reduceAdd, Nat.reduceSub, reduceCtorEq, Nat.reduceLT, Nat.reduceLeDiff, Nat.reduceEqDiff, Nat.reduceMul, Int.reduceToNat, ↓reduceIte, List.take_of_length_le, if_pos, if_neg, List.getElem?_set_self, List.set_set, cnE, cnV, Try.ntmps19, Try.results19,  List.length_mergeSort, List.take_left])
        rw [← srt_rpL hin, ← g3]; rfl
end Go.Proofs.Ytgepbcakcjdmoaa
