/- Contracts of functions that the laws of this seat call. -/
import Derived.Test.YtgpflkmelindfaaVw
set_option linter.all false
namespace Go.Proofs.Ytgpflkmelindfaa
open Go Go.Ev Go.RowKit Go.Ev.Enc Go.Pl

def latB (A B : List Int) (k : Nat) : Bool := (List.range k).any fun i => (B.drop (i + 1)).contains (A.getD i 0)
def earB (A B : List Int) (k : Nat) : Bool := (List.range k).any fun i => (B.take i).contains (A.getD i 0)
theorem latB_s (A B : List Int) (k : Nat) : latB A B (k + 1) = (latB A B k || (B.drop (k + 1)).contains (A.getD k 0)) := by
  unfold latB
  rw [List.range_succ, List.any_append]
  simp
theorem earB_s (A B : List Int) (k : Nat) : earB A B (k + 1) = (earB A B k || (B.take k).contains (A.getD k 0)) := by
  unfold earB
  rw [List.range_succ, List.any_append]
  simp
def viol (A B : List Int) (back : Bool) (i k : Nat) : Prop := A.getD i 0 = B.getD k 0 ∧ if back = true then k < i else i < k
instance (A B : List Int) (back : Bool) (i k : Nat) : Decidable (viol A B back i k) := by unfold viol; infer_instance
def cleanB (A B : List Int) (back : Bool) : Bool := decide (∀ i, i < A.length → ∀ k, k < A.length → ¬ viol A B back i k)
theorem memDI {B : List Int} {n : Nat} {x : Int} : x ∈ B.drop n ↔ ∃ k, n ≤ k ∧ k < B.length ∧ B.getD k 0 = x := by
  constructor
  · intro h
    obtain ⟨i, hi, rfl⟩ := List.mem_iff_getElem.1 h
    rw [List.length_drop] at hi
    exact ⟨n + i, by omega, by omega, by simp [show n + i < B.length by omega]⟩
  · rintro ⟨k, h1, h2, rfl⟩
    refine List.mem_iff_getElem.2 ⟨k - n, by rw [List.length_drop]; omega, ?_⟩
    rw [List.getElem_drop]
    simp [h2, show n + (k - n) = k by omega]
theorem memTI {B : List Int} {n : Nat} {x : Int} : x ∈ B.take n ↔ ∃ k, k < n ∧ k < B.length ∧ B.getD k 0 = x := by
  constructor
  · intro h
    obtain ⟨i, hi, rfl⟩ := List.mem_iff_getElem.1 h
    rw [List.length_take] at hi
    exact ⟨i, by omega, by omega, by simp [show i < B.length by omega]⟩
  · rintro ⟨k, h1, h2, rfl⟩
    refine List.mem_iff_getElem.2 ⟨k, by rw [List.length_take]; omega, ?_⟩
    rw [List.getElem_take]
    simp [h2]
theorem latB_iff {A B : List Int} {n : Nat} : latB A B n = true ↔ ∃ i, i < n ∧ ∃ k, i < k ∧ k < B.length ∧ B.getD k 0 = A.getD i 0 := by
  unfold latB
  rw [List.any_eq_true]
  constructor
  · rintro ⟨i, hi, h⟩
    obtain ⟨k, h1, h2, h3⟩ := memDI.1 (List.contains_iff_mem.1 h)
    exact ⟨i, List.mem_range.1 hi, k, by omega, h2, h3⟩
  · rintro ⟨i, hi, k, h1, h2, h3⟩
    exact ⟨i, List.mem_range.2 hi, List.contains_iff_mem.2 (memDI.2 ⟨k, by omega, h2, h3⟩)⟩
theorem earB_iff {A B : List Int} {n : Nat} : earB A B n = true ↔ ∃ i, i < n ∧ ∃ k, k < i ∧ k < B.length ∧ B.getD k 0 = A.getD i 0 := by
  unfold earB
  rw [List.any_eq_true]
  constructor
  · rintro ⟨i, hi, h⟩
    obtain ⟨k, h1, h2, h3⟩ := memTI.1 (List.contains_iff_mem.1 h)
    exact ⟨i, List.mem_range.1 hi, k, by omega, h2, h3⟩
  · rintro ⟨i, hi, k, h1, h2, h3⟩
    exact ⟨i, List.mem_range.2 hi, List.contains_iff_mem.2 (memTI.2 ⟨k, by omega, h2, h3⟩)⟩
theorem clean_f {A B : List Int} (h : A.length = B.length) : cleanB A B false = !latB A B A.length := by
  rw [Bool.eq_iff_iff, Bool.not_eq_true', ← Bool.not_eq_true, latB_iff]
  unfold cleanB viol
  rw [decide_eq_true_eq]
  constructor
  · rintro h1 ⟨i, hi, k, h2, h3, h4⟩
    exact h1 i hi k (by omega) ⟨h4.symm, by simpa using h2⟩
  · rintro h1 i hi k hk ⟨h2, h3⟩
    exact h1 ⟨i, hi, k, by simpa using h3, by omega, h2.symm⟩
theorem clean_t {A B : List Int} (h : A.length = B.length) : cleanB A B true = !earB A B A.length := by
  rw [Bool.eq_iff_iff, Bool.not_eq_true', ← Bool.not_eq_true, earB_iff]
  unfold cleanB viol
  rw [decide_eq_true_eq]
  constructor
  · rintro h1 ⟨i, hi, k, h2, h3, h4⟩
    exact h1 i hi k (by omega) ⟨h4.symm, by simpa using h2⟩
  · rintro h1 i hi k hk ⟨h2, h3⟩
    exact h1 ⟨i, hi, k, by simpa using h3, by omega, h2.symm⟩
/-- the way to copy -/
def wayL (A B : List Int) : Int := if latB A B A.length = false then 0 else if earB A B A.length = false ∧ diffF A = true then 1 else 2
def wayF (a b : Vi) : Int := if okk a b = true ∧ a.sh = b.sh then wayL (offF a) (offF b) else -1
theorem lat_none {A B : List Int} (hA : inC A) (h : ¬ 0 < (bothF A B).length) : latB A B A.length = false := by
  rw [← Bool.not_eq_true, latB_iff]
  rintro ⟨i, hi, k, h1, h2, h3⟩
  refine h (List.length_pos_of_mem (a := A.getD i 0) (mem_both.2 ⟨hA _ (gmem hi), gmem hi, ?_⟩))
  rw [← h3]
  exact gmem h2
theorem lat_self {A : List Int} (h : diffF A = true) : latB A A A.length = false := by
  rw [← Bool.not_eq_true, latB_iff]
  rintro ⟨i, hi, k, h1, h2, h3⟩
  have := (List.nodup_iff_pairwise_ne.1 (diffF_nodup.1 h))
  have := List.pairwise_iff_getElem.1 this i k hi h2 h1
  simp only [List.getD_eq_getElem?_getD, List.getElem?_eq_getElem hi, List.getElem?_eq_getElem h2, Option.getD_some] at h3
  exact this h3.symm
def gClean (A B : List Int) (back : Bool) : Option Bool := gd (A.length ≤ B.length ∧ B.length < 4294967296) (cleanB A B back)
theorem gClean_eq {A B : List Int} (h : A.length ≤ B.length ∧ B.length < 4294967296) (back : Bool) : gClean A B back = some (cleanB A B back) := gd_eq h
set_option maxHeartbeats 4000000 in
set_option maxRecDepth 100000 in
theorem spec_clean {Sg : FuncId → Option (List AV → Option AV)} (hS : Sound Try.prog Sg) : ∀ a r, F3 gClean a = some r → CSpec Try.prog 71 a r := by
  refine F3_spec ?_
  intro A B back r hr
  obtain ⟨⟨h1, h2⟩, rfl⟩ := gd_some hr
  refine CSpec.intro Try.func71 rfl (own _) (vc3_sound Try.pf hS hS _ _ _ ?_)
  repeat' (first | with_reducible first | refine kI (by kernel_rfl) ?_ | refine kN (by kernel_rfl) ?_ | (first | refine kB1 ?_ ?_ | refine kB2 ?_ ?_) <;> intro hp | (first | refine kD1 ?_ ?_ | refine kD2 ?_ ?_ | refine kS1 ?_ ?_ | refine kS2 ?_ ?_) <;> intro hp <;> try simp only [hp] | simp -implicitDefEqProofs (disch := omega) only [go_sem, Nat.reduceAdd, Nat.reduceSub, reduceCtorEq, Nat.reduceLT, Nat.reduceLeDiff, Nat.reduceEqDiff, Nat.reduceMul, Int.reduceToNat, ↓reduceIte, List.take_of_length_le, if_pos, if_neg, List.getElem?_set_self, List.set_set, cnE, cnV, Try.ntmps71, Try.results71])
  refine LoopQ.mix (fun t0 L0 nn ss => ∃ (i : Nat) (_ : Unit), (∃ x : Nat → AV, ss = ⟨mixL 0 (.k :: .k :: .k :: .k :: .k :: .k :: .s :: .v (i64 (i : Nat)) :: .s :: .s :: .s :: .s :: .s :: .s :: .s :: .s :: .s :: .s :: .s :: .s :: .s :: .s :: .s :: .s :: .s :: .s :: .s :: .s :: .s :: .s :: .s :: .s :: .s :: .s :: .s :: .s :: .s :: .s :: .s :: .s :: .s :: .s :: .s :: .s :: .s :: .s :: .s :: []) t0 x, L0⟩) ∧ (i ≤ A.length) ∧ (∀ j, j < i → ∀ k, k < A.length → ¬ viol A B back j k) ∧ nn = A.length - i) ?_ ?_
  · exact ⟨_, ⟨0, (), mixI rfl, Nat.zero_le _, fun i hi => absurd hi (Nat.not_lt_zero _), rfl⟩⟩
  · rintro I0 hI0 nn s ⟨i, _, ⟨x, rfl⟩, g1, g2, rfl⟩
    by_cases hlt : i < A.length
    · have hlti : (i : Int) < (A.length : Int) := by omega
      repeat' (first | with_reducible first | refine kI (by kernel_rfl) ?_ | refine kN (by kernel_rfl) ?_ | (first | refine kB1 ?_ ?_ | refine kB2 ?_ ?_) <;> intro hp | (first | refine kD1 ?_ ?_ | refine kD2 ?_ ?_ | refine kS1 ?_ ?_ | refine kS2 ?_ ?_) <;> intro hp <;> try simp only [hp] | simp -implicitDefEqProofs (disch := omega) only [go_sem, Nat.reduceAdd, Nat.reduceSub, reduceCtorEq, Nat.reduceLT, Nat.reduceLeDiff, Nat.reduceEqDiff, Nat.reduceMul, Int.reduceToNat, ↓reduceIte, List.take_of_length_le, if_pos, if_neg, List.getElem?_set_self, List.set_set, cnE, cnV, Try.ntmps71, Try.results71,  hlti])
      refine LoopQ.mix (fun t0 L0 nn ss => ∃ (k : Nat) (_ : Unit), (∃ x : Nat → AV, ss = ⟨mixL 0 (.k :: .k :: .k :: .k :: .k :: .k :: .s :: .k :: .v (i64 (k : Nat)) :: .k :: .k :: .k :: .k :: .k :: .k :: .s :: .s :: .s :: .s :: .s :: .s :: .s :: .s :: .s :: .s :: .s :: .s :: .s :: .s :: .s :: .s :: .s :: .s :: .s :: .s :: .s :: .s :: .s :: .s :: .s :: .s :: .s :: .s :: .s :: .s :: .s :: .s :: []) t0 x, L0⟩) ∧ (k ≤ A.length) ∧ (∀ j, j < k → ¬ viol A B back i j) ∧ nn = A.length - k) ?_ ?_
      · exact ⟨_, ⟨0, (), mixI rfl, Nat.zero_le _, fun i hi => absurd hi (Nat.not_lt_zero _), rfl⟩⟩
      · rintro I1 hI1 nn1 s1 ⟨k, _, ⟨x1, rfl⟩, m1, m2, rfl⟩
        by_cases hk : k < A.length
        · have hki : (k : Int) < (A.length : Int) := by omega
          have hkb : k < B.length := by omega
          have bad : viol A B back i k → cleanB A B back = false := fun hv => by
            unfold cleanB
            rw [decide_eq_false]
            exact fun h => h i hlt k hk hv
          have fin : ¬ viol A B back i k → ∀ j, j < k + 1 → ¬ viol A B back i j := fun hv j hj => if h : j = k then by subst h; exact hv else m2 j (by omega)
          by_cases he : A.getD i 0 = B.getD k 0
          · by_cases c1 : i < k
            · have c1' : (i : Int) < (k : Int) := by omega
              have c2' : ¬ (k : Int) < (i : Int) := by omega
              cases back with
              | false =>
                have hb := bad ⟨he, by simpa using c1⟩
                repeat' (first | with_reducible first | refine kI (by kernel_rfl) ?_ | refine kN (by kernel_rfl) ?_ | (first | refine kB1 ?_ ?_ | refine kB2 ?_ ?_) <;> intro hp | (first | refine kD1 ?_ ?_ | refine kD2 ?_ ?_ | refine kS1 ?_ ?_ | refine kS2 ?_ ?_) <;> intro hp <;> try simp only [hp] | simp -implicitDefEqProofs (disch := omega) only [go_sem, Nat.reduceAdd, Nat.reduceSub, reduceCtorEq, Nat.reduceLT, Nat.reduceLeDiff, Nat.reduceEqDiff, Nat.reduceMul, Int.reduceToNat, ↓reduceIte, List.take_of_length_le, if_pos, if_neg, List.getElem?_set_self, List.set_set, cnE, cnV, Try.ntmps71, Try.results71,  hki, getD_ints hlt, getD_ints hkb, he, c1', c2', hb])
              | true =>
                have hb := fin (fun h => by have := h.2; simp at this; omega)
                repeat' (first | with_reducible first | refine kI (by kernel_rfl) ?_ | refine kN (by kernel_rfl) ?_ | (first | refine kB1 ?_ ?_ | refine kB2 ?_ ?_) <;> intro hp | (first | refine kD1 ?_ ?_ | refine kD2 ?_ ?_ | refine kS1 ?_ ?_ | refine kS2 ?_ ?_) <;> intro hp <;> try simp only [hp] | simp -implicitDefEqProofs (disch := omega) only [go_sem, Nat.reduceAdd, Nat.reduceSub, reduceCtorEq, Nat.reduceLT, Nat.reduceLeDiff, Nat.reduceEqDiff, Nat.reduceMul, Int.reduceToNat, ↓reduceIte, List.take_of_length_le, if_pos, if_neg, List.getElem?_set_self, List.set_set, cnE, cnV, Try.ntmps71, Try.results71,  hki, getD_ints hlt, getD_ints hkb, he, c1', c2'])
                exact ⟨A.length - (k + 1), by omega, hI1 _ _ ⟨k + 1, (), mixI rfl, hk, hb, rfl⟩⟩
            · have c1' : ¬ (i : Int) < (k : Int) := by omega
              by_cases c2 : k < i
              · have c2' : (k : Int) < (i : Int) := by omega
                cases back with
                | true =>
                  have hb := bad ⟨he, by simpa using c2⟩
                  repeat' (first | with_reducible first | refine kI (by kernel_rfl) ?_ | refine kN (by kernel_rfl) ?_ | (first | refine kB1 ?_ ?_ | refine kB2 ?_ ?_) <;> intro hp | (first | refine kD1 ?_ ?_ | refine kD2 ?_ ?_ | refine kS1 ?_ ?_ | refine kS2 ?_ ?_) <;> intro hp <;> try simp only [hp] | simp -implicitDefEqProofs (disch := omega) only [go_sem, Nat.reduceAdd, Nat.reduceSub, reduceCtorEq, Nat.reduceLT, Nat.reduceLeDiff, Nat.reduceEqDiff, Nat.reduceMul, Int.reduceToNat, ↓reduceIte, List.take_of_length_le, if_pos, if_neg, List.getElem?_set_self, List.set_set, cnE, cnV, Try.ntmps71, Try.results71,  hki, getD_ints hlt, getD_ints hkb, he, c1', c2', hb])
                | false =>
                  have hb := fin (fun h => by have := h.2; simp at this; omega)
                  repeat' (first | with_reducible first | refine kI (by kernel_rfl) ?_ | refine kN (by kernel_rfl) ?_ | (first | refine kB1 ?_ ?_ | refine kB2 ?_ ?_) <;> intro hp | (first | refine kD1 ?_ ?_ | refine kD2 ?_ ?_ | refine kS1 ?_ ?_ | refine kS2 ?_ ?_) <;> intro hp <;> try simp only [hp] | simp -implicitDefEqProofs (disch := omega) only [go_sem, Nat.reduceAdd, Nat.reduceSub, reduceCtorEq, Nat.reduceLT, Nat.reduceLeDiff, Nat.reduceEqDiff, Nat.reduceMul, Int.reduceToNat, ↓reduceIte, List.take_of_length_le, if_pos, if_neg, List.getElem?_set_self, List.set_set, cnE, cnV, Try.ntmps71, Try.results71,  hki, getD_ints hlt, getD_ints hkb, he, c1', c2'])
                  exact ⟨A.length - (k + 1), by omega, hI1 _ _ ⟨k + 1, (), mixI rfl, hk, hb, rfl⟩⟩
              · have c2' : ¬ (k : Int) < (i : Int) := by omega
                have hb := fin (fun h => by have := h.2; split at this <;> omega)
                repeat' (first | with_reducible first | refine kI (by kernel_rfl) ?_ | refine kN (by kernel_rfl) ?_ | (first | refine kB1 ?_ ?_ | refine kB2 ?_ ?_) <;> intro hp | (first | refine kD1 ?_ ?_ | refine kD2 ?_ ?_ | refine kS1 ?_ ?_ | refine kS2 ?_ ?_) <;> intro hp <;> try simp only [hp] | simp -implicitDefEqProofs (disch := omega) only [go_sem, Nat.reduceAdd, Nat.reduceSub, reduceCtorEq, Nat.reduceLT, Nat.reduceLeDiff, Nat.reduceEqDiff, Nat.reduceMul, Int.reduceToNat, ↓reduceIte, List.take_of_length_le, if_pos, if_neg, List.getElem?_set_self, List.set_set, cnE, cnV, Try.ntmps71, Try.results71,  hki, getD_ints hlt, getD_ints hkb, he, c1', c2'])
                exact ⟨A.length - (k + 1), by omega, hI1 _ _ ⟨k + 1, (), mixI rfl, hk, hb, rfl⟩⟩
          · have hb := fin (fun h => he h.1)
            repeat' (first | with_reducible first | refine kI (by kernel_rfl) ?_ | refine kN (by kernel_rfl) ?_ | (first | refine kB1 ?_ ?_ | refine kB2 ?_ ?_) <;> intro hp | (first | refine kD1 ?_ ?_ | refine kD2 ?_ ?_ | refine kS1 ?_ ?_ | refine kS2 ?_ ?_) <;> intro hp <;> try simp only [hp] | simp -implicitDefEqProofs (disch := omega) only [go_sem, Nat.reduceAdd, Nat.reduceSub, reduceCtorEq, Nat.reduceLT, Nat.reduceLeDiff, Nat.reduceEqDiff, Nat.reduceMul, Int.reduceToNat, ↓reduceIte, List.take_of_length_le, if_pos, if_neg, List.getElem?_set_self, List.set_set, cnE, cnV, Try.ntmps71, Try.results71,  hki, getD_ints hlt, getD_ints hkb, he])
            exact ⟨A.length - (k + 1), by omega, hI1 _ _ ⟨k + 1, (), mixI rfl, hk, hb, rfl⟩⟩
        · obtain rfl : k = A.length := by omega
          repeat' (first | with_reducible first | refine kI (by kernel_rfl) ?_ | refine kN (by kernel_rfl) ?_ | (first | refine kB1 ?_ ?_ | refine kB2 ?_ ?_) <;> intro hp | (first | refine kD1 ?_ ?_ | refine kD2 ?_ ?_ | refine kS1 ?_ ?_ | refine kS2 ?_ ?_) <;> intro hp <;> try simp only [hp] | simp -implicitDefEqProofs (disch := omega) only [go_sem, Nat.reduceAdd, Nat.reduceSub, reduceCtorEq, Nat.reduceLT, Nat.reduceLeDiff, Nat.reduceEqDiff, Nat.reduceMul, Int.reduceToNat, ↓reduceIte, List.take_of_length_le, if_pos, if_neg, List.getElem?_set_self, List.set_set, cnE, cnV, Try.ntmps71, Try.results71])
          exact ⟨A.length - (i + 1), by omega, hI0 _ _ ⟨i + 1, (), mixI rfl, hlt, fun j hj => if h : j = i then by subst h; exact m2 else g2 j (by omega), rfl⟩⟩
    · obtain rfl : i = A.length := by omega
      have hb : cleanB A B back = true := by unfold cleanB; rw [decide_eq_true g2]
      repeat' (first | with_reducible first | refine kI (by kernel_rfl) ?_ | refine kN (by kernel_rfl) ?_ | (first | refine kB1 ?_ ?_ | refine kB2 ?_ ?_) <;> intro hp | (first | refine kD1 ?_ ?_ | refine kD2 ?_ ?_ | refine kS1 ?_ ?_ | refine kS2 ?_ ?_) <;> intro hp <;> try simp only [hp] | simp -implicitDefEqProofs (disch := omega) only [go_sem, Nat.reduceAdd, Nat.reduceSub, reduceCtorEq, Nat.reduceLT, Nat.reduceLeDiff, Nat.reduceEqDiff, Nat.reduceMul, Int.reduceToNat, ↓reduceIte, List.take_of_length_le, if_pos, if_neg, List.getElem?_set_self, List.set_set, cnE, cnV, Try.ntmps71, Try.results71,  hb])
def gWay (a b : Vi) : Option Int := gd (viB2 a b) (wayF a b)
theorem gWay_eq {a b : Vi} (h : viB2 a b) : gWay a b = some (wayF a b) := gd_eq h
theorem way_no {a b : Vi} (h : ¬ (okk a b = true ∧ a.sh = b.sh)) : wayF a b = -1 := by unfold wayF; rw [if_neg h]
theorem way_yes {a b : Vi} (h1 : viewOK a = true) (h2 : viewOK b = true) (h3 : a.sh = b.sh) : wayF a b = wayL (offF a) (offF b) := by unfold wayF; rw [if_pos ⟨okk_iff.2 ⟨h1, h2⟩, h3⟩]
theorem wayL_0 {A B : List Int} (h : latB A B A.length = false) : wayL A B = 0 := by unfold wayL; rw [if_pos h]
theorem wayL_1 {A B : List Int} (h : latB A B A.length = true) (h1 : earB A B A.length = false) (h2 : diffF A = true) : wayL A B = 1 := by unfold wayL; rw [if_neg (by rw [h]; simp), if_pos ⟨h1, h2⟩]
theorem wayL_2 {A B : List Int} (h : latB A B A.length = true) (h1 : ¬ (earB A B A.length = false ∧ diffF A = true)) : wayL A B = 2 := by unfold wayL; rw [if_neg (by rw [h]; simp), if_neg h1]
set_option maxHeartbeats 4000000 in
set_option maxRecDepth 100000 in
theorem spec_WayOfI {Sg : FuncId → Option (List AV → Option AV)} (hS : Sound Try.prog Sg) (hv : Sg 51 = some (F1 gValidV)) (ho : Sg 53 = some (F1 gOffsets)) (he : Sg 52 = some (F2 gEqInts)) (hc : Sg 67 = some (F2 gContains)) (hd : Sg 68 = some (F1 gOneI)) : ∀ a r, F2 gWay a = some r → CSpec Try.prog 23 a r := by
  refine F2_spec ?_
  intro a b r hr0
  obtain ⟨⟨ha, hb⟩, rfl⟩ := gd_some hr0
  refine CSpec.intro Try.func23 rfl (own _) (vc3_sound Try.pf hS hS _ _ _ ?_)
  have q1 := gValidV_eq (v := a) ha
  have q2 := gValidV_eq (v := b) hb
  have q3 := gEqInts_eq (a := a.sh) (b := b.sh) ⟨ha.1, hb.1⟩
  cases e1 : viewOK a with
  | false =>
    rw [e1] at q1
    have hw := way_no (a := a) (b := b) (by rw [okk_iff]; rintro ⟨⟨h, _⟩, _⟩; rw [e1] at h; simp at h)
    repeat' (first | with_reducible first | refine kI (by kernel_rfl) ?_ | refine kN (by kernel_rfl) ?_ | (first | refine kB1 ?_ ?_ | refine kB2 ?_ ?_) <;> intro hp | (first | refine kD1 ?_ ?_ | refine kD2 ?_ ?_ | refine kS1 ?_ ?_ | refine kS2 ?_ ?_) <;> intro hp <;> try simp only [hp] | simp -implicitDefEqProofs (disch := omega) only [go_sem, Nat.reduceAdd, Nat.reduceSub, reduceCtorEq, Nat.reduceLT, Nat.reduceLeDiff, Nat.reduceEqDiff, Nat.reduceMul, Int.reduceToNat, ↓reduceIte, List.take_of_length_le, if_pos, if_neg, List.getElem?_set_self, List.set_set, cnE, cnV, Try.ntmps23, Try.results23,  hv, q1, hw])
  | true =>
    rw [e1] at q1
    cases e2 : viewOK b with
    | false =>
      rw [e2] at q2
      have hw := way_no (a := a) (b := b) (by rw [okk_iff]; rintro ⟨⟨_, h⟩, _⟩; rw [e2] at h; simp at h)
      repeat' (first | with_reducible first | refine kI (by kernel_rfl) ?_ | refine kN (by kernel_rfl) ?_ | (first | refine kB1 ?_ ?_ | refine kB2 ?_ ?_) <;> intro hp | (first | refine kD1 ?_ ?_ | refine kD2 ?_ ?_ | refine kS1 ?_ ?_ | refine kS2 ?_ ?_) <;> intro hp <;> try simp only [hp] | simp -implicitDefEqProofs (disch := omega) only [go_sem, Nat.reduceAdd, Nat.reduceSub, reduceCtorEq, Nat.reduceLT, Nat.reduceLeDiff, Nat.reduceEqDiff, Nat.reduceMul, Int.reduceToNat, ↓reduceIte, List.take_of_length_le, if_pos, if_neg, List.getElem?_set_self, List.set_set, cnE, cnV, Try.ntmps23, Try.results23,  hv, q1, q2, hw])
    | true =>
      rw [e2] at q2
      by_cases e3 : a.sh = b.sh
      · rw [decide_eq_true e3] at q3
        obtain ⟨k1, k2, _⟩ := viewOK_iff.1 e1
        obtain ⟨k3, k4, _⟩ := viewOK_iff.1 e2
        have q4 := gOffsets_eq (v := a) ⟨k1, k2⟩
        have q5 := gOffsets_eq (v := b) ⟨k3, k4⟩
        have h6 := offF_60 k1
        have hle : (offF a).length = (offF b).length := by rw [offF_len, offF_len, e3]
        have q7 := gOneI_eq (v := a) ⟨k1, k2⟩
        rw [way_yes e1 e2 e3]
        generalize offF a = A at *
        generalize offF b = B at *
        repeat' (first | with_reducible first | refine kI (by kernel_rfl) ?_ | refine kN (by kernel_rfl) ?_ | (first | refine kB1 ?_ ?_ | refine kB2 ?_ ?_) <;> intro hp | (first | refine kD1 ?_ ?_ | refine kD2 ?_ ?_ | refine kS1 ?_ ?_ | refine kS2 ?_ ?_) <;> intro hp <;> try simp only [hp] | simp -implicitDefEqProofs (disch := omega) only [go_sem, Nat.reduceAdd, Nat.reduceSub, reduceCtorEq, Nat.reduceLT, Nat.reduceLeDiff, Nat.reduceEqDiff, Nat.reduceMul, Int.reduceToNat, ↓reduceIte, List.take_of_length_le, if_pos, if_neg, List.getElem?_set_self, List.set_set, cnE, cnV, Try.ntmps23, Try.results23,  hv, q1, q2, he, q3, ho, q4, q5])
        refine LoopQ.mix (fun t0 L0 nn ss => ∃ (k : Nat) (la : Bool) (ea : Bool) (_ : Unit), (∃ x : Nat → AV, ss = ⟨mixL 0 (.k :: .k :: .k :: .k :: .k :: .v (.bool la) :: .v (.bool ea) :: .k :: .s :: .s :: .k :: .k :: .k :: .k :: .k :: .k :: .k :: .k :: .k :: .k :: .k :: .k :: .k :: .k :: .k :: .k :: .k :: .k :: .k :: .k :: .k :: .v (i64 (k : Nat)) :: .s :: .s :: .s :: .s :: .s :: .s :: .s :: .s :: .s :: .s :: .s :: .s :: .s :: .s :: .s :: .s :: .s :: .s :: .s :: .s :: .s :: .s :: .k :: .k :: .k :: .k :: .k :: .k :: .k :: .k :: .k :: .k :: []) t0 x, L0⟩) ∧ (k ≤ A.length) ∧ (la = latB A B k) ∧ (ea = earB A B k) ∧ nn = A.length - k) ?_ ?_
        · exact ⟨_, ⟨0, false, false, (), mixI rfl, Nat.zero_le _, rfl, rfl, rfl⟩⟩
        · rintro I0 hI0 nn s ⟨k, la, ea, _, ⟨x, rfl⟩, g1, g2, g3, rfl⟩
          by_cases hk : k < A.length
          · have hki : (k : Int) < (A.length : Int) := by omega
            have htn : ((k : Int) + 1).toNat = k + 1 := by omega
            have p1 := gContains_eq (l := B.drop (k + 1)) (by rw [List.length_drop]; omega) (A.getD k 0)
            have p2 := gContains_eq (l := B.take k) (by rw [List.length_take]; omega) (A.getD k 0)
            have s1 := latB_s A B k
            have s2 := earB_s A B k
            rw [← g2] at s1
            rw [← g3] at s2
            cases la with
            | true =>
              rw [Bool.true_or] at s1
              cases ea with
              | true =>
                rw [Bool.true_or] at s2
                repeat' (first | with_reducible first | refine kI (by kernel_rfl) ?_ | refine kN (by kernel_rfl) ?_ | (first | refine kB1 ?_ ?_ | refine kB2 ?_ ?_) <;> intro hp | (first | refine kD1 ?_ ?_ | refine kD2 ?_ ?_ | refine kS1 ?_ ?_ | refine kS2 ?_ ?_) <;> intro hp <;> try simp only [hp] | simp -implicitDefEqProofs (disch := omega) only [go_sem, Nat.reduceAdd, Nat.reduceSub, reduceCtorEq, Nat.reduceLT, Nat.reduceLeDiff, Nat.reduceEqDiff, Nat.reduceMul, Int.reduceToNat, ↓reduceIte, List.take_of_length_le, if_pos, if_neg, List.getElem?_set_self, List.set_set, cnE, cnV, Try.ntmps23, Try.results23,  hki])
                exact ⟨A.length - (k + 1), by omega, hI0 _ _ ⟨k + 1, _, _, (), mixI rfl, hk, s1.symm, s2.symm, rfl⟩⟩
              | false =>
                rw [Bool.false_or] at s2
                repeat' (first | with_reducible first | refine kI (by kernel_rfl) ?_ | refine kN (by kernel_rfl) ?_ | (first | refine kB1 ?_ ?_ | refine kB2 ?_ ?_) <;> intro hp | (first | refine kD1 ?_ ?_ | refine kD2 ?_ ?_ | refine kS1 ?_ ?_ | refine kS2 ?_ ?_) <;> intro hp <;> try simp only [hp] | simp -implicitDefEqProofs (disch := omega) only [go_sem, Nat.reduceAdd, Nat.reduceSub, reduceCtorEq, Nat.reduceLT, Nat.reduceLeDiff, Nat.reduceEqDiff, Nat.reduceMul, Int.reduceToNat, ↓reduceIte, List.take_of_length_le, if_pos, if_neg, List.getElem?_set_self, List.set_set, cnE, cnV, Try.ntmps23, Try.results23,  hki, hc, p2])
                exact ⟨A.length - (k + 1), by omega, hI0 _ _ ⟨k + 1, _, _, (), mixI rfl, hk, s1.symm, s2.symm, rfl⟩⟩
            | false =>
              rw [Bool.false_or] at s1
              cases ea with
              | true =>
                rw [Bool.true_or] at s2
                repeat' (first | with_reducible first | refine kI (by kernel_rfl) ?_ | refine kN (by kernel_rfl) ?_ | (first | refine kB1 ?_ ?_ | refine kB2 ?_ ?_) <;> intro hp | (first | refine kD1 ?_ ?_ | refine kD2 ?_ ?_ | refine kS1 ?_ ?_ | refine kS2 ?_ ?_) <;> intro hp <;> try simp only [hp] | simp -implicitDefEqProofs (disch := omega) only [go_sem, Nat.reduceAdd, Nat.reduceSub, reduceCtorEq, Nat.reduceLT, Nat.reduceLeDiff, Nat.reduceEqDiff, Nat.reduceMul, Int.reduceToNat, ↓reduceIte, List.take_of_length_le, if_pos, if_neg, List.getElem?_set_self, List.set_set, cnE, cnV, Try.ntmps23, Try.results23,  hki, hc, htn, p1])
                exact ⟨A.length - (k + 1), by omega, hI0 _ _ ⟨k + 1, _, _, (), mixI rfl, hk, s1.symm, s2.symm, rfl⟩⟩
              | false =>
                rw [Bool.false_or] at s2
                repeat' (first | with_reducible first | refine kI (by kernel_rfl) ?_ | refine kN (by kernel_rfl) ?_ | (first | refine kB1 ?_ ?_ | refine kB2 ?_ ?_) <;> intro hp | (first | refine kD1 ?_ ?_ | refine kD2 ?_ ?_ | refine kS1 ?_ ?_ | refine kS2 ?_ ?_) <;> intro hp <;> try simp only [hp] | simp -implicitDefEqProofs (disch := omega) only [go_sem, Nat.reduceAdd, Nat.reduceSub, reduceCtorEq, Nat.reduceLT, Nat.reduceLeDiff, Nat.reduceEqDiff, Nat.reduceMul, Int.reduceToNat, ↓reduceIte, List.take_of_length_le, if_pos, if_neg, List.getElem?_set_self, List.set_set, cnE, cnV, Try.ntmps23, Try.results23,  hki, hc, htn, p1, p2])
                exact ⟨A.length - (k + 1), by omega, hI0 _ _ ⟨k + 1, _, _, (), mixI rfl, hk, s1.symm, s2.symm, rfl⟩⟩
          · obtain rfl : k = A.length := by omega
            subst g2 g3
            cases e4 : latB A B A.length with
            | false =>
              have hw := wayL_0 e4
              repeat' (first | with_reducible first | refine kI (by kernel_rfl) ?_ | refine kN (by kernel_rfl) ?_ | (first | refine kB1 ?_ ?_ | refine kB2 ?_ ?_) <;> intro hp | (first | refine kD1 ?_ ?_ | refine kD2 ?_ ?_ | refine kS1 ?_ ?_ | refine kS2 ?_ ?_) <;> intro hp <;> try simp only [hp] | simp -implicitDefEqProofs (disch := omega) only [go_sem, Nat.reduceAdd, Nat.reduceSub, reduceCtorEq, Nat.reduceLT, Nat.reduceLeDiff, Nat.reduceEqDiff, Nat.reduceMul, Int.reduceToNat, ↓reduceIte, List.take_of_length_le, if_pos, if_neg, List.getElem?_set_self, List.set_set, cnE, cnV, Try.ntmps23, Try.results23,  hw])
            | true =>
              cases e5 : earB A B A.length with
              | true =>
                have hw := wayL_2 e4 (fun h => by rw [e5] at h; simp at h)
                repeat' (first | with_reducible first | refine kI (by kernel_rfl) ?_ | refine kN (by kernel_rfl) ?_ | (first | refine kB1 ?_ ?_ | refine kB2 ?_ ?_) <;> intro hp | (first | refine kD1 ?_ ?_ | refine kD2 ?_ ?_ | refine kS1 ?_ ?_ | refine kS2 ?_ ?_) <;> intro hp <;> try simp only [hp] | simp -implicitDefEqProofs (disch := omega) only [go_sem, Nat.reduceAdd, Nat.reduceSub, reduceCtorEq, Nat.reduceLT, Nat.reduceLeDiff, Nat.reduceEqDiff, Nat.reduceMul, Int.reduceToNat, ↓reduceIte, List.take_of_length_le, if_pos, if_neg, List.getElem?_set_self, List.set_set, cnE, cnV, Try.ntmps23, Try.results23,  hw])
              | false =>
                cases e6 : diffF A with
                | true =>
                  rw [e6] at q7
                  have hw := wayL_1 e4 e5 e6
                  repeat' (first | with_reducible first | refine kI (by kernel_rfl) ?_ | refine kN (by kernel_rfl) ?_ | (first | refine kB1 ?_ ?_ | refine kB2 ?_ ?_) <;> intro hp | (first | refine kD1 ?_ ?_ | refine kD2 ?_ ?_ | refine kS1 ?_ ?_ | refine kS2 ?_ ?_) <;> intro hp <;> try simp only [hp] | simp -implicitDefEqProofs (disch := omega) only [go_sem, Nat.reduceAdd, Nat.reduceSub, reduceCtorEq, Nat.reduceLT, Nat.reduceLeDiff, Nat.reduceEqDiff, Nat.reduceMul, Int.reduceToNat, ↓reduceIte, List.take_of_length_le, if_pos, if_neg, List.getElem?_set_self, List.set_set, cnE, cnV, Try.ntmps23, Try.results23,  hw, hd, q7])
                | false =>
                  rw [e6] at q7
                  have hw := wayL_2 e4 (fun h => by rw [e6] at h; simp at h)
                  repeat' (first | with_reducible first | refine kI (by kernel_rfl) ?_ | refine kN (by kernel_rfl) ?_ | (first | refine kB1 ?_ ?_ | refine kB2 ?_ ?_) <;> intro hp | (first | refine kD1 ?_ ?_ | refine kD2 ?_ ?_ | refine kS1 ?_ ?_ | refine kS2 ?_ ?_) <;> intro hp <;> try simp only [hp] | simp -implicitDefEqProofs (disch := omega) only [go_sem, Nat.reduceAdd, Nat.reduceSub, reduceCtorEq, Nat.reduceLT, Nat.reduceLeDiff, Nat.reduceEqDiff, Nat.reduceMul, Int.reduceToNat, ↓reduceIte, List.take_of_length_le, if_pos, if_neg, List.getElem?_set_self, List.set_set, cnE, cnV, Try.ntmps23, Try.results23,  hw, hd, q7])
      · rw [decide_eq_false e3] at q3
        have hw := way_no (a := a) (b := b) (fun h => e3 h.2)
        repeat' (first | with_reducible first | refine kI (by kernel_rfl) ?_ | refine kN (by kernel_rfl) ?_ | (first | refine kB1 ?_ ?_ | refine kB2 ?_ ?_) <;> intro hp | (first | refine kD1 ?_ ?_ | refine kD2 ?_ ?_ | refine kS1 ?_ ?_ | refine kS2 ?_ ?_) <;> intro hp <;> try simp only [hp] | simp -implicitDefEqProofs (disch := omega) only [go_sem, Nat.reduceAdd, Nat.reduceSub, reduceCtorEq, Nat.reduceLT, Nat.reduceLeDiff, Nat.reduceEqDiff, Nat.reduceMul, Int.reduceToNat, ↓reduceIte, List.take_of_length_le, if_pos, if_neg, List.getElem?_set_self, List.set_set, cnE, cnV, Try.ntmps23, Try.results23,  hv, q1, q2, he, q3, hw])
set_option maxHeartbeats 4000000 in
set_option maxRecDepth 100000 in
theorem spec_WayOfS {Sg : FuncId → Option (List AV → Option AV)} (hS : Sound Try.prog Sg) (hv : Sg 69 = some (F1 gValidV)) (ho : Sg 62 = some (F1 gOffsets)) (he : Sg 70 = some (F2 gEqInts)) (hc : Sg 71 = some (F3 gClean)) (hd : Sg 72 = some (F1 gDifferent)) : ∀ a r, F2 gWay a = some r → CSpec Try.prog 24 a r := by
  refine F2_spec ?_
  intro a b r hr0
  obtain ⟨⟨ha, hb⟩, rfl⟩ := gd_some hr0
  refine CSpec.intro Try.func24 rfl (own _) (vc3_sound Try.pf hS hS _ _ _ ?_)
  have q1 := gValidV_eq (v := a) ha
  have q2 := gValidV_eq (v := b) hb
  have q3 := gEqInts_eq (a := a.sh) (b := b.sh) ⟨ha.1, hb.1⟩
  cases e1 : viewOK a with
  | false =>
    rw [e1] at q1
    have hw := way_no (a := a) (b := b) (by rw [okk_iff]; rintro ⟨⟨h, _⟩, _⟩; rw [e1] at h; simp at h)
    repeat' (first | with_reducible first | refine kI (by kernel_rfl) ?_ | refine kN (by kernel_rfl) ?_ | (first | refine kB1 ?_ ?_ | refine kB2 ?_ ?_) <;> intro hp | (first | refine kD1 ?_ ?_ | refine kD2 ?_ ?_ | refine kS1 ?_ ?_ | refine kS2 ?_ ?_) <;> intro hp <;> try simp only [hp] | simp -implicitDefEqProofs (disch := omega) only [go_sem, Nat.reduceAdd, Nat.reduceSub, reduceCtorEq, Nat.reduceLT, Nat.reduceLeDiff, Nat.reduceEqDiff, Nat.reduceMul, Int.reduceToNat, ↓reduceIte, List.take_of_length_le, if_pos, if_neg, List.getElem?_set_self, List.set_set, cnE, cnV, Try.ntmps24, Try.results24,  hv, q1, hw])
  | true =>
    rw [e1] at q1
    cases e2 : viewOK b with
    | false =>
      rw [e2] at q2
      have hw := way_no (a := a) (b := b) (by rw [okk_iff]; rintro ⟨⟨_, h⟩, _⟩; rw [e2] at h; simp at h)
      repeat' (first | with_reducible first | refine kI (by kernel_rfl) ?_ | refine kN (by kernel_rfl) ?_ | (first | refine kB1 ?_ ?_ | refine kB2 ?_ ?_) <;> intro hp | (first | refine kD1 ?_ ?_ | refine kD2 ?_ ?_ | refine kS1 ?_ ?_ | refine kS2 ?_ ?_) <;> intro hp <;> try simp only [hp] | simp -implicitDefEqProofs (disch := omega) only [go_sem, Nat.reduceAdd, Nat.reduceSub, reduceCtorEq, Nat.reduceLT, Nat.reduceLeDiff, Nat.reduceEqDiff, Nat.reduceMul, Int.reduceToNat, ↓reduceIte, List.take_of_length_le, if_pos, if_neg, List.getElem?_set_self, List.set_set, cnE, cnV, Try.ntmps24, Try.results24,  hv, q1, q2, hw])
    | true =>
      rw [e2] at q2
      by_cases e3 : a.sh = b.sh
      · rw [decide_eq_true e3] at q3
        obtain ⟨k1, k2, _⟩ := viewOK_iff.1 e1
        obtain ⟨k3, k4, _⟩ := viewOK_iff.1 e2
        have q4 := gOffsets_eq (v := a) ⟨k1, k2⟩
        have q5 := gOffsets_eq (v := b) ⟨k3, k4⟩
        have h6 := offF_60 k1
        have hle : (offF a).length = (offF b).length := by rw [offF_len, offF_len, e3]
        have q7 := gDifferent_eq (l := offF a) (by omega)
        rw [way_yes e1 e2 e3]
        generalize offF a = A at *
        generalize offF b = B at *
        have q8 := gClean_eq (A := A) (B := B) ⟨by omega, by omega⟩ false
        have q9 := gClean_eq (A := A) (B := B) ⟨by omega, by omega⟩ true
        rw [clean_f hle] at q8
        rw [clean_t hle] at q9
        cases e4 : latB A B A.length with
        | false =>
          have hw := wayL_0 e4
          rw [e4] at q8
          repeat' (first | with_reducible first | refine kI (by kernel_rfl) ?_ | refine kN (by kernel_rfl) ?_ | (first | refine kB1 ?_ ?_ | refine kB2 ?_ ?_) <;> intro hp | (first | refine kD1 ?_ ?_ | refine kD2 ?_ ?_ | refine kS1 ?_ ?_ | refine kS2 ?_ ?_) <;> intro hp <;> try simp only [hp] | simp -implicitDefEqProofs (disch := omega) only [go_sem, Nat.reduceAdd, Nat.reduceSub, reduceCtorEq, Nat.reduceLT, Nat.reduceLeDiff, Nat.reduceEqDiff, Nat.reduceMul, Int.reduceToNat, ↓reduceIte, List.take_of_length_le, if_pos, if_neg, List.getElem?_set_self, List.set_set, cnE, cnV, Try.ntmps24, Try.results24,  hv, q1, q2, he, q3, ho, q4, q5, hc, q8, hw])
        | true =>
          rw [e4] at q8
          cases e5 : earB A B A.length with
          | true =>
            rw [e5] at q9
            have hw := wayL_2 e4 (fun h => by rw [e5] at h; simp at h)
            repeat' (first | with_reducible first | refine kI (by kernel_rfl) ?_ | refine kN (by kernel_rfl) ?_ | (first | refine kB1 ?_ ?_ | refine kB2 ?_ ?_) <;> intro hp | (first | refine kD1 ?_ ?_ | refine kD2 ?_ ?_ | refine kS1 ?_ ?_ | refine kS2 ?_ ?_) <;> intro hp <;> try simp only [hp] | simp -implicitDefEqProofs (disch := omega) only [go_sem, Nat.reduceAdd, Nat.reduceSub, reduceCtorEq, Nat.reduceLT, Nat.reduceLeDiff, Nat.reduceEqDiff, Nat.reduceMul, Int.reduceToNat, ↓reduceIte, List.take_of_length_le, if_pos, if_neg, List.getElem?_set_self, List.set_set, cnE, cnV, Try.ntmps24, Try.results24,  hv, q1, q2, he, q3, ho, q4, q5, hc, q8, q9, hw])
          | false =>
            rw [e5] at q9
            cases e6 : diffF A with
            | true =>
              rw [e6] at q7
              have hw := wayL_1 e4 e5 e6
              repeat' (first | with_reducible first | refine kI (by kernel_rfl) ?_ | refine kN (by kernel_rfl) ?_ | (first | refine kB1 ?_ ?_ | refine kB2 ?_ ?_) <;> intro hp | (first | refine kD1 ?_ ?_ | refine kD2 ?_ ?_ | refine kS1 ?_ ?_ | refine kS2 ?_ ?_) <;> intro hp <;> try simp only [hp] | simp -implicitDefEqProofs (disch := omega) only [go_sem, Nat.reduceAdd, Nat.reduceSub, reduceCtorEq, Nat.reduceLT, Nat.reduceLeDiff, Nat.reduceEqDiff, Nat.reduceMul, Int.reduceToNat, ↓reduceIte, List.take_of_length_le, if_pos, if_neg, List.getElem?_set_self, List.set_set, cnE, cnV, Try.ntmps24, Try.results24,  hv, q1, q2, he, q3, ho, q4, q5, hc, q8, q9, hd, q7, hw])
            | false =>
              rw [e6] at q7
              have hw := wayL_2 e4 (fun h => by rw [e6] at h; simp at h)
              repeat' (first | with_reducible first | refine kI (by kernel_rfl) ?_ | refine kN (by kernel_rfl) ?_ | (first | refine kB1 ?_ ?_ | refine kB2 ?_ ?_) <;> intro hp | (first | refine kD1 ?_ ?_ | refine kD2 ?_ ?_ | refine kS1 ?_ ?_ | refine kS2 ?_ ?_) <;> intro hp <;> try simp only [hp] | simp -implicitDefEqProofs (disch := omega) only [go_sem, Nat.reduceAdd, Nat.reduceSub, reduceCtorEq, Nat.reduceLT, Nat.reduceLeDiff, Nat.reduceEqDiff, Nat.reduceMul, Int.reduceToNat, ↓reduceIte, List.take_of_length_le, if_pos, if_neg, List.getElem?_set_self, List.set_set, cnE, cnV, Try.ntmps24, Try.results24,  hv, q1, q2, he, q3, ho, q4, q5, hc, q8, q9, hd, q7, hw])
      · rw [decide_eq_false e3] at q3
        have hw := way_no (a := a) (b := b) (fun h => e3 h.2)
        repeat' (first | with_reducible first | refine kI (by kernel_rfl) ?_ | refine kN (by kernel_rfl) ?_ | (first | refine kB1 ?_ ?_ | refine kB2 ?_ ?_) <;> intro hp | (first | refine kD1 ?_ ?_ | refine kD2 ?_ ?_ | refine kS1 ?_ ?_ | refine kS2 ?_ ?_) <;> intro hp <;> try simp only [hp] | simp -implicitDefEqProofs (disch := omega) only [go_sem, Nat.reduceAdd, Nat.reduceSub, reduceCtorEq, Nat.reduceLT, Nat.reduceLeDiff, Nat.reduceEqDiff, Nat.reduceMul, Int.reduceToNat, ↓reduceIte, List.take_of_length_le, if_pos, if_neg, List.getElem?_set_self, List.set_set, cnE, cnV, Try.ntmps24, Try.results24,  hv, q1, q2, he, q3, hw])
theorem wayL_cases (A B : List Int) : wayL A B = 0 ∨ wayL A B = 1 ∨ wayL A B = 2 := by
  unfold wayL
  split
  · exact .inl rfl
  · split
    · exact .inr (.inl rfl)
    · exact .inr (.inr rfl)
theorem can_DrawWayOf : CanCall Try.prog 22 := ⟨_, Try.func22, rfl, rfl⟩
def FlipV : Prop := ∀ (v : Vi) (d : Int), v.sh.length ≤ 4 ∧ v.st.length ≤ 5 → OSpec Try.prog 11 [.agg [i64 v.b, ints 0 v.sh, ints 0 v.st], i64 d] (mdR (sliF v d flipS)) (mdN (sliF v d flipS))
set_option maxHeartbeats 4000000 in
set_option maxRecDepth 100000 in
theorem isp_copyOf {Sg : FuncId → Option (List AV → Option AV)} (hS : Sound Try.prog Sg) (h0 : Sg 81 = none) (h1 : Sg 56 = none) (h2 : Sg 82 = none) (h4 : Sg 11 = none) (h5 : Sg 114 = none) {bs : List UInt8} {b n : Nat} {rL : Int → List Blk} (hC : RC bs b n rL) (hb : bs.length ≤ 2000) (p : Int) (hp : 0 ≤ p ∧ p ≤ 700000000) (hsv : SomeV) (hfl : FlipV) (hcv : CopyVi) : ISpec Try.prog 66 [.ptr b 1 0 0] (rL p) (fun r L' => ∃ (u v : Vi) (p' : Int), (viOK u ∧ viOK v) ∧ r = .tup [viD u, viD v] ∧ p ≤ p' ∧ p' ≤ p + 500 ∧ L' = rL p') := by
  refine ISpec.ret Try.func66 rfl (vc3_sound Try.pf hS hS _ _ _ ?_)
  repeat' (first | with_reducible first | refine kI (by kernel_rfl) ?_ | (first | refine kB1 ?_ ?_ | refine kB2 ?_ ?_) <;> intro hp | (first | refine kD1 ?_ ?_ | refine kD2 ?_ ?_ | refine kS1 ?_ ?_ | refine kS2 ?_ ?_) <;> intro hp <;> try simp only [hp] | simp -implicitDefEqProofs (disch := omega) only [go_sem, Nat.reduceAdd, Nat.reduceSub, reduceCtorEq, Nat.reduceLT, Nat.reduceLeDiff, Nat.reduceEqDiff, Nat.reduceMul, Int.reduceToNat, ↓reduceIte, List.take_of_length_le, if_pos, if_neg, List.getElem?_set_self, List.set_set, cnE, cnV, Try.ntmps66, Try.results66,  hC.cn, h2, opQ_none])
  refine InlK_intro rfl rfl can_someView ((hsv (hC.app _) hb p (by omega)).mono ?_)
  rintro r L1 ⟨u, p1, k1, k2, rfl, k3, k4, rfl⟩
  repeat' (first | with_reducible first | refine kI (by kernel_rfl) ?_ | (first | refine kB1 ?_ ?_ | refine kB2 ?_ ?_) <;> intro hp | (first | refine kD1 ?_ ?_ | refine kD2 ?_ ?_ | refine kS1 ?_ ?_ | refine kS2 ?_ ?_) <;> intro hp <;> try simp only [hp] | simp -implicitDefEqProofs (disch := omega) only [go_sem, Nat.reduceAdd, Nat.reduceSub, reduceCtorEq, Nat.reduceLT, Nat.reduceLeDiff, Nat.reduceEqDiff, Nat.reduceMul, Int.reduceToNat, ↓reduceIte, List.take_of_length_le, if_pos, if_neg, List.getElem?_set_self, List.set_set, cnE, cnV, Try.ntmps66, Try.results66,  hC.cn, h5, opQ_none])
  refine InlK_intro rfl rfl can_copyView ((frz_cv (hcv u ⟨by omega, by omega⟩) _ _ (by simp only [go_sem, ints])).mono ?_)
  rintro r L1 ⟨rfl, rfl⟩
  repeat' (first | with_reducible first | refine kI (by kernel_rfl) ?_ | (first | refine kB1 ?_ ?_ | refine kB2 ?_ ?_) <;> intro hp | (first | refine kD1 ?_ ?_ | refine kD2 ?_ ?_ | refine kS1 ?_ ?_ | refine kS2 ?_ ?_) <;> intro hp <;> try simp only [hp] | simp -implicitDefEqProofs (disch := omega) only [go_sem, Nat.reduceAdd, Nat.reduceSub, reduceCtorEq, Nat.reduceLT, Nat.reduceLeDiff, Nat.reduceEqDiff, Nat.reduceMul, Int.reduceToNat, ↓reduceIte, List.take_of_length_le, if_pos, if_neg, List.getElem?_set_self, List.set_set, cnE, cnV, Try.ntmps66, Try.results66,  hC.cn, h0, opQ_none])
  refine InlK_intro rfl rfl can_pick ((isp_pick hS (hC.app _) hb _ (by omega) 6 (by omega)).mono ?_)
  rintro r L1 ⟨ch, rfl, k9, k10, rfl⟩
  have fin : ∀ (p3 : Int) (u w : Vi) (A B : Blk) (Y : List Blk), p ≤ p3 → p3 ≤ p + 500 → viOK u → viOK w → RetQ (rL p) (fun r L' => ∃ (u v : Vi) (p' : Int), (viOK u ∧ viOK v) ∧ r = .tup [viD u, viD v] ∧ p ≤ p' ∧ p' ≤ p + 500 ∧ L' = rL p') (.tup [viD u, viD w]) (rL p3 ++ (A :: B :: Y)) := fun p3 u w A B Y w1 w2 w3 w4 =>
    hC.ret0 ⟨u, w, p3, ⟨w3, w4⟩, fr_two, w1, w2, rfl⟩
  have finS : ∀ (p3 : Int) (u w : Vi) (k : Nat) (A B : Blk) (Y : List Blk), p ≤ p3 → p3 ≤ p + 500 → viOK u → viOK w → n ≤ k → (rL p3 ++ (A :: B :: Y))[k]? = some (stB w.st) → RetQ (rL p) (fun r L' => ∃ (u v : Vi) (p' : Int), (viOK u ∧ viOK v) ∧ r = .tup [viD u, viD v] ∧ p ≤ p' ∧ p' ≤ p + 500 ∧ L' = rL p') (.tup [viD u, viS k w]) (rL p3 ++ (A :: B :: Y)) := fun p3 u w k A B Y w1 w2 w3 w3' w4 w5 =>
    hC.ret0 ⟨u, w, p3, ⟨w3, w3'⟩, fr_twoS w4 rfl w5, w1, w2, rfl⟩
  have hch : ch = 0 ∨ ch = 1 ∨ ch = 2 ∨ ch = 3 ∨ ch = 4 ∨ ch = 5 := by omega
  have hnn : n ≤ n + 1 := Nat.le_succ n
  rcases hch with rfl | rfl | rfl | rfl | rfl | rfl
  · repeat' (first | with_reducible first | refine kI (by kernel_rfl) ?_ | (first | refine kB1 ?_ ?_ | refine kB2 ?_ ?_) <;> intro hp | (first | refine kD1 ?_ ?_ | refine kD2 ?_ ?_ | refine kS1 ?_ ?_ | refine kS2 ?_ ?_) <;> intro hp <;> try simp only [hp] | simp -implicitDefEqProofs (disch := omega) only [go_sem, Nat.reduceAdd, Nat.reduceSub, reduceCtorEq, Nat.reduceLT, Nat.reduceLeDiff, Nat.reduceEqDiff, Nat.reduceMul, Int.reduceToNat, ↓reduceIte, List.take_of_length_le, if_pos, if_neg, List.getElem?_set_self, List.set_set, cnE, cnV, Try.ntmps66, Try.results66,  hC.cn])
    refine DrawQ.any2 [([0, 1, 2, 3], 4, [0, 1, 2]), ([5, 6], 7, [])] [] [0, 1, 2] (by kernel_rfl) ?_
    repeat' (first | with_reducible first | refine kI (by kernel_rfl) ?_ | (first | refine kB1 ?_ ?_ | refine kB2 ?_ ?_) <;> intro hp | (first | refine kD1 ?_ ?_ | refine kD2 ?_ ?_ | refine kS1 ?_ ?_ | refine kS2 ?_ ?_) <;> intro hp <;> try simp only [hp] | simp -implicitDefEqProofs (disch := omega) only [go_sem, Nat.reduceAdd, Nat.reduceSub, reduceCtorEq, Nat.reduceLT, Nat.reduceLeDiff, Nat.reduceEqDiff, Nat.reduceMul, Int.reduceToNat, ↓reduceIte, List.take_of_length_le, if_pos, if_neg, List.getElem?_set_self, List.set_set, cnE, cnV, Try.ntmps66, Try.results66,  hC.cn, h0, opQ_none])
    refine InlK_intro rfl rfl can_pick ((isp_pick hS (hC.app _) hb _ (by omega) 3 (by omega)).mono ?_)
    rintro r L1 ⟨y, rfl, -, -, rfl⟩
    repeat' (first | with_reducible first | refine kI (by kernel_rfl) ?_ | (first | refine kB1 ?_ ?_ | refine kB2 ?_ ?_) <;> intro hp | (first | refine kD1 ?_ ?_ | refine kD2 ?_ ?_ | refine kS1 ?_ ?_ | refine kS2 ?_ ?_) <;> intro hp <;> try simp only [hp] | simp -implicitDefEqProofs (disch := omega) only [go_sem, Nat.reduceAdd, Nat.reduceSub, reduceCtorEq, Nat.reduceLT, Nat.reduceLeDiff, Nat.reduceEqDiff, Nat.reduceMul, Int.reduceToNat, ↓reduceIte, List.take_of_length_le, if_pos, if_neg, List.getElem?_set_self, List.set_set, cnE, cnV, Try.ntmps66, Try.results66,  hC.cn])
    refine DrawQ.any [([0, 1], 2), ([], 3)] [] [1] (by kernel_rfl) ?_
    repeat' (first | with_reducible first | refine kI (by kernel_rfl) ?_ | (first | refine kB1 ?_ ?_ | refine kB2 ?_ ?_) <;> intro hp | (first | refine kD1 ?_ ?_ | refine kD2 ?_ ?_ | refine kS1 ?_ ?_ | refine kS2 ?_ ?_) <;> intro hp <;> try simp only [hp] | simp -implicitDefEqProofs (disch := omega) only [go_sem, Nat.reduceAdd, Nat.reduceSub, reduceCtorEq, Nat.reduceLT, Nat.reduceLeDiff, Nat.reduceEqDiff, Nat.reduceMul, Int.reduceToNat, ↓reduceIte, List.take_of_length_le, if_pos, if_neg, List.getElem?_set_self, List.set_set, cnE, cnV, Try.ntmps66, Try.results66,  hC.cn])
    exact finS _ u ⟨_, u.sh, u.st⟩ _ _ _ _ (by omega) (by omega) ⟨k1, k2⟩ ⟨k1, k2⟩ (by omega) (by rw [hC.at']; rfl)
  · repeat' (first | with_reducible first | refine kI (by kernel_rfl) ?_ | (first | refine kB1 ?_ ?_ | refine kB2 ?_ ?_) <;> intro hp | (first | refine kD1 ?_ ?_ | refine kD2 ?_ ?_ | refine kS1 ?_ ?_ | refine kS2 ?_ ?_) <;> intro hp <;> try simp only [hp] | simp -implicitDefEqProofs (disch := omega) only [go_sem, Nat.reduceAdd, Nat.reduceSub, reduceCtorEq, Nat.reduceLT, Nat.reduceLeDiff, Nat.reduceEqDiff, Nat.reduceMul, Int.reduceToNat, ↓reduceIte, List.take_of_length_le, if_pos, if_neg, List.getElem?_set_self, List.set_set, cnE, cnV, Try.ntmps66, Try.results66,  hC.cn])
    refine DrawQ.any2 [([0, 1, 2, 3], 4, [0, 1, 2]), ([5, 6], 7, [])] [] [0, 1, 2] (by kernel_rfl) ?_
    repeat' (first | with_reducible first | refine kI (by kernel_rfl) ?_ | (first | refine kB1 ?_ ?_ | refine kB2 ?_ ?_) <;> intro hp | (first | refine kD1 ?_ ?_ | refine kD2 ?_ ?_ | refine kS1 ?_ ?_ | refine kS2 ?_ ?_) <;> intro hp <;> try simp only [hp] | simp -implicitDefEqProofs (disch := omega) only [go_sem, Nat.reduceAdd, Nat.reduceSub, reduceCtorEq, Nat.reduceLT, Nat.reduceLeDiff, Nat.reduceEqDiff, Nat.reduceMul, Int.reduceToNat, ↓reduceIte, List.take_of_length_le, if_pos, if_neg, List.getElem?_set_self, List.set_set, cnE, cnV, Try.ntmps66, Try.results66,  hC.cn, h0, opQ_none])
    refine InlK_intro rfl rfl can_pick ((isp_pick hS (hC.app _) hb _ (by omega) 3 (by omega)).mono ?_)
    rintro r L1 ⟨y, rfl, -, -, rfl⟩
    repeat' (first | with_reducible first | refine kI (by kernel_rfl) ?_ | (first | refine kB1 ?_ ?_ | refine kB2 ?_ ?_) <;> intro hp | (first | refine kD1 ?_ ?_ | refine kD2 ?_ ?_ | refine kS1 ?_ ?_ | refine kS2 ?_ ?_) <;> intro hp <;> try simp only [hp] | simp -implicitDefEqProofs (disch := omega) only [go_sem, Nat.reduceAdd, Nat.reduceSub, reduceCtorEq, Nat.reduceLT, Nat.reduceLeDiff, Nat.reduceEqDiff, Nat.reduceMul, Int.reduceToNat, ↓reduceIte, List.take_of_length_le, if_pos, if_neg, List.getElem?_set_self, List.set_set, cnE, cnV, Try.ntmps66, Try.results66,  hC.cn])
    refine DrawQ.any [([0, 1], 2), ([], 3)] [] [1] (by kernel_rfl) ?_
    repeat' (first | with_reducible first | refine kI (by kernel_rfl) ?_ | (first | refine kB1 ?_ ?_ | refine kB2 ?_ ?_) <;> intro hp | (first | refine kD1 ?_ ?_ | refine kD2 ?_ ?_ | refine kS1 ?_ ?_ | refine kS2 ?_ ?_) <;> intro hp <;> try simp only [hp] | simp -implicitDefEqProofs (disch := omega) only [go_sem, Nat.reduceAdd, Nat.reduceSub, reduceCtorEq, Nat.reduceLT, Nat.reduceLeDiff, Nat.reduceEqDiff, Nat.reduceMul, Int.reduceToNat, ↓reduceIte, List.take_of_length_le, if_pos, if_neg, List.getElem?_set_self, List.set_set, cnE, cnV, Try.ntmps66, Try.results66,  hC.cn])
    exact finS _ u ⟨_, u.sh, u.st⟩ _ _ _ _ (by omega) (by omega) ⟨k1, k2⟩ ⟨k1, k2⟩ (by omega) (by rw [hC.at']; rfl)
  · repeat' (first | with_reducible first | refine kI (by kernel_rfl) ?_ | (first | refine kB1 ?_ ?_ | refine kB2 ?_ ?_) <;> intro hp | (first | refine kD1 ?_ ?_ | refine kD2 ?_ ?_ | refine kS1 ?_ ?_ | refine kS2 ?_ ?_) <;> intro hp <;> try simp only [hp] | simp -implicitDefEqProofs (disch := omega) only [go_sem, Nat.reduceAdd, Nat.reduceSub, reduceCtorEq, Nat.reduceLT, Nat.reduceLeDiff, Nat.reduceEqDiff, Nat.reduceMul, Int.reduceToNat, ↓reduceIte, List.take_of_length_le, if_pos, if_neg, List.getElem?_set_self, List.set_set, cnE, cnV, Try.ntmps66, Try.results66,  hC.cn])
    refine DrawQ.any2 [([0, 1, 2, 3], 4, [0, 1, 2]), ([5, 6], 7, [])] [] [0, 1, 2] (by kernel_rfl) ?_
    repeat' (first | with_reducible first | refine kI (by kernel_rfl) ?_ | (first | refine kB1 ?_ ?_ | refine kB2 ?_ ?_) <;> intro hp | (first | refine kD1 ?_ ?_ | refine kD2 ?_ ?_ | refine kS1 ?_ ?_ | refine kS2 ?_ ?_) <;> intro hp <;> try simp only [hp] | simp -implicitDefEqProofs (disch := omega) only [go_sem, Nat.reduceAdd, Nat.reduceSub, reduceCtorEq, Nat.reduceLT, Nat.reduceLeDiff, Nat.reduceEqDiff, Nat.reduceMul, Int.reduceToNat, ↓reduceIte, List.take_of_length_le, if_pos, if_neg, List.getElem?_set_self, List.set_set, cnE, cnV, Try.ntmps66, Try.results66,  hC.cn, h0, opQ_none])
    refine InlK_intro rfl rfl can_pick ((isp_pick hS (hC.app _) hb _ (by omega) 3 (by omega)).mono ?_)
    rintro r L1 ⟨y, rfl, -, -, rfl⟩
    repeat' (first | with_reducible first | refine kI (by kernel_rfl) ?_ | (first | refine kB1 ?_ ?_ | refine kB2 ?_ ?_) <;> intro hp | (first | refine kD1 ?_ ?_ | refine kD2 ?_ ?_ | refine kS1 ?_ ?_ | refine kS2 ?_ ?_) <;> intro hp <;> try simp only [hp] | simp -implicitDefEqProofs (disch := omega) only [go_sem, Nat.reduceAdd, Nat.reduceSub, reduceCtorEq, Nat.reduceLT, Nat.reduceLeDiff, Nat.reduceEqDiff, Nat.reduceMul, Int.reduceToNat, ↓reduceIte, List.take_of_length_le, if_pos, if_neg, List.getElem?_set_self, List.set_set, cnE, cnV, Try.ntmps66, Try.results66,  hC.cn])
    refine DrawQ.any [([0, 1], 2), ([], 3)] [] [1] (by kernel_rfl) ?_
    repeat' (first | with_reducible first | refine kI (by kernel_rfl) ?_ | (first | refine kB1 ?_ ?_ | refine kB2 ?_ ?_) <;> intro hp | (first | refine kD1 ?_ ?_ | refine kD2 ?_ ?_ | refine kS1 ?_ ?_ | refine kS2 ?_ ?_) <;> intro hp <;> try simp only [hp] | simp -implicitDefEqProofs (disch := omega) only [go_sem, Nat.reduceAdd, Nat.reduceSub, reduceCtorEq, Nat.reduceLT, Nat.reduceLeDiff, Nat.reduceEqDiff, Nat.reduceMul, Int.reduceToNat, ↓reduceIte, List.take_of_length_le, if_pos, if_neg, List.getElem?_set_self, List.set_set, cnE, cnV, Try.ntmps66, Try.results66,  hC.cn])
    exact finS _ ⟨_, u.sh, u.st⟩ u _ _ _ _ (by omega) (by omega) ⟨k1, k2⟩ ⟨k1, k2⟩ (by omega) (by rw [hC.at']; rfl)
  · by_cases h0' : (0 : Int) < (u.sh.length : Int)
    · repeat' (first | with_reducible first | refine kI (by kernel_rfl) ?_ | (first | refine kB1 ?_ ?_ | refine kB2 ?_ ?_) <;> intro hp | (first | refine kD1 ?_ ?_ | refine kD2 ?_ ?_ | refine kS1 ?_ ?_ | refine kS2 ?_ ?_) <;> intro hp <;> try simp only [hp] | simp -implicitDefEqProofs (disch := omega) only [go_sem, Nat.reduceAdd, Nat.reduceSub, reduceCtorEq, Nat.reduceLT, Nat.reduceLeDiff, Nat.reduceEqDiff, Nat.reduceMul, Int.reduceToNat, ↓reduceIte, List.take_of_length_le, if_pos, if_neg, List.getElem?_set_self, List.set_set, cnE, cnV, Try.ntmps66, Try.results66,  hC.cn, h0'])
      refine DrawQ.pend 10 25 [([0, 1, 2, 3, 4], 5, [0]), ([], 6, [0]), ([7, 8, 9, 10], 11, [0, 9])] [12] [0, 9] rfl (by kernel_rfl) ?_
      repeat' (first | with_reducible first | refine kI (by kernel_rfl) ?_ | (first | refine kB1 ?_ ?_ | refine kB2 ?_ ?_) <;> intro hp | (first | refine kD1 ?_ ?_ | refine kD2 ?_ ?_ | refine kS1 ?_ ?_ | refine kS2 ?_ ?_) <;> intro hp <;> try simp only [hp] | simp -implicitDefEqProofs (disch := omega) only [go_sem, Nat.reduceAdd, Nat.reduceSub, reduceCtorEq, Nat.reduceLT, Nat.reduceLeDiff, Nat.reduceEqDiff, Nat.reduceMul, Int.reduceToNat, ↓reduceIte, List.take_of_length_le, if_pos, if_neg, List.getElem?_set_self, List.set_set, cnE, cnV, Try.ntmps66, Try.results66,  hC.cn, h0, opQ_none])
      refine InlK_intro rfl rfl can_pick ((isp_pick hS (hC.app _) hb _ (by omega) u.sh.length (by omega)).mono ?_)
      rintro r L1 ⟨d, rfl, -, -, rfl⟩
      repeat' (first | with_reducible first | refine kI (by kernel_rfl) ?_ | (first | refine kB1 ?_ ?_ | refine kB2 ?_ ?_) <;> intro hp | (first | refine kD1 ?_ ?_ | refine kD2 ?_ ?_ | refine kS1 ?_ ?_ | refine kS2 ?_ ?_) <;> intro hp <;> try simp only [hp] | simp -implicitDefEqProofs (disch := omega) only [go_sem, Nat.reduceAdd, Nat.reduceSub, reduceCtorEq, Nat.reduceLT, Nat.reduceLeDiff, Nat.reduceEqDiff, Nat.reduceMul, Int.reduceToNat, ↓reduceIte, List.take_of_length_le, if_pos, if_neg, List.getElem?_set_self, List.set_set, cnE, cnV, Try.ntmps66, Try.results66,  hC.cn, h4, opQ_none])
      refine InlK_intro rfl rfl can_FlipDim ((frz_md (hfl u d ⟨k1, k2⟩) _ _ (by simp only [go_sem, ints])).mono ?_)
      rintro r L1 ho
      rcases ho with ⟨ho, rfl, rfl⟩ | ⟨w, ho, rfl, rfl⟩
      · repeat' (first | with_reducible first | refine kI (by kernel_rfl) ?_ | (first | refine kB1 ?_ ?_ | refine kB2 ?_ ?_) <;> intro hp | (first | refine kD1 ?_ ?_ | refine kD2 ?_ ?_ | refine kS1 ?_ ?_ | refine kS2 ?_ ?_) <;> intro hp <;> try simp only [hp] | simp -implicitDefEqProofs (disch := omega) only [go_sem, Nat.reduceAdd, Nat.reduceSub, reduceCtorEq, Nat.reduceLT, Nat.reduceLeDiff, Nat.reduceEqDiff, Nat.reduceMul, Int.reduceToNat, ↓reduceIte, List.take_of_length_le, if_pos, if_neg, List.getElem?_set_self, List.set_set, cnE, cnV, Try.ntmps66, Try.results66,  hC.cn, hnn])
        refine DrawQ.any [([0, 1], 2), ([], 3)] [] [1] (by kernel_rfl) ?_
        repeat' (first | with_reducible first | refine kI (by kernel_rfl) ?_ | (first | refine kB1 ?_ ?_ | refine kB2 ?_ ?_) <;> intro hp | (first | refine kD1 ?_ ?_ | refine kD2 ?_ ?_ | refine kS1 ?_ ?_ | refine kS2 ?_ ?_) <;> intro hp <;> try simp only [hp] | simp -implicitDefEqProofs (disch := omega) only [go_sem, Nat.reduceAdd, Nat.reduceSub, reduceCtorEq, Nat.reduceLT, Nat.reduceLeDiff, Nat.reduceEqDiff, Nat.reduceMul, Int.reduceToNat, ↓reduceIte, List.take_of_length_le, if_pos, if_neg, List.getElem?_set_self, List.set_set, cnE, cnV, Try.ntmps66, Try.results66,  hC.cn])
        exact finS _ u u _ _ _ _ (by omega) (by omega) ⟨k1, k2⟩ ⟨k1, k2⟩ (by omega) (by rw [hC.at']; rfl)
      · have hw := viewOK_iff.1 (sliF_ok ho)
        have hw4 := (shape_facts hw.1).1
        have hw5 := hw.2.1
        repeat' (first | with_reducible first | refine kI (by kernel_rfl) ?_ | (first | refine kB1 ?_ ?_ | refine kB2 ?_ ?_) <;> intro hp | (first | refine kD1 ?_ ?_ | refine kD2 ?_ ?_ | refine kS1 ?_ ?_ | refine kS2 ?_ ?_) <;> intro hp <;> try simp only [hp] | simp -implicitDefEqProofs (disch := omega) only [go_sem, Nat.reduceAdd, Nat.reduceSub, reduceCtorEq, Nat.reduceLT, Nat.reduceLeDiff, Nat.reduceEqDiff, Nat.reduceMul, Int.reduceToNat, ↓reduceIte, List.take_of_length_le, if_pos, if_neg, List.getElem?_set_self, List.set_set, cnE, cnV, Try.ntmps66, Try.results66,  hC.cn, hnn])
        refine DrawQ.any [([0, 1], 2), ([], 3)] [] [1] (by kernel_rfl) ?_
        repeat' (first | with_reducible first | refine kI (by kernel_rfl) ?_ | (first | refine kB1 ?_ ?_ | refine kB2 ?_ ?_) <;> intro hp | (first | refine kD1 ?_ ?_ | refine kD2 ?_ ?_ | refine kS1 ?_ ?_ | refine kS2 ?_ ?_) <;> intro hp <;> try simp only [hp] | simp -implicitDefEqProofs (disch := omega) only [go_sem, Nat.reduceAdd, Nat.reduceSub, reduceCtorEq, Nat.reduceLT, Nat.reduceLeDiff, Nat.reduceEqDiff, Nat.reduceMul, Int.reduceToNat, ↓reduceIte, List.take_of_length_le, if_pos, if_neg, List.getElem?_set_self, List.set_set, cnE, cnV, Try.ntmps66, Try.results66,  hC.cn])
        exact finS _ u w _ _ _ _ (by omega) (by omega) ⟨k1, k2⟩ ⟨hw4, by omega⟩ (by omega) (by rw [hC.at']; rfl)
    · repeat' (first | with_reducible first | refine kI (by kernel_rfl) ?_ | (first | refine kB1 ?_ ?_ | refine kB2 ?_ ?_) <;> intro hp | (first | refine kD1 ?_ ?_ | refine kD2 ?_ ?_ | refine kS1 ?_ ?_ | refine kS2 ?_ ?_) <;> intro hp <;> try simp only [hp] | simp -implicitDefEqProofs (disch := omega) only [go_sem, Nat.reduceAdd, Nat.reduceSub, reduceCtorEq, Nat.reduceLT, Nat.reduceLeDiff, Nat.reduceEqDiff, Nat.reduceMul, Int.reduceToNat, ↓reduceIte, List.take_of_length_le, if_pos, if_neg, List.getElem?_set_self, List.set_set, cnE, cnV, Try.ntmps66, Try.results66,  hC.cn, h0'])
      refine DrawQ.any [([0, 1], 2), ([], 3)] [] [1] (by kernel_rfl) ?_
      repeat' (first | with_reducible first | refine kI (by kernel_rfl) ?_ | (first | refine kB1 ?_ ?_ | refine kB2 ?_ ?_) <;> intro hp | (first | refine kD1 ?_ ?_ | refine kD2 ?_ ?_ | refine kS1 ?_ ?_ | refine kS2 ?_ ?_) <;> intro hp <;> try simp only [hp] | simp -implicitDefEqProofs (disch := omega) only [go_sem, Nat.reduceAdd, Nat.reduceSub, reduceCtorEq, Nat.reduceLT, Nat.reduceLeDiff, Nat.reduceEqDiff, Nat.reduceMul, Int.reduceToNat, ↓reduceIte, List.take_of_length_le, if_pos, if_neg, List.getElem?_set_self, List.set_set, cnE, cnV, Try.ntmps66, Try.results66,  hC.cn])
      exact finS _ u u _ _ _ _ (by omega) (by omega) ⟨k1, k2⟩ ⟨k1, k2⟩ (by omega) (by rw [hC.at']; rfl)
  · by_cases h0' : (0 : Int) < (u.st.length : Int) ∧ (u.st.length : Int) = (u.sh.length : Int)
    · obtain ⟨h0a, h0b⟩ := h0'
      have h0c : ((u.st.length : Int) == (u.sh.length : Int)) = true := beq_t h0b
      repeat' (first | with_reducible first | refine kI (by kernel_rfl) ?_ | (first | refine kB1 ?_ ?_ | refine kB2 ?_ ?_) <;> intro hp | (first | refine kD1 ?_ ?_ | refine kD2 ?_ ?_ | refine kS1 ?_ ?_ | refine kS2 ?_ ?_) <;> intro hp <;> try simp only [hp] | simp -implicitDefEqProofs (disch := omega) only [go_sem, Nat.reduceAdd, Nat.reduceSub, reduceCtorEq, Nat.reduceLT, Nat.reduceLeDiff, Nat.reduceEqDiff, Nat.reduceMul, Int.reduceToNat, ↓reduceIte, List.take_of_length_le, if_pos, if_neg, List.getElem?_set_self, List.set_set, cnE, cnV, Try.ntmps66, Try.results66,  hC.cn, h0a, h0c])
      refine DrawQ.any [([0, 1, 2, 3], 4), ([5], 6)] [] [0, 1] (by kernel_rfl) ?_
      repeat' (first | with_reducible first | refine kI (by kernel_rfl) ?_ | (first | refine kB1 ?_ ?_ | refine kB2 ?_ ?_) <;> intro hp | (first | refine kD1 ?_ ?_ | refine kD2 ?_ ?_ | refine kS1 ?_ ?_ | refine kS2 ?_ ?_) <;> intro hp <;> try simp only [hp] | simp -implicitDefEqProofs (disch := omega) only [go_sem, Nat.reduceAdd, Nat.reduceSub, reduceCtorEq, Nat.reduceLT, Nat.reduceLeDiff, Nat.reduceEqDiff, Nat.reduceMul, Int.reduceToNat, ↓reduceIte, List.take_of_length_le, if_pos, if_neg, List.getElem?_set_self, List.set_set, cnE, cnV, Try.ntmps66, Try.results66,  hC.cn, h1, opQ_none])
      refine InlK_intro rfl rfl can_one ((isp_one hS h0 (hC.app _) hb _ (by omega) 2 [0, 1, 2, 3] (by decide)).mono ?_)
      rintro r L1 ⟨x, rfl, -, rfl⟩
      have htk2 : List.take u.st.length (u.st.set 0 x) = u.st.set 0 x := List.take_of_length_le (by simp)
      repeat' (first | with_reducible first | refine kI (by kernel_rfl) ?_ | (first | refine kB1 ?_ ?_ | refine kB2 ?_ ?_) <;> intro hp | (first | refine kD1 ?_ ?_ | refine kD2 ?_ ?_ | refine kS1 ?_ ?_ | refine kS2 ?_ ?_) <;> intro hp <;> try simp only [hp] | simp -implicitDefEqProofs (disch := omega) only [go_sem, Nat.reduceAdd, Nat.reduceSub, reduceCtorEq, Nat.reduceLT, Nat.reduceLeDiff, Nat.reduceEqDiff, Nat.reduceMul, Int.reduceToNat, ↓reduceIte, List.take_of_length_le, if_pos, if_neg, List.getElem?_set_self, List.set_set, cnE, cnV, Try.ntmps66, Try.results66,  hC.cn, map_setI, htk2])
      refine DrawQ.any [([0, 1], 2), ([], 3)] [] [1] (by kernel_rfl) ?_
      repeat' (first | with_reducible first | refine kI (by kernel_rfl) ?_ | (first | refine kB1 ?_ ?_ | refine kB2 ?_ ?_) <;> intro hp | (first | refine kD1 ?_ ?_ | refine kD2 ?_ ?_ | refine kS1 ?_ ?_ | refine kS2 ?_ ?_) <;> intro hp <;> try simp only [hp] | simp -implicitDefEqProofs (disch := omega) only [go_sem, Nat.reduceAdd, Nat.reduceSub, reduceCtorEq, Nat.reduceLT, Nat.reduceLeDiff, Nat.reduceEqDiff, Nat.reduceMul, Int.reduceToNat, ↓reduceIte, List.take_of_length_le, if_pos, if_neg, List.getElem?_set_self, List.set_set, cnE, cnV, Try.ntmps66, Try.results66,  hC.cn, map_setI, htk2])
      exact hC.ret0 ⟨u, ⟨u.b, u.sh, u.st.set 0 x⟩, _, ⟨⟨k1, k2⟩, k1, by dsimp only; rw [List.length_set]; exact k2⟩, fr_twoS (v := ⟨u.b, u.sh, u.st.set 0 x⟩) (k := n + 3) (by omega) List.length_set (by rw [hC.at']; rfl), by omega, by omega, rfl⟩
    · repeat' (first | with_reducible first | refine kI (by kernel_rfl) ?_ | (first | refine kB1 ?_ ?_ | refine kB2 ?_ ?_) <;> intro hp | (first | refine kD1 ?_ ?_ | refine kD2 ?_ ?_ | refine kS1 ?_ ?_ | refine kS2 ?_ ?_) <;> intro hp <;> try simp only [hp] | simp -implicitDefEqProofs (disch := omega) only [go_sem, Nat.reduceAdd, Nat.reduceSub, reduceCtorEq, Nat.reduceLT, Nat.reduceLeDiff, Nat.reduceEqDiff, Nat.reduceMul, Int.reduceToNat, ↓reduceIte, List.take_of_length_le, if_pos, if_neg, List.getElem?_set_self, List.set_set, cnE, cnV, Try.ntmps66, Try.results66,  hC.cn])
      all_goals
        refine DrawQ.any [([0, 1], 2), ([], 3)] [] [1] (by kernel_rfl) ?_
        repeat' (first | with_reducible first | refine kI (by kernel_rfl) ?_ | (first | refine kB1 ?_ ?_ | refine kB2 ?_ ?_) <;> intro hp | (first | refine kD1 ?_ ?_ | refine kD2 ?_ ?_ | refine kS1 ?_ ?_ | refine kS2 ?_ ?_) <;> intro hp <;> try simp only [hp] | simp -implicitDefEqProofs (disch := omega) only [go_sem, Nat.reduceAdd, Nat.reduceSub, reduceCtorEq, Nat.reduceLT, Nat.reduceLeDiff, Nat.reduceEqDiff, Nat.reduceMul, Int.reduceToNat, ↓reduceIte, List.take_of_length_le, if_pos, if_neg, List.getElem?_set_self, List.set_set, cnE, cnV, Try.ntmps66, Try.results66,  hC.cn])
        exact finS _ u u _ _ _ _ (by omega) (by omega) ⟨k1, k2⟩ ⟨k1, k2⟩ (by omega) (by rw [hC.at']; rfl)
  · repeat' (first | with_reducible first | refine kI (by kernel_rfl) ?_ | (first | refine kB1 ?_ ?_ | refine kB2 ?_ ?_) <;> intro hp | (first | refine kD1 ?_ ?_ | refine kD2 ?_ ?_ | refine kS1 ?_ ?_ | refine kS2 ?_ ?_) <;> intro hp <;> try simp only [hp] | simp -implicitDefEqProofs (disch := omega) only [go_sem, Nat.reduceAdd, Nat.reduceSub, reduceCtorEq, Nat.reduceLT, Nat.reduceLeDiff, Nat.reduceEqDiff, Nat.reduceMul, Int.reduceToNat, ↓reduceIte, List.take_of_length_le, if_pos, if_neg, List.getElem?_set_self, List.set_set, cnE, cnV, Try.ntmps66, Try.results66,  hC.cn, h2, opQ_none])
    refine InlK_intro rfl rfl can_someView ((hsv (hC.app _) hb _ (by omega)).mono ?_)
    rintro r L1 ⟨v, p2, k5, k6, rfl, k7, k8, rfl⟩
    repeat' (first | with_reducible first | refine kI (by kernel_rfl) ?_ | (first | refine kB1 ?_ ?_ | refine kB2 ?_ ?_) <;> intro hp | (first | refine kD1 ?_ ?_ | refine kD2 ?_ ?_ | refine kS1 ?_ ?_ | refine kS2 ?_ ?_) <;> intro hp <;> try simp only [hp] | simp -implicitDefEqProofs (disch := omega) only [go_sem, Nat.reduceAdd, Nat.reduceSub, reduceCtorEq, Nat.reduceLT, Nat.reduceLeDiff, Nat.reduceEqDiff, Nat.reduceMul, Int.reduceToNat, ↓reduceIte, List.take_of_length_le, if_pos, if_neg, List.getElem?_set_self, List.set_set, cnE, cnV, Try.ntmps66, Try.results66,  hC.cn])
    refine DrawQ.any [([0, 1], 2), ([], 3)] [] [1] (by kernel_rfl) ?_
    repeat' (first | with_reducible first | refine kI (by kernel_rfl) ?_ | (first | refine kB1 ?_ ?_ | refine kB2 ?_ ?_) <;> intro hp | (first | refine kD1 ?_ ?_ | refine kD2 ?_ ?_ | refine kS1 ?_ ?_ | refine kS2 ?_ ?_) <;> intro hp <;> try simp only [hp] | simp -implicitDefEqProofs (disch := omega) only [go_sem, Nat.reduceAdd, Nat.reduceSub, reduceCtorEq, Nat.reduceLT, Nat.reduceLeDiff, Nat.reduceEqDiff, Nat.reduceMul, Int.reduceToNat, ↓reduceIte, List.take_of_length_le, if_pos, if_neg, List.getElem?_set_self, List.set_set, cnE, cnV, Try.ntmps66, Try.results66,  hC.cn])
    exact fin _ u v _ _ _ (by omega) (by omega) ⟨k1, k2⟩ ⟨k5, k6⟩
def CopyOfV : Prop := ∀ {bs : List UInt8} {b n : Nat} {rL : Int → List Blk} (hC : RC bs b n rL) (hb : bs.length ≤ 2000) (p : Int) (hp : 0 ≤ p ∧ p ≤ 700000000), ISpec Try.prog 66 [.ptr b 1 0 0] (rL p) fun r L' => ∃ (u v : Vi) (p' : Int), (viOK u ∧ viOK v) ∧ r = .tup [viD u, viD v] ∧ p ≤ p' ∧ p' ≤ p + 500 ∧ L' = rL p'
theorem can_copyOf_DrawWayOf : CanCall Try.prog 66 := ⟨_, Try.func66, rfl, rfl⟩
set_option maxHeartbeats 4000000 in
set_option maxRecDepth 100000 in
theorem isp_DrawWayOf {Sg : FuncId → Option (List AV → Option AV)} (hS : Sound Try.prog Sg) (h6 : Sg 48 = none) (h7 : Sg 66 = none) (bs : List UInt8) (hb : bs.length ≤ 1048576) (L : List Blk) (hvo : CopyOfV) : ISpec Try.prog 22 [bytesA 0 bs] (L) (fun r L' => ∃ a b : Vi, ((a.sh.length ≤ 4 ∧ a.st.length ≤ 5) ∧ (b.sh.length ≤ 4 ∧ b.st.length ≤ 5)) ∧ r = .tup [viD a, viD b] ∧ L' = L) := by
  refine ISpec.ret Try.func22 rfl (vc3_sound Try.pf hS hS _ _ _ ?_)
  repeat' (first | with_reducible first | refine kI (by kernel_rfl) ?_ | refine kN (by kernel_rfl) ?_ | (first | refine kB1 ?_ ?_ | refine kB2 ?_ ?_) <;> intro hp | (first | refine kD1 ?_ ?_ | refine kD2 ?_ ?_ | refine kS1 ?_ ?_ | refine kS2 ?_ ?_) <;> intro hp <;> try simp only [hp] | simp -implicitDefEqProofs (disch := omega) only [go_sem, Nat.reduceAdd, Nat.reduceSub, reduceCtorEq, Nat.reduceLT, Nat.reduceLeDiff, Nat.reduceEqDiff, Nat.reduceMul, Int.reduceToNat, ↓reduceIte, List.take_of_length_le, if_pos, if_neg, List.getElem?_set_self, List.set_set, cnE, cnV, Try.ntmps22, Try.results22,  h6, opQ_none])
  refine InlK_intro rfl rfl can_newRd ((isp_newReader hS bs hb _).mono ?_)
  rintro r L1 ⟨rfl, rfl⟩
  repeat' (first | with_reducible first | refine kI (by kernel_rfl) ?_ | refine kN (by kernel_rfl) ?_ | (first | refine kB1 ?_ ?_ | refine kB2 ?_ ?_) <;> intro hp | (first | refine kD1 ?_ ?_ | refine kD2 ?_ ?_ | refine kS1 ?_ ?_ | refine kS2 ?_ ?_) <;> intro hp <;> try simp only [hp] | simp -implicitDefEqProofs (disch := omega) only [go_sem, Nat.reduceAdd, Nat.reduceSub, reduceCtorEq, Nat.reduceLT, Nat.reduceLeDiff, Nat.reduceEqDiff, Nat.reduceMul, Int.reduceToNat, ↓reduceIte, List.take_of_length_le, if_pos, if_neg, List.getElem?_set_self, List.set_set, cnE, cnV, Try.ntmps22, Try.results22,  h7, opQ_none])
  refine InlK_intro rfl rfl can_copyOf_DrawWayOf ((hvo (RC.new2 (bs.take 2000) L _ _) (by simp; omega) 0 (by omega)).mono ?_)
  rintro r L1 ⟨u, v, p', ⟨k1, k2⟩, rfl, m1, m2, rfl⟩
  repeat' (first | with_reducible first | refine kI (by kernel_rfl) ?_ | refine kN (by kernel_rfl) ?_ | (first | refine kB1 ?_ ?_ | refine kB2 ?_ ?_) <;> intro hp | (first | refine kD1 ?_ ?_ | refine kD2 ?_ ?_ | refine kS1 ?_ ?_ | refine kS2 ?_ ?_) <;> intro hp <;> try simp only [hp] | simp -implicitDefEqProofs (disch := omega) only [go_sem, Nat.reduceAdd, Nat.reduceSub, reduceCtorEq, Nat.reduceLT, Nat.reduceLeDiff, Nat.reduceEqDiff, Nat.reduceMul, Int.reduceToNat, ↓reduceIte, List.take_of_length_le, if_pos, if_neg, List.getElem?_set_self, List.set_set, cnE, cnV, Try.ntmps22, Try.results22])
  exact RetQ.top ⟨u, v, ⟨k1, k2⟩, fr_two, rfl⟩
end Go.Proofs.Ytgpflkmelindfaa
