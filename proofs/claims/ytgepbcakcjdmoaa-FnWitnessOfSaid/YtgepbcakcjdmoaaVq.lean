/- Contracts of functions that the laws of this seat call. -/
import Derived.Test.YtgepbcakcjdmoaaVp
set_option linter.all false
namespace Go.Proofs.Ytgepbcakcjdmoaa
open Go Go.Ev Go.RowKit Go.Ev.Enc Go.Pl

/-! ### gaps -/
def gapP (c : List Int) (y : Int) : Bool := decide (c.getD 0 0 ≤ y) && !c.contains y
def gapT (c : List Int) (n : Nat) : List Int := (upV n).filter (gapP c)
def gapF (c : List Int) : List Int := if c.length = 0 then [] else gapT c ((c.getD (c.length - 1) 0).toNat + 1)
theorem gapT_y {c : List Int} {k : Nat} (h : gapP c k = true) : gapT c k ++ [(k : Int)] = gapT c (k + 1) := by
  unfold gapT
  rw [← upV_snoc, List.filter_append]
  simp [h]
theorem gapT_n {c : List Int} {k : Nat} (h : gapP c k = false) : gapT c (k + 1) = gapT c k := by
  unfold gapT
  rw [← upV_snoc, List.filter_append]
  simp [h]
theorem gapT_len (c : List Int) (n : Nat) : (gapT c n).length ≤ n := by
  have := List.length_filter_le (gapP c) (upV n)
  rw [upV_len] at this
  exact this
theorem asc_at {c : List Int} (h : c.Pairwise (· < ·)) {i j : Nat} (hij : i < j) (hj : j < c.length) : c.getD i 0 < c.getD j 0 := by
  have := List.pairwise_iff_getElem.1 h i j (by omega) hj hij
  rw [List.getD_eq_getElem?_getD, List.getElem?_eq_getElem (by omega), Option.getD_some, List.getD_eq_getElem?_getD, List.getElem?_eq_getElem hj, Option.getD_some]
  exact this
theorem asc_lt {c : List Int} (h : c.Pairwise (· < ·)) {i j : Nat} (hi : i < c.length) (hlt : c.getD i 0 < c.getD j 0) (hj : j < c.length) : i < j := by
  rcases Nat.lt_trichotomy i j with e | e | e
  · exact e
  · subst e; omega
  · have := asc_at h e hi; omega
theorem betw_n {c : List Int} (h : c.Pairwise (· < ·)) {k : Nat} (hk : k + 1 < c.length) {y : Int} (h1 : c.getD k 0 < y) (h2 : y < c.getD (k + 1) 0) : gapP c y = true := by
  have hn : ¬ y ∈ c := fun hm => by
    obtain ⟨i, hi, e⟩ := mem_dropI (m := 0).1 (by rwa [List.drop_zero])
    obtain ⟨hi, e⟩ := e
    have a1 := asc_lt h (i := k) (j := i) (by omega) (by omega) hi
    have a2 := asc_lt h (i := i) (j := k + 1) hi (by omega) hk
    omega
  have h0 : c.getD 0 0 ≤ c.getD k 0 := by
    by_cases h0 : k = 0
    · subst h0; exact Int.le_refl _
    · have := asc_at h (i := 0) (j := k) (by omega) (by omega); omega
  unfold gapP
  rw [decide_eq_true (by omega), Bool.true_and, Bool.not_eq_true', ← Bool.not_eq_true, List.contains_iff_mem]
  exact hn
theorem gapP_mem {c : List Int} {y : Int} (h : y ∈ c) : gapP c y = false := by
  unfold gapP
  rw [List.contains_iff_mem.2 h]; simp
theorem gapT_0 {c : List Int} (hin : inC c) (h0 : 0 < c.length) : gapT c ((c.getD 0 0).toNat + 1) = [] := by
  have hc := hin _ (gmem h0)
  rw [gapT_n (gapP_mem (by rw [show (((c.getD 0 0).toNat : Nat) : Int) = c.getD 0 0 from by omega]; exact gmem h0))]
  unfold gapT
  rw [List.filter_eq_nil_iff]
  intro y hy
  have := upV_mem.1 hy
  unfold gapP
  simp only [Bool.and_eq_true, decide_eq_true_eq]
  omega
def gGap (v : Vi) : Option (List Int) := gd (viB v) (if viewOK v = true then gapF (srt (offF v)) else [])
theorem gGap_eq {v : Vi} (h : viB v) : gGap v = some (if viewOK v = true then gapF (srt (offF v)) else []) := gd_eq h
theorem srt_in60 {A : List Int} (h : inC A) : inC (srt A) := fun x hx => h x ((srt_mem A x).1 hx)
set_option maxHeartbeats 4000000 in
set_option maxRecDepth 100000 in
theorem spec_GapsOfS {Sg : FuncId → Option (List AV → Option AV)} (hS : Sound Try.prog Sg) (hv : Sg 65 = some (F1 gValidV)) (hc : Sg 75 = some (F1 gUsed)) : ∀ a r, F1 gGap a = some r → CSpec Try.prog 49 a r := by
  refine F1_spec ?_
  intro v r hr
  obtain ⟨h, rfl⟩ := gd_some hr
  refine CSpec.intro Try.func49 rfl (own _) (vc3_sound Try.pf hS hS _ _ _ ?_)
  have q1 := gValidV_eq (v := v) h
  cases e1 : viewOK v with
  | false =>
    rw [e1] at q1
    rw [if_neg (by simp)]
    repeat' (first | with_reducible first | refine kI (by kernel_rfl) ?_ | refine kN (by kernel_rfl) ?_ | (first | refine kB1 ?_ ?_ | refine kB2 ?_ ?_) <;> intro hp | (first | refine kD1 ?_ ?_ | refine kD2 ?_ ?_ | refine kS1 ?_ ?_ | refine kS2 ?_ ?_) <;> intro hp <;> try simp only [hp] | simp -implicitDefEqProofs (disch := omega) only [go_sem, Nat.reduceAdd, Nat.reduceSub, reduceCtorEq, Nat.reduceLT, Nat.reduceLeDiff, Nat.reduceEqDiff, Nat.reduceMul, Int.reduceToNat, ↓reduceIte, List.take_of_length_le, if_pos, if_neg, List.getElem?_set_self, List.set_set, cnE, cnV, Try.ntmps49, Try.results49,  hv, q1])
  | true =>
    rw [e1] at q1
    rw [if_pos rfl]
    obtain ⟨k1, k2, _⟩ := viewOK_iff.1 e1
    have h6 := offF_60 k1
    have q2 := gUsed_eq (v := v) ⟨k1, k2⟩
    have q3 := srt_both (offF_in e1)
    have hl := srt_len (offF v)
    have hs := srt_asc (offF v)
    have hin := srt_in60 (offF_in e1)
    repeat' (first | with_reducible first | refine kI (by kernel_rfl) ?_ | refine kN (by kernel_rfl) ?_ | (first | refine kB1 ?_ ?_ | refine kB2 ?_ ?_) <;> intro hp | (first | refine kD1 ?_ ?_ | refine kD2 ?_ ?_ | refine kS1 ?_ ?_ | refine kS2 ?_ ?_) <;> intro hp <;> try simp only [hp] | simp -implicitDefEqProofs (disch := omega) only [go_sem, Nat.reduceAdd, Nat.reduceSub, reduceCtorEq, Nat.reduceLT, Nat.reduceLeDiff, Nat.reduceEqDiff, Nat.reduceMul, Int.reduceToNat, ↓reduceIte, List.take_of_length_le, if_pos, if_neg, List.getElem?_set_self, List.set_set, cnE, cnV, Try.ntmps49, Try.results49,  hv, q1, hc, q2, ← q3])
    generalize srt (offF v) = c at *
    generalize offF v = A at *
    refine LoopQ.mix (fun t0 L0 nn ss => ∃ (k : Nat) (q : List Int) (m : Nat) (_ : Unit), (∃ x : Nat → AV, ss = ⟨mixL 0 (.k :: .k :: .k :: .v (.sl 1 m 0 m m) :: .k :: .v (i64 ((k : Nat) + 1)) :: .s :: .k :: .k :: .k :: .k :: .k :: .k :: .s :: .s :: .s :: .s :: .s :: .s :: .s :: .s :: .s :: .s :: .s :: .s :: .s :: .s :: .s :: .s :: .s :: .s :: .s :: .s :: .s :: .s :: .s :: .s :: .k :: []) t0 x, [viB0 v, ⟨1, q.map fun n => .int .i64 n⟩]⟩) ∧ (k + 1 ≤ c.length ∨ k = 0) ∧ (q.length = m) ∧ (q = (if c.length = 0 then [] else gapT c ((c.getD k 0).toNat + 1))) ∧ nn = c.length - (k + 1)) ?_ ?_
    · exact ⟨_, ⟨0, [], 0, (), mixI rfl, .inr rfl, rfl, by split; rfl; exact (gapT_0 hin (by omega)).symm, rfl⟩⟩
    · rintro I0 hI0 nn s ⟨k, q, m, _, ⟨x, rfl⟩, g1, g2, g3, rfl⟩
      by_cases hk : k + 1 < c.length
      · have hki : (k : Int) + 1 < (c.length : Int) := by omega
        rw [if_neg (by omega)] at g3
        have e1 : ((k : Int) + 1).toNat = k + 1 := by omega
        have c1 := hin _ (gmem (show k < c.length by omega))
        have c2 := hin _ (gmem hk)
        have c3 := asc_at hs (i := k) (by omega) hk
        have e2 : IntKind.i64.wrap ((k : Int) + 1 - 1) = (k : Int) := by rw [wrap_in (by omega)]; omega
        have e3 : IntKind.i64.wrap (c.getD k 0 + 1) = (((c.getD k 0).toNat + 1 : Nat) : Int) := by rw [wrap_in (by omega)]; omega
        repeat' (first | with_reducible first | refine kI (by kernel_rfl) ?_ | refine kN (by kernel_rfl) ?_ | (first | refine kB1 ?_ ?_ | refine kB2 ?_ ?_) <;> intro hp | (first | refine kD1 ?_ ?_ | refine kD2 ?_ ?_ | refine kS1 ?_ ?_ | refine kS2 ?_ ?_) <;> intro hp <;> try simp only [hp] | simp -implicitDefEqProofs (disch := omega) only [go_sem, Nat.reduceAdd, Nat.reduceSub, reduceCtorEq, Nat.reduceLT, Nat.reduceLeDiff, Nat.reduceEqDiff, Nat.reduceMul, Int.reduceToNat, ↓reduceIte, List.take_of_length_le, if_pos, if_neg, List.getElem?_set_self, List.set_set, cnE, cnV, Try.ntmps49, Try.results49,  hki, e1, e2, e3])
        refine LoopQ.mix (fun t0 L0 nn ss => ∃ (y : Nat) (q1 : List Int) (m1 : Nat) (_ : Unit), (∃ x : Nat → AV, ss = ⟨mixL 0 (.k :: .k :: .k :: .v (.sl 1 m1 0 m1 m1) :: .k :: .k :: .v (i64 (y : Nat)) :: .k :: .k :: .k :: .k :: .k :: .k :: .k :: .k :: .k :: .k :: .k :: .k :: .k :: .k :: .k :: .k :: .k :: .k :: .s :: .s :: .s :: .s :: .s :: .s :: .s :: .s :: .s :: .s :: .s :: .s :: .k :: []) t0 x, [viB0 v, ⟨1, q1.map fun n => .int .i64 n⟩]⟩) ∧ ((c.getD k 0).toNat + 1 ≤ y ∧ (y : Int) ≤ c.getD (k + 1) 0) ∧ (q1.length = m1) ∧ (q1 = gapT c y) ∧ nn = (c.getD (k + 1) 0).toNat - y) ?_ ?_
        · exact ⟨_, ⟨(c.getD k 0).toNat + 1, q, m, (), mixI rfl, ⟨Nat.le_refl _, by omega⟩, g2, g3, rfl⟩⟩
        · rintro I1 hI1 nn s ⟨y, q1, m1, _, ⟨x1, rfl⟩, ⟨f1, f2⟩, f3, f4, rfl⟩
          have hm60 : m1 ≤ 100 := by have := gapT_len c y; rw [← f4, f3] at this; omega
          by_cases hy : (y : Int) < c.getD (k + 1) 0
          · have hs1 := gapT_y (betw_n hs hk (y := y) (by omega) hy)
            rw [← f4] at hs1
            repeat' (first | with_reducible first | refine kI (by kernel_rfl) ?_ | refine kN (by kernel_rfl) ?_ | (first | refine kB1 ?_ ?_ | refine kB2 ?_ ?_) <;> intro hp | (first | refine kD1 ?_ ?_ | refine kD2 ?_ ?_ | refine kS1 ?_ ?_ | refine kS2 ?_ ?_) <;> intro hp <;> try simp only [hp] | simp -implicitDefEqProofs (disch := omega) only [go_sem, Nat.reduceAdd, Nat.reduceSub, reduceCtorEq, Nat.reduceLT, Nat.reduceLeDiff, Nat.reduceEqDiff, Nat.reduceMul, Int.reduceToNat, ↓reduceIte, List.take_of_length_le, if_pos, if_neg, List.getElem?_set_self, List.set_set, cnE, cnV, Try.ntmps49, Try.results49,  hki, e1, hy])
            exact ⟨(c.getD (k + 1) 0).toNat - (y + 1), by omega, hI1 _ _ ⟨y + 1, q1 ++ [(y : Int)], m1 + 1, (), mixI rfl, ⟨by omega, by omega⟩, by simp [f3], hs1, rfl⟩⟩
          · have hye : (y : Int) = c.getD (k + 1) 0 := by omega
            have e4 : IntKind.i64.wrap ((k : Int) + 1 + 1) = ((k + 1 : Nat) : Int) + 1 := by rw [wrap_in (by omega)]; omega
            repeat' (first | with_reducible first | refine kI (by kernel_rfl) ?_ | refine kN (by kernel_rfl) ?_ | (first | refine kB1 ?_ ?_ | refine kB2 ?_ ?_) <;> intro hp | (first | refine kD1 ?_ ?_ | refine kD2 ?_ ?_ | refine kS1 ?_ ?_ | refine kS2 ?_ ?_) <;> intro hp <;> try simp only [hp] | simp -implicitDefEqProofs (disch := omega) only [go_sem, Nat.reduceAdd, Nat.reduceSub, reduceCtorEq, Nat.reduceLT, Nat.reduceLeDiff, Nat.reduceEqDiff, Nat.reduceMul, Int.reduceToNat, ↓reduceIte, List.take_of_length_le, if_pos, if_neg, List.getElem?_set_self, List.set_set, cnE, cnV, Try.ntmps49, Try.results49,  hki, e1, hy, e4])
            exact ⟨c.length - (k + 1 + 1), by omega, hI0 _ _ ⟨k + 1, q1, m1, (), mixI rfl, .inl hk, f3, by
              rw [if_neg (by omega), f4, ← hye, Int.toNat_natCast, gapT_n (gapP_mem (by rw [hye]; exact gmem hk))], rfl⟩⟩
      · have hki : ¬ (k : Int) + 1 < (c.length : Int) := by omega
        repeat' (first | with_reducible first | refine kI (by kernel_rfl) ?_ | refine kN (by kernel_rfl) ?_ | (first | refine kB1 ?_ ?_ | refine kB2 ?_ ?_) <;> intro hp | (first | refine kD1 ?_ ?_ | refine kD2 ?_ ?_ | refine kS1 ?_ ?_ | refine kS2 ?_ ?_) <;> intro hp <;> try simp only [hp] | simp -implicitDefEqProofs (disch := omega) only [go_sem, Nat.reduceAdd, Nat.reduceSub, reduceCtorEq, Nat.reduceLT, Nat.reduceLeDiff, Nat.reduceEqDiff, Nat.reduceMul, Int.reduceToNat, ↓reduceIte, List.take_of_length_le, if_pos, if_neg, List.getElem?_set_self, List.set_set, cnE, cnV, Try.ntmps49, Try.results49,  hki])
        have hq : q = gapF c := by
          rw [g3]
          unfold gapF
          by_cases h0 : c.length = 0
          · rw [if_pos h0, if_pos h0]
          · rw [if_neg h0, if_neg h0, show c.length - 1 = k from by omega]
        rw [hq]
set_option maxHeartbeats 4000000 in
set_option maxRecDepth 100000 in
theorem spec_GapsOfI {Sg : FuncId → Option (List AV → Option AV)} (hS : Sound Try.prog Sg) (hv : Sg 63 = some (F1 gValidV)) (hc : Sg 72 = some (F1 gCells)) : ∀ a r, F1 gGap a = some r → CSpec Try.prog 48 a r := by
  refine F1_spec ?_
  intro v r hr
  obtain ⟨h, rfl⟩ := gd_some hr
  refine CSpec.intro Try.func48 rfl (own _) (vc3_sound Try.pf hS hS _ _ _ ?_)
  have q1 := gValidV_eq (v := v) h
  cases e1 : viewOK v with
  | false =>
    rw [e1] at q1
    rw [if_neg (by simp)]
    repeat' (first | with_reducible first | refine kI (by kernel_rfl) ?_ | refine kN (by kernel_rfl) ?_ | (first | refine kB1 ?_ ?_ | refine kB2 ?_ ?_) <;> intro hp | (first | refine kD1 ?_ ?_ | refine kD2 ?_ ?_ | refine kS1 ?_ ?_ | refine kS2 ?_ ?_) <;> intro hp <;> try simp only [hp] | simp -implicitDefEqProofs (disch := omega) only [go_sem, Nat.reduceAdd, Nat.reduceSub, reduceCtorEq, Nat.reduceLT, Nat.reduceLeDiff, Nat.reduceEqDiff, Nat.reduceMul, Int.reduceToNat, ↓reduceIte, List.take_of_length_le, if_pos, if_neg, List.getElem?_set_self, List.set_set, cnE, cnV, Try.ntmps48, Try.results48,  hv, q1])
  | true =>
    rw [e1] at q1
    rw [if_pos rfl]
    obtain ⟨k1, k2, _⟩ := viewOK_iff.1 e1
    have h6 := offF_60 k1
    have q2 := gCells_eq (v := v) ⟨k1, k2⟩
    have q3 := srt_both (offF_in e1)
    have hl := srt_len (offF v)
    have hs := srt_asc (offF v)
    have hin := srt_in60 (offF_in e1)
    repeat' (first | with_reducible first | refine kI (by kernel_rfl) ?_ | refine kN (by kernel_rfl) ?_ | (first | refine kB1 ?_ ?_ | refine kB2 ?_ ?_) <;> intro hp | (first | refine kD1 ?_ ?_ | refine kD2 ?_ ?_ | refine kS1 ?_ ?_ | refine kS2 ?_ ?_) <;> intro hp <;> try simp only [hp] | simp -implicitDefEqProofs (disch := omega) only [go_sem, Nat.reduceAdd, Nat.reduceSub, reduceCtorEq, Nat.reduceLT, Nat.reduceLeDiff, Nat.reduceEqDiff, Nat.reduceMul, Int.reduceToNat, ↓reduceIte, List.take_of_length_le, if_pos, if_neg, List.getElem?_set_self, List.set_set, cnE, cnV, Try.ntmps48, Try.results48,  hv, q1, hc, q2])
    generalize srt (offF v) = c at *
    generalize offF v = A at *
    refine LoopQ.mix (fun t0 L0 nn ss => ∃ (k : Nat) (q : List Int) (m : Nat) (_ : Unit), (∃ x : Nat → AV, ss = ⟨mixL 0 (.k :: .k :: .k :: .k :: .v (.sl 1 m 0 m m) :: .v (i64 ((k : Nat) + 1)) :: .s :: .k :: .k :: .k :: .k :: .k :: .k :: .s :: .s :: .s :: .s :: .s :: .s :: .s :: .s :: .s :: .s :: .s :: .s :: .s :: .s :: .s :: .s :: .s :: .s :: .s :: .s :: .s :: .s :: .s :: .s :: .k :: []) t0 x, [viB0 v, ⟨1, q.map fun n => .int .i64 n⟩]⟩) ∧ (k + 1 ≤ c.length ∨ k = 0) ∧ (q.length = m) ∧ (q = (if c.length = 0 then [] else gapT c ((c.getD k 0).toNat + 1))) ∧ nn = c.length - (k + 1)) ?_ ?_
    · exact ⟨_, ⟨0, [], 0, (), mixI rfl, .inr rfl, rfl, by split; rfl; exact (gapT_0 hin (by omega)).symm, rfl⟩⟩
    · rintro I0 hI0 nn s ⟨k, q, m, _, ⟨x, rfl⟩, g1, g2, g3, rfl⟩
      by_cases hk : k + 1 < c.length
      · have hki : (k : Int) + 1 < (c.length : Int) := by omega
        rw [if_neg (by omega)] at g3
        have e1 : ((k : Int) + 1).toNat = k + 1 := by omega
        have c1 := hin _ (gmem (show k < c.length by omega))
        have c2 := hin _ (gmem hk)
        have c3 := asc_at hs (i := k) (by omega) hk
        have e2 : IntKind.i64.wrap ((k : Int) + 1 - 1) = (k : Int) := by rw [wrap_in (by omega)]; omega
        have e3 : IntKind.i64.wrap (c.getD k 0 + 1) = (((c.getD k 0).toNat + 1 : Nat) : Int) := by rw [wrap_in (by omega)]; omega
        repeat' (first | with_reducible first | refine kI (by kernel_rfl) ?_ | refine kN (by kernel_rfl) ?_ | (first | refine kB1 ?_ ?_ | refine kB2 ?_ ?_) <;> intro hp | (first | refine kD1 ?_ ?_ | refine kD2 ?_ ?_ | refine kS1 ?_ ?_ | refine kS2 ?_ ?_) <;> intro hp <;> try simp only [hp] | simp -implicitDefEqProofs (disch := omega) only [go_sem, Nat.reduceAdd, Nat.reduceSub, reduceCtorEq, Nat.reduceLT, Nat.reduceLeDiff, Nat.reduceEqDiff, Nat.reduceMul, Int.reduceToNat, ↓reduceIte, List.take_of_length_le, if_pos, if_neg, List.getElem?_set_self, List.set_set, cnE, cnV, Try.ntmps48, Try.results48,  hki, e1, e2, e3])
        refine LoopQ.mix (fun t0 L0 nn ss => ∃ (y : Nat) (q1 : List Int) (m1 : Nat) (_ : Unit), (∃ x : Nat → AV, ss = ⟨mixL 0 (.k :: .k :: .k :: .k :: .v (.sl 1 m1 0 m1 m1) :: .k :: .v (i64 (y : Nat)) :: .k :: .k :: .k :: .k :: .k :: .k :: .k :: .k :: .k :: .k :: .k :: .k :: .k :: .k :: .k :: .k :: .k :: .k :: .s :: .s :: .s :: .s :: .s :: .s :: .s :: .s :: .s :: .s :: .s :: .s :: .k :: []) t0 x, [viB0 v, ⟨1, q1.map fun n => .int .i64 n⟩]⟩) ∧ ((c.getD k 0).toNat + 1 ≤ y ∧ (y : Int) ≤ c.getD (k + 1) 0) ∧ (q1.length = m1) ∧ (q1 = gapT c y) ∧ nn = (c.getD (k + 1) 0).toNat - y) ?_ ?_
        · exact ⟨_, ⟨(c.getD k 0).toNat + 1, q, m, (), mixI rfl, ⟨Nat.le_refl _, by omega⟩, g2, g3, rfl⟩⟩
        · rintro I1 hI1 nn s ⟨y, q1, m1, _, ⟨x1, rfl⟩, ⟨f1, f2⟩, f3, f4, rfl⟩
          have hm60 : m1 ≤ 100 := by have := gapT_len c y; rw [← f4, f3] at this; omega
          by_cases hy : (y : Int) < c.getD (k + 1) 0
          · have hs1 := gapT_y (betw_n hs hk (y := y) (by omega) hy)
            rw [← f4] at hs1
            repeat' (first | with_reducible first | refine kI (by kernel_rfl) ?_ | refine kN (by kernel_rfl) ?_ | (first | refine kB1 ?_ ?_ | refine kB2 ?_ ?_) <;> intro hp | (first | refine kD1 ?_ ?_ | refine kD2 ?_ ?_ | refine kS1 ?_ ?_ | refine kS2 ?_ ?_) <;> intro hp <;> try simp only [hp] | simp -implicitDefEqProofs (disch := omega) only [go_sem, Nat.reduceAdd, Nat.reduceSub, reduceCtorEq, Nat.reduceLT, Nat.reduceLeDiff, Nat.reduceEqDiff, Nat.reduceMul, Int.reduceToNat, ↓reduceIte, List.take_of_length_le, if_pos, if_neg, List.getElem?_set_self, List.set_set, cnE, cnV, Try.ntmps48, Try.results48,  hki, e1, hy])
            exact ⟨(c.getD (k + 1) 0).toNat - (y + 1), by omega, hI1 _ _ ⟨y + 1, q1 ++ [(y : Int)], m1 + 1, (), mixI rfl, ⟨by omega, by omega⟩, by simp [f3], hs1, rfl⟩⟩
          · have hye : (y : Int) = c.getD (k + 1) 0 := by omega
            have e4 : IntKind.i64.wrap ((k : Int) + 1 + 1) = ((k + 1 : Nat) : Int) + 1 := by rw [wrap_in (by omega)]; omega
            repeat' (first | with_reducible first | refine kI (by kernel_rfl) ?_ | refine kN (by kernel_rfl) ?_ | (first | refine kB1 ?_ ?_ | refine kB2 ?_ ?_) <;> intro hp | (first | refine kD1 ?_ ?_ | refine kD2 ?_ ?_ | refine kS1 ?_ ?_ | refine kS2 ?_ ?_) <;> intro hp <;> try simp only [hp] | simp -implicitDefEqProofs (disch := omega) only [go_sem, Nat.reduceAdd, Nat.reduceSub, reduceCtorEq, Nat.reduceLT, Nat.reduceLeDiff, Nat.reduceEqDiff, Nat.reduceMul, Int.reduceToNat, ↓reduceIte, List.take_of_length_le, if_pos, if_neg, List.getElem?_set_self, List.set_set, cnE, cnV, Try.ntmps48, Try.results48,  hki, e1, hy, e4])
            exact ⟨c.length - (k + 1 + 1), by omega, hI0 _ _ ⟨k + 1, q1, m1, (), mixI rfl, .inl hk, f3, by
              rw [if_neg (by omega), f4, ← hye, Int.toNat_natCast, gapT_n (gapP_mem (by rw [hye]; exact gmem hk))], rfl⟩⟩
      · have hki : ¬ (k : Int) + 1 < (c.length : Int) := by omega
        repeat' (first | with_reducible first | refine kI (by kernel_rfl) ?_ | refine kN (by kernel_rfl) ?_ | (first | refine kB1 ?_ ?_ | refine kB2 ?_ ?_) <;> intro hp | (first | refine kD1 ?_ ?_ | refine kD2 ?_ ?_ | refine kS1 ?_ ?_ | refine kS2 ?_ ?_) <;> intro hp <;> try simp only [hp] | simp -implicitDefEqProofs (disch := omega) only [go_sem, Nat.reduceAdd, Nat.reduceSub, reduceCtorEq, Nat.reduceLT, Nat.reduceLeDiff, Nat.reduceEqDiff, Nat.reduceMul, Int.reduceToNat, ↓reduceIte, List.take_of_length_le, if_pos, if_neg, List.getElem?_set_self, List.set_set, cnE, cnV, Try.ntmps48, Try.results48,  hki])
        have hq : q = gapF c := by
          rw [g3]
          unfold gapF
          by_cases h0 : c.length = 0
          · rw [if_pos h0, if_pos h0]
          · rw [if_neg h0, if_neg h0, show c.length - 1 = k from by omega]
        rw [hq]
end Go.Proofs.Ytgepbcakcjdmoaa
