/- Contracts of functions that the laws of this seat call. -/
import Derived.Test.YtgepbcakcjdmoaaVq
set_option linter.all false
namespace Go.Proofs.Ytgepbcakcjdmoaa
open Go Go.Ev Go.RowKit Go.Ev.Enc Go.Pl

theorem mem_getI {c : List Int} {x : Int} (h : x ∈ c) : ∃ i, i < c.length ∧ c.getD i 0 = x := by
  obtain ⟨i, hi, h1, h2⟩ := mem_dropI (m := 0).1 (by rwa [List.drop_zero])
  exact ⟨i, h1, h2⟩
theorem asc_lo {c : List Int} (h : c.Pairwise (· < ·)) {x : Int} (hx : x ∈ c) : c.getD 0 0 ≤ x := by
  obtain ⟨i, hi, rfl⟩ := mem_getI hx
  by_cases h0 : i = 0
  · subst h0; exact Int.le_refl _
  · have := asc_at h (i := 0) (j := i) (by omega) hi; omega
theorem asc_hi {c : List Int} (h : c.Pairwise (· < ·)) {x : Int} (hx : x ∈ c) : x ≤ c.getD (c.length - 1) 0 := by
  obtain ⟨i, hi, rfl⟩ := mem_getI hx
  by_cases h0 : i = c.length - 1
  · subst h0; exact Int.le_refl _
  · have := asc_at h (i := i) (j := c.length - 1) (by omega) (by omega); omega
theorem mn_srt {A : List Int} (h : 0 < A.length) : mnT A A.length = (srt A).getD 0 0 := by
  obtain ⟨h1, h2⟩ := mnT_b (l := A) A.length h (Nat.le_refl _)
  have a1 := asc_lo (srt_asc A) ((srt_mem A _).2 h1)
  have hl : 0 < (srt A).length := List.length_pos_of_mem ((srt_mem A _).2 h1)
  obtain ⟨i, hi, e⟩ := mem_getI ((srt_mem A _).1 (gmem hl))
  have := h2 i hi
  omega
theorem mx_srt {A : List Int} (h : 0 < A.length) : mxT A A.length = (srt A).getD ((srt A).length - 1) 0 := by
  obtain ⟨h1, h2⟩ := mxT_b (l := A) A.length h (Nat.le_refl _)
  have a1 := asc_hi (srt_asc A) ((srt_mem A _).2 h1)
  have hl : 0 < (srt A).length := List.length_pos_of_mem ((srt_mem A _).2 h1)
  obtain ⟨i, hi, e⟩ := mem_getI ((srt_mem A _).1 (gmem (show (srt A).length - 1 < (srt A).length by omega)))
  have := h2 i hi
  omega
theorem mem_gap {c : List Int} (hin : inC c) (h0 : 0 < c.length) {y : Int} : y ∈ gapF c ↔ (c.getD 0 0 ≤ y ∧ y ≤ c.getD (c.length - 1) 0) ∧ ¬ y ∈ c := by
  have c0 := hin _ (gmem h0)
  have c1 := hin _ (gmem (show c.length - 1 < c.length by omega))
  unfold gapF gapT gapP
  rw [if_neg (by omega), List.mem_filter, upV_mem]
  simp only [Bool.and_eq_true, decide_eq_true_eq, Bool.not_eq_true']
  rw [← Bool.not_eq_true, List.contains_iff_mem]
  constructor
  · rintro ⟨h1, h2, h3⟩; exact ⟨⟨h2, by omega⟩, h3⟩
  · rintro ⟨⟨h1, h2⟩, h3⟩; exact ⟨by omega, h1, h3⟩
theorem gap_has {c : List Int} (hin : inC c) (h0 : 0 < c.length) {y : Int} (h1 : c.getD 0 0 ≤ y) (h2 : y ≤ c.getD (c.length - 1) 0) : (gapF c).contains y = !c.contains y := by
  rw [Bool.eq_iff_iff, List.contains_iff_mem, mem_gap hin h0, Bool.not_eq_true', ← Bool.not_eq_true, List.contains_iff_mem]
  exact ⟨fun h => h.2, fun h => ⟨⟨h1, h2⟩, h⟩⟩
theorem gap_asc (c : List Int) : (gapF c).Pairwise (· < ·) := by
  unfold gapF
  split
  · exact .nil
  · exact (upV_asc _).sublist List.filter_sublist
theorem upV_from (a : Nat) : ∀ n, ((upV n).filter fun y => decide ((a : Int) ≤ y)).length = n - a
  | 0 => by simp [upV]
  | n + 1 => by
    have := upV_from a n
    rw [← upV_snoc, List.filter_append, List.length_append, this]
    by_cases h : a ≤ n
    · simp [h]; omega
    · simp [h]; omega
theorem filter_parts (p : Int → Bool) : ∀ l : List Int, (l.filter p).length + (l.filter fun x => !p x).length = l.length
  | [] => rfl
  | x :: l => by
    have := filter_parts p l
    cases h : p x <;> simp [h] <;> omega
theorem gap_len {c : List Int} (hs : c.Pairwise (· < ·)) (hin : inC c) (h0 : 0 < c.length) : ((gapF c).length : Int) + c.length = c.getD (c.length - 1) 0 - c.getD 0 0 + 1 := by
  have c0 := hin _ (gmem h0)
  have c1 := hin _ (gmem (show c.length - 1 < c.length by omega))
  have hlo := fun x hx => asc_lo hs (x := x) hx
  have hhi := fun x hx => asc_hi hs (x := x) hx
  have c2 := hlo _ (gmem (show c.length - 1 < c.length by omega))
  have hu := upV_from (c.getD 0 0).toNat ((c.getD (c.length - 1) 0).toNat + 1)
  have hp := filter_parts (fun y => c.contains y) ((upV ((c.getD (c.length - 1) 0).toNat + 1)).filter fun y => decide ((((c.getD 0 0).toNat : Nat) : Int) ≤ y))
  rw [hu, List.filter_filter, List.filter_filter] at hp
  have e1 : (upV ((c.getD (c.length - 1) 0).toNat + 1)).filter (fun a => c.contains a && decide ((((c.getD 0 0).toNat : Nat) : Int) ≤ a)) = c := by
    refine asc_ext ((upV_asc _).sublist List.filter_sublist) hs fun x => ?_
    rw [List.mem_filter, upV_mem]
    simp only [Bool.and_eq_true, List.contains_iff_mem, decide_eq_true_eq]
    constructor
    · exact fun h => h.2.1
    · intro h
      have a1 := hlo x h
      have a2 := hhi x h
      exact ⟨by omega, h, by omega⟩
  have e2 : (upV ((c.getD (c.length - 1) 0).toNat + 1)).filter (fun a => !c.contains a && decide ((((c.getD 0 0).toNat : Nat) : Int) ≤ a)) = gapF c := by
    refine asc_ext ((upV_asc _).sublist List.filter_sublist) (gap_asc c) fun x => ?_
    rw [List.mem_filter, upV_mem, mem_gap hin h0]
    simp only [Bool.and_eq_true, Bool.not_eq_true', decide_eq_true_eq]
    rw [← Bool.not_eq_true, List.contains_iff_mem]
    constructor
    · rintro ⟨h1, h2, h3⟩; exact ⟨⟨by omega, by omega⟩, h2⟩
    · rintro ⟨⟨h1, h2⟩, h3⟩; exact ⟨by omega, h3, by omega⟩
  rw [e1, e2] at hp
  omega
theorem gap_60 {c : List Int} (hin : inC c) (hs : c.Pairwise (· < ·)) : (gapF c).length ≤ 60 := by
  by_cases h0 : 0 < c.length
  · have := gap_len hs hin h0
    have c0 := hin _ (gmem h0)
    have c1 := hin _ (gmem (show c.length - 1 < c.length by omega))
    omega
  · unfold gapF
    rw [if_pos (by omega)]; simp
theorem bd_none {v : Vi} (h : prodW v.sh = 0) : bdF v = (-1, -1) := by unfold bdF; rw [if_neg (fun h' => h'.2 h)]
set_option maxHeartbeats 8000000 in
set_option maxRecDepth 100000 in
theorem law_GapsOf {Sg Sd : FuncId → Option (List AV → Option AV)} (hS : Sound Try.prog Sg) (hD : Sound Try.prog Sd) (n1 : Sg 47 = none) (h1 : Sg 48 = some (F1 gGap)) (h2 : Sg 49 = some (F1 gGap)) (h3 : Sg 23 = some (F2 gEqInts)) (h4 : Sg 18 = some (F1 gValidV)) (h5 : Sg 20 = some (F1 gCellsT)) (h6 : Sg 26 = some (F1 gAscends)) (h7 : Sg 50 = some (F1 gBounds)) (h9 : Sg 42 = some (F2 gIsIn)) (hDr : DrOne 47) : ∀ a r, F1 gTrueW a = some r → CSpec Try.prog 10 a r := by
  refine F1_spec ?_
  intro bs r hr
  obtain ⟨g1, rfl⟩ := gd_some hr
  refine law3 Try.func10 rfl Try.pf hS hD ?_
  by_cases hb : 1048576 < bs.length
  · repeat' (first | with_reducible first | refine kI (by kernel_rfl) ?_ | refine kN (by kernel_rfl) ?_ | (first | refine kB1 ?_ ?_ | refine kB2 ?_ ?_) <;> intro hp | (first | refine kD1 ?_ ?_ | refine kD2 ?_ ?_ | refine kS1 ?_ ?_ | refine kS2 ?_ ?_) <;> intro hp <;> try simp only [hp] | simp -implicitDefEqProofs (disch := omega) only [go_sem, Nat.reduceAdd, Nat.reduceSub, reduceCtorEq, Nat.reduceLT, Nat.reduceLeDiff, Nat.reduceEqDiff, Nat.reduceMul, Int.reduceToNat, ↓reduceIte, List.take_of_length_le, if_pos, if_neg, List.getElem?_set_self, List.set_set, cnE, cnV, Try.ntmps10, Try.results10])
  · repeat' (first | with_reducible first | refine kI (by kernel_rfl) ?_ | refine kN (by kernel_rfl) ?_ | (first | refine kB1 ?_ ?_ | refine kB2 ?_ ?_) <;> intro hp | (first | refine kD1 ?_ ?_ | refine kD2 ?_ ?_ | refine kS1 ?_ ?_ | refine kS2 ?_ ?_) <;> intro hp <;> try simp only [hp] | simp -implicitDefEqProofs (disch := omega) only [go_sem, Nat.reduceAdd, Nat.reduceSub, reduceCtorEq, Nat.reduceLT, Nat.reduceLeDiff, Nat.reduceEqDiff, Nat.reduceMul, Int.reduceToNat, ↓reduceIte, List.take_of_length_le, if_pos, if_neg, List.getElem?_set_self, List.set_set, cnE, cnV, Try.ntmps10, Try.results10,  n1, opQ_none])
    refine InlK_intro rfl rfl can_DrawGapsOf ((hDr bs (by omega) _).mono ?_)
    rintro r L1 ⟨v, k1, k2, rfl, rfl⟩
    have q1 := gGap_eq (v := v) ⟨by omega, by omega⟩
    have q4 := gValidV_eq (v := v) ⟨by omega, by omega⟩
    cases e : viewOK v with
    | false =>
      rw [e] at q1 q4
      rw [if_neg (by simp)] at q1
      have q3 : gEqInts [] [] = some true := gEqInts_eq (a := []) (b := []) ⟨by decide, by decide⟩
      repeat' (first | with_reducible first | refine kI (by kernel_rfl) ?_ | refine kN (by kernel_rfl) ?_ | (first | refine kB1 ?_ ?_ | refine kB2 ?_ ?_) <;> intro hp | (first | refine kD1 ?_ ?_ | refine kD2 ?_ ?_ | refine kS1 ?_ ?_ | refine kS2 ?_ ?_) <;> intro hp <;> try simp only [hp] | simp -implicitDefEqProofs (disch := omega) only [go_sem, Nat.reduceAdd, Nat.reduceSub, reduceCtorEq, Nat.reduceLT, Nat.reduceLeDiff, Nat.reduceEqDiff, Nat.reduceMul, Int.reduceToNat, ↓reduceIte, List.take_of_length_le, if_pos, if_neg, List.getElem?_set_self, List.set_set, cnE, cnV, Try.ntmps10, Try.results10,  h1, q1, h2, h3, q3, h4, q4, dec_i0])
    | true =>
      have hA := offF_60 (viewOK_iff.1 e).1
      have hin := srt_in60 (offF_in e)
      have hs := srt_asc (offF v)
      have hl := srt_len (offF v)
      have hg := gap_60 hin hs
      have q5 := gCellsT_eq (v := v) ⟨by omega, by omega⟩
      have q7 := gBounds_eq (v := v) ⟨by omega, by omega⟩
      rw [e, if_pos rfl] at q1 q5
      rw [e] at q4
      by_cases hz : prodW v.sh = 0
      · have hb0 := bd_none hz
        rw [hb0] at q7
        have h0 : (srt (offF v)).length = 0 := by rw [offF_zero hz] at hl ⊢; simpa using hl
        have hg0 : gapF (srt (offF v)) = [] := by unfold gapF; rw [if_pos h0]
        rw [hg0] at q1
        have q3 : gEqInts [] [] = some true := gEqInts_eq (a := []) (b := []) ⟨by decide, by decide⟩
        repeat' (first | with_reducible first | refine kI (by kernel_rfl) ?_ | refine kN (by kernel_rfl) ?_ | (first | refine kB1 ?_ ?_ | refine kB2 ?_ ?_) <;> intro hp | (first | refine kD1 ?_ ?_ | refine kD2 ?_ ?_ | refine kS1 ?_ ?_ | refine kS2 ?_ ?_) <;> intro hp <;> try simp only [hp] | simp -implicitDefEqProofs (disch := omega) only [go_sem, Nat.reduceAdd, Nat.reduceSub, reduceCtorEq, Nat.reduceLT, Nat.reduceLeDiff, Nat.reduceEqDiff, Nat.reduceMul, Int.reduceToNat, ↓reduceIte, List.take_of_length_le, if_pos, if_neg, List.getElem?_set_self, List.set_set, cnE, cnV, Try.ntmps10, Try.results10,  h1, q1, h2, h3, q3, h4, q4, h5, q5, h7, q7, dec_i0])
      · have hp := offF_pos e hz
        have hb0 : bdF v = ((srt (offF v)).getD 0 0, (srt (offF v)).getD ((srt (offF v)).length - 1) 0) := by
          unfold bdF
          rw [if_pos ⟨e, hz⟩, mn_srt hp, mx_srt hp]
        rw [hb0] at q7
        have hc0 : 0 < (srt (offF v)).length := List.length_pos_of_mem ((srt_mem _ _).2 (gmem hp))
        generalize srt (offF v) = c at *
        have c0 := hin _ (gmem hc0)
        have c1 := hin _ (gmem (show c.length - 1 < c.length by omega))
        have c2 := asc_lo hs (gmem (show c.length - 1 < c.length by omega))
        have gl := gap_len hs hin hc0
        have gh := fun y => gap_has hin hc0 (y := y)
        generalize c.getD (c.length - 1) 0 = hi at *
        generalize c.getD 0 0 = lo at *
        have q3 : gEqInts (gapF c) (gapF c) = some true := (gEqInts_eq ⟨by omega, by omega⟩).trans (by simp)
        have q6 := (gAscends_eq (l := gapF c) (by omega)).trans (by rw [ascB_pw (gap_asc _)])
        have lo0 : ¬ lo < 0 := by omega
        generalize gapF c = G at *
        repeat' (first | with_reducible first | refine kI (by kernel_rfl) ?_ | refine kN (by kernel_rfl) ?_ | (first | refine kB1 ?_ ?_ | refine kB2 ?_ ?_) <;> intro hp | (first | refine kD1 ?_ ?_ | refine kD2 ?_ ?_ | refine kS1 ?_ ?_ | refine kS2 ?_ ?_) <;> intro hp <;> try simp only [hp] | simp -implicitDefEqProofs (disch := omega) only [go_sem, Nat.reduceAdd, Nat.reduceSub, reduceCtorEq, Nat.reduceLT, Nat.reduceLeDiff, Nat.reduceEqDiff, Nat.reduceMul, Int.reduceToNat, ↓reduceIte, List.take_of_length_le, if_pos, if_neg, List.getElem?_set_self, List.set_set, cnE, cnV, Try.ntmps10, Try.results10,  h1, q1, h2, h3, q3, h4, q4, h5, q5, h7, q7, lo0])
        refine LoopQ.mix (fun t0 L0 nn ss => ∃ (y : Int) (_ : Unit), (∃ x : Nat → AV, ss = ⟨mixL 0 (.k :: .k :: .s :: .k :: .k :: .k :: .k :: .k :: .v (i64 y) :: .k :: .k :: .k :: .k :: .k :: .k :: .k :: .k :: .k :: .k :: .k :: .k :: .k :: .k :: .k :: .k :: .k :: .k :: .k :: .k :: .k :: .k :: .k :: .k :: .k :: .k :: .k :: .k :: .k :: .k :: .k :: .k :: .k :: .k :: .s :: .s :: .s :: .s :: .s :: .s :: .s :: .s :: .s :: .s :: .s :: .s :: .k :: .k :: .k :: .k :: .k :: .k :: .k :: .k :: .k :: .k :: .k :: .k :: .k :: .k :: []) t0 x, L0⟩) ∧ (lo ≤ y ∧ y ≤ hi + 1) ∧ nn = (hi + 1 - y).toNat) ?_ ?_
        · exact ⟨_, ⟨lo, (), mixI rfl, ⟨by omega, by omega⟩, rfl⟩⟩
        · rintro I0 hI0 nn s ⟨y, _, ⟨x, rfl⟩, ⟨g1, g2⟩, rfl⟩
          by_cases hy : y ≤ hi
          · have p1 := gIsIn_eq (l := G) (by omega) y
            have p2 := gIsIn_eq (l := c) (by omega) y
            have e1 : IntKind.i64.wrap (y + 1) = y + 1 := wrap_in (by omega)
            rw [gh y g1 hy] at p1
            cases eb : c.contains y with
            | false =>
              rw [eb] at p1 p2
              repeat' (first | with_reducible first | refine kI (by kernel_rfl) ?_ | refine kN (by kernel_rfl) ?_ | (first | refine kB1 ?_ ?_ | refine kB2 ?_ ?_) <;> intro hp | (first | refine kD1 ?_ ?_ | refine kD2 ?_ ?_ | refine kS1 ?_ ?_ | refine kS2 ?_ ?_) <;> intro hp <;> try simp only [hp] | simp -implicitDefEqProofs (disch := omega) only [go_sem, Nat.reduceAdd, Nat.reduceSub, reduceCtorEq, Nat.reduceLT, Nat.reduceLeDiff, Nat.reduceEqDiff, Nat.reduceMul, Int.reduceToNat, ↓reduceIte, List.take_of_length_le, if_pos, if_neg, List.getElem?_set_self, List.set_set, cnE, cnV, Try.ntmps10, Try.results10,  hy, h9, p1, p2, e1])
              exact ⟨(hi + 1 - (y + 1)).toNat, by omega, hI0 _ _ ⟨y + 1, (), mixI rfl, ⟨by omega, by omega⟩, rfl⟩⟩
            | true =>
              rw [eb] at p1 p2
              repeat' (first | with_reducible first | refine kI (by kernel_rfl) ?_ | refine kN (by kernel_rfl) ?_ | (first | refine kB1 ?_ ?_ | refine kB2 ?_ ?_) <;> intro hp | (first | refine kD1 ?_ ?_ | refine kD2 ?_ ?_ | refine kS1 ?_ ?_ | refine kS2 ?_ ?_) <;> intro hp <;> try simp only [hp] | simp -implicitDefEqProofs (disch := omega) only [go_sem, Nat.reduceAdd, Nat.reduceSub, reduceCtorEq, Nat.reduceLT, Nat.reduceLeDiff, Nat.reduceEqDiff, Nat.reduceMul, Int.reduceToNat, ↓reduceIte, List.take_of_length_le, if_pos, if_neg, List.getElem?_set_self, List.set_set, cnE, cnV, Try.ntmps10, Try.results10,  hy, h9, p1, p2, e1])
              exact ⟨(hi + 1 - (y + 1)).toNat, by omega, hI0 _ _ ⟨y + 1, (), mixI rfl, ⟨by omega, by omega⟩, rfl⟩⟩
          · have w1 : IntKind.i64.wrap ((G.length : Int) + c.length) = (G.length : Int) + c.length := wrap_in (by omega)
            have w2 : IntKind.i64.wrap (hi - lo) = hi - lo := wrap_in (by omega)
            have w3 : IntKind.i64.wrap (hi - lo + 1) = hi - lo + 1 := wrap_in (by omega)
            have w4 : ((G.length : Int) + c.length == hi - lo + 1) = true := beq_t (by omega)
            repeat' (first | with_reducible first | refine kI (by kernel_rfl) ?_ | refine kN (by kernel_rfl) ?_ | (first | refine kB1 ?_ ?_ | refine kB2 ?_ ?_) <;> intro hp | (first | refine kD1 ?_ ?_ | refine kD2 ?_ ?_ | refine kS1 ?_ ?_ | refine kS2 ?_ ?_) <;> intro hp <;> try simp only [hp] | simp -implicitDefEqProofs (disch := omega) only [go_sem, Nat.reduceAdd, Nat.reduceSub, reduceCtorEq, Nat.reduceLT, Nat.reduceLeDiff, Nat.reduceEqDiff, Nat.reduceMul, Int.reduceToNat, ↓reduceIte, List.take_of_length_le, if_pos, if_neg, List.getElem?_set_self, List.set_set, cnE, cnV, Try.ntmps10, Try.results10,  hy, h6, q6, w1, w2, w3, w4])
end Go.Proofs.Ytgepbcakcjdmoaa
