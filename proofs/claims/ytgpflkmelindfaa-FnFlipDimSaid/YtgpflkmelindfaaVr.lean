/- Contracts of functions that the laws of this seat call. -/
import Derived.Test.YtgpflkmelindfaaVq
set_option linter.all false
namespace Go.Proofs.Ytgpflkmelindfaa
open Go Go.Ev Go.RowKit Go.Ev.Enc Go.Pl

theorem mem_getI {c : List Int} {x : Int} (h : x ∈ c) : ∃ i, i < c.length ∧ c.getD i 0 = x := by
  obtain ⟨i, hi, h1, h2⟩ := mem_dropI (m := 0).1 (by rwa [List.drop_zero])
  exact ⟨i, h1, h2⟩
theorem asc_lo {c : List Int} (h : c.Pairwise (· < ·)) {x : Int} (hx : x ∈ c) : c.getD 0 0 ≤ x := by
  obtain ⟨i, hi, rfl⟩ := mem_getI hx
  by_cases h0 : i = 0
  · subst h0; exact Int.le_refl _
  · have := asc_at h (i := 0) (j := i) (by omega) hi; omega
theorem asc_hi {c : List Int} (h : c.Pairwise (· < ·)) {x : Int} (hx : x ∈ c) : x ≤ c.getD (c.length - 1) 0 := by
  obtain ⟨i, hi, rfl⟩ := mem_getI hx
  by_cases h0 : i = c.length - 1
  · subst h0; exact Int.le_refl _
  · have := asc_at h (i := i) (j := c.length - 1) (by omega) (by omega); omega
theorem mn_srt {A : List Int} (h : 0 < A.length) : mnT A A.length = (srt A).getD 0 0 := by
  obtain ⟨h1, h2⟩ := mnT_b (l := A) A.length h (Nat.le_refl _)
  have a1 := asc_lo (srt_asc A) ((srt_mem A _).2 h1)
  have hl : 0 < (srt A).length := List.length_pos_of_mem ((srt_mem A _).2 h1)
  obtain ⟨i, hi, e⟩ := mem_getI ((srt_mem A _).1 (gmem hl))
  have := h2 i hi
  omega
theorem mx_srt {A : List Int} (h : 0 < A.length) : mxT A A.length = (srt A).getD ((srt A).length - 1) 0 := by
  obtain ⟨h1, h2⟩ := mxT_b (l := A) A.length h (Nat.le_refl _)
  have a1 := asc_hi (srt_asc A) ((srt_mem A _).2 h1)
  have hl : 0 < (srt A).length := List.length_pos_of_mem ((srt_mem A _).2 h1)
  obtain ⟨i, hi, e⟩ := mem_getI ((srt_mem A _).1 (gmem (show (srt A).length - 1 < (srt A).length by omega)))
  have := h2 i hi
  omega
theorem mem_gap {c : List Int} (hin : inC c) (h0 : 0 < c.length) {y : Int} : y ∈ gapF c ↔ (c.getD 0 0 ≤ y ∧ y ≤ c.getD (c.length - 1) 0) ∧ ¬ y ∈ c := by
  have c0 := hin _ (gmem h0)
  have c1 := hin _ (gmem (show c.length - 1 < c.length by omega))
  unfold gapF gapT gapP
  rw [if_neg (by omega), List.mem_filter, upV_mem]
  simp only [Bool.and_eq_true, decide_eq_true_eq, Bool.not_eq_true']
  rw [← Bool.not_eq_true, List.contains_iff_mem]
  constructor
  · rintro ⟨h1, h2, h3⟩; exact ⟨⟨h2, by omega⟩, h3⟩
  · rintro ⟨⟨h1, h2⟩, h3⟩; exact ⟨by omega, h1, h3⟩
theorem gap_has {c : List Int} (hin : inC c) (h0 : 0 < c.length) {y : Int} (h1 : c.getD 0 0 ≤ y) (h2 : y ≤ c.getD (c.length - 1) 0) : (gapF c).contains y = !c.contains y := by
  rw [Bool.eq_iff_iff, List.contains_iff_mem, mem_gap hin h0, Bool.not_eq_true', ← Bool.not_eq_true, List.contains_iff_mem]
  exact ⟨fun h => h.2, fun h => ⟨⟨h1, h2⟩, h⟩⟩
theorem gap_asc (c : List Int) : (gapF c).Pairwise (· < ·) := by
  unfold gapF
  split
  · exact .nil
  · exact (upV_asc _).sublist List.filter_sublist
theorem upV_from (a : Nat) : ∀ n, ((upV n).filter fun y => decide ((a : Int) ≤ y)).length = n - a
  | 0 => by simp [upV]
  | n + 1 => by
    have := upV_from a n
    rw [← upV_snoc, List.filter_append, List.length_append, this]
    by_cases h : a ≤ n
    · simp [h]; omega
    · simp [h]; omega
theorem filter_parts (p : Int → Bool) : ∀ l : List Int, (l.filter p).length + (l.filter fun x => !p x).length = l.length
  | [] => rfl
  | x :: l => by
    have := filter_parts p l
    cases h : p x <;> simp [h] <;> omega
theorem gap_len {c : List Int} (hs : c.Pairwise (· < ·)) (hin : inC c) (h0 : 0 < c.length) : ((gapF c).length : Int) + c.length = c.getD (c.length - 1) 0 - c.getD 0 0 + 1 := by
  have c0 := hin _ (gmem h0)
  have c1 := hin _ (gmem (show c.length - 1 < c.length by omega))
  have hlo := fun x hx => asc_lo hs (x := x) hx
  have hhi := fun x hx => asc_hi hs (x := x) hx
  have c2 := hlo _ (gmem (show c.length - 1 < c.length by omega))
  have hu := upV_from (c.getD 0 0).toNat ((c.getD (c.length - 1) 0).toNat + 1)
  have hp := filter_parts (fun y => c.contains y) ((upV ((c.getD (c.length - 1) 0).toNat + 1)).filter fun y => decide ((((c.getD 0 0).toNat : Nat) : Int) ≤ y))
  rw [hu, List.filter_filter, List.filter_filter] at hp
  have e1 : (upV ((c.getD (c.length - 1) 0).toNat + 1)).filter (fun a => c.contains a && decide ((((c.getD 0 0).toNat : Nat) : Int) ≤ a)) = c := by
    refine asc_ext ((upV_asc _).sublist List.filter_sublist) hs fun x => ?_
    rw [List.mem_filter, upV_mem]
    simp only [Bool.and_eq_true, List.contains_iff_mem, decide_eq_true_eq]
    constructor
    · exact fun h => h.2.1
    · intro h
      have a1 := hlo x h
      have a2 := hhi x h
      exact ⟨by omega, h, by omega⟩
  have e2 : (upV ((c.getD (c.length - 1) 0).toNat + 1)).filter (fun a => !c.contains a && decide ((((c.getD 0 0).toNat : Nat) : Int) ≤ a)) = gapF c := by
    refine asc_ext ((upV_asc _).sublist List.filter_sublist) (gap_asc c) fun x => ?_
    rw [List.mem_filter, upV_mem, mem_gap hin h0]
    simp only [Bool.and_eq_true, Bool.not_eq_true', decide_eq_true_eq]
    rw [← Bool.not_eq_true, List.contains_iff_mem]
    constructor
    · rintro ⟨h1, h2, h3⟩; exact ⟨⟨by omega, by omega⟩, h2⟩
    · rintro ⟨⟨h1, h2⟩, h3⟩; exact ⟨by omega, h3, by omega⟩
  rw [e1, e2] at hp
  omega
theorem gap_60 {c : List Int} (hin : inC c) (hs : c.Pairwise (· < ·)) : (gapF c).length ≤ 60 := by
  by_cases h0 : 0 < c.length
  · have := gap_len hs hin h0
    have c0 := hin _ (gmem h0)
    have c1 := hin _ (gmem (show c.length - 1 < c.length by omega))
    omega
  · unfold gapF
    rw [if_pos (by omega)]; simp
theorem bd_none {v : Vi} (h : prodW v.sh = 0) : bdF v = (-1, -1) := by unfold bdF; rw [if_neg (fun h' => h'.2 h)]
end Go.Proofs.Ytgpflkmelindfaa
