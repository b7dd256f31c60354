/- Contracts of functions that the laws of this seat call. -/
import Derived.Test.YtgpflkmelindfaaVm
set_option linter.all false
namespace Go.Proofs.Ytgpflkmelindfaa
open Go Go.Ev Go.RowKit Go.Ev.Enc Go.Pl

/-! ### cells of several indices -/
theorem plc_at {A : List Int} {x : Int} (h : x ∈ A) : ∃ j : Nat, plc A x = j ∧ j < A.length ∧ A.getD j 0 = x ∧ ∀ i, i < j → A.getD i 0 ≠ x := by
  have hl : A.findIdx (· == x) < A.length := List.findIdx_lt_length.2 ⟨x, h, by simp⟩
  refine ⟨A.findIdx (· == x), if_pos hl, hl, ?_, fun i hi he => ?_⟩
  · have := List.findIdx_getElem (w := hl)
    rw [List.getD_eq_getElem?_getD, List.getElem?_eq_getElem hl, Option.getD_some]
    simpa using this
  · have h1 := List.not_of_lt_findIdx hi
    rw [List.getD_eq_getElem?_getD, List.getElem?_eq_getElem (by omega), Option.getD_some] at he
    simp [he] at h1
theorem mem_dropI {A : List Int} {m : Nat} {x : Int} : x ∈ A.drop m ↔ ∃ i, m ≤ i ∧ i < A.length ∧ A.getD i 0 = x := by
  rw [List.mem_drop_iff_getElem]
  constructor
  · rintro ⟨i, hi, he⟩
    exact ⟨i + m, by omega, by omega, by rw [List.getD_eq_getElem?_getD, List.getElem?_eq_getElem (by omega), Option.getD_some, ← he]; congr 1; omega⟩
  · rintro ⟨i, h1, h2, he⟩
    refine ⟨i - m, by omega, ?_⟩
    rw [List.getD_eq_getElem?_getD, List.getElem?_eq_getElem h2, Option.getD_some] at he
    rw [← he]; congr 1; omega
theorem mem_takeI {A : List Int} {m : Nat} {x : Int} : x ∈ A.take m ↔ ∃ i, i < m ∧ i < A.length ∧ A.getD i 0 = x := by
  rw [List.mem_take_iff_getElem]
  constructor
  · rintro ⟨i, hi, he⟩
    exact ⟨i, by omega, by omega, by rw [List.getD_eq_getElem?_getD, List.getElem?_eq_getElem (by omega), Option.getD_some, ← he]⟩
  · rintro ⟨i, h1, h2, he⟩
    refine ⟨i, by omega, ?_⟩
    rw [List.getD_eq_getElem?_getD, List.getElem?_eq_getElem h2, Option.getD_some] at he
    exact he
def repC (A : List Int) (x : Int) : Bool := A.contains x && (A.drop ((plc A x).toNat + 1)).contains x
theorem repC_iff {A : List Int} {x : Int} : repC A x = true ↔ ∃ i, i < A.length ∧ A.getD i 0 = x ∧ x ∈ A.take i := by
  unfold repC
  simp only [Bool.and_eq_true, List.contains_iff_mem]
  constructor
  · rintro ⟨h1, h2⟩
    obtain ⟨j, e, hj, hx, hm⟩ := plc_at h1
    rw [e, Int.toNat_natCast] at h2
    obtain ⟨i, i1, i2, i3⟩ := mem_dropI.1 h2
    exact ⟨i, i2, i3, mem_takeI.2 ⟨j, by omega, by omega, hx⟩⟩
  · rintro ⟨i, h1, h2, h3⟩
    obtain ⟨k, k1, k2, k3⟩ := mem_takeI.1 h3
    have hA : x ∈ A := by rw [← h2]; exact gmem h1
    obtain ⟨j, e, hj, hx, hm⟩ := plc_at hA
    refine ⟨hA, ?_⟩
    rw [e, Int.toNat_natCast]
    have : ¬ k < j := fun hk => hm k hk k3
    exact mem_dropI.2 ⟨i, by omega, h1, h2⟩
def repT (A : List Int) (k : Nat) : List Int := (upV k).filter (repC A)
def repF (A : List Int) : List Int := repT A 60
theorem repT_y {A : List Int} {k : Nat} (h : repC A k = true) : repT A k ++ [(k : Int)] = repT A (k + 1) := by
  unfold repT
  rw [← upV_snoc, List.filter_append]
  simp [h]
theorem repT_n {A : List Int} {k : Nat} (h : repC A k = false) : repT A (k + 1) = repT A k := by
  unfold repT
  rw [← upV_snoc, List.filter_append]
  simp [h]
theorem rep_asc (A : List Int) : (repF A).Pairwise (· < ·) := (upV_asc 60).sublist List.filter_sublist
theorem mem_rep {A : List Int} {x : Int} : x ∈ repF A ↔ (0 ≤ x ∧ x < 60) ∧ repC A x = true := by
  unfold repF repT
  rw [List.mem_filter, upV_mem]; exact Iff.rfl
theorem rep_len (A : List Int) : (repF A).length ≤ 60 := by
  have := List.length_filter_le (repC A) (upV 60)
  rw [upV_len] at this
  exact this
def rpL (A : List Int) : Nat → List Int
  | 0 => []
  | k + 1 => if A.getD k 0 ∈ A.take k then rpL A k ++ [A.getD k 0] else rpL A k
theorem rpL_y {A : List Int} {k : Nat} (h : A.getD k 0 ∈ A.take k) : rpL A (k + 1) = rpL A k ++ [A.getD k 0] := if_pos h
theorem rpL_n {A : List Int} {k : Nat} (h : ¬ A.getD k 0 ∈ A.take k) : rpL A (k + 1) = rpL A k := if_neg h
theorem mem_rpL {A : List Int} {x : Int} : ∀ {k : Nat}, x ∈ rpL A k ↔ ∃ i, i < k ∧ A.getD i 0 = x ∧ x ∈ A.take i
  | 0 => by simp [rpL]
  | k + 1 => by
    by_cases h : A.getD k 0 ∈ A.take k
    · rw [rpL_y h, List.mem_append, mem_rpL]
      constructor
      · rintro (⟨i, h1, h2, h3⟩ | h1)
        · exact ⟨i, by omega, h2, h3⟩
        · simp at h1; subst h1; exact ⟨k, by omega, by simp, by simpa using h⟩
      · rintro ⟨i, h1, h2, h3⟩
        by_cases hik : i = k
        · subst hik; right; simp only [List.mem_singleton]; exact h2.symm
        · exact .inl ⟨i, by omega, h2, h3⟩
    · rw [rpL_n h, mem_rpL]
      constructor
      · rintro ⟨i, h1, h2, h3⟩
        exact ⟨i, by omega, h2, h3⟩
      · rintro ⟨i, h1, h2, h3⟩
        by_cases hik : i = k
        · subst hik; rw [h2] at h; exact absurd h3 h
        · exact ⟨i, by omega, h2, h3⟩
theorem rpL_len (A : List Int) : ∀ k, (rpL A k).length ≤ k
  | 0 => by simp [rpL]
  | k + 1 => by
    have := rpL_len A k
    unfold rpL
    split
    · simp; omega
    · omega
theorem srt_rpL {A : List Int} (h : inC A) : srt (rpL A A.length) = repF A :=
  srt_eq (rep_asc A) fun x => by
    rw [mem_rep, repC_iff, mem_rpL]
    constructor
    · rintro ⟨_, i, h1, h2, h3⟩; exact ⟨i, h1, h2, h3⟩
    · rintro ⟨i, h1, h2, h3⟩
      exact ⟨h x (by rw [← h2]; exact gmem h1), i, h1, h2, h3⟩
theorem rep_sub {A : List Int} {x : Int} (h : x ∈ repF A) : x ∈ A := by
  obtain ⟨i, h1, h2, _⟩ := repC_iff.1 (mem_rep.1 h).2
  rw [← h2]; exact gmem h1
theorem diff_rep {A : List Int} (h : inC A) : diffF A = decide ((repF A).length = 0) := by
  rw [Bool.eq_iff_iff, decide_eq_true_eq, List.length_eq_zero_iff]
  unfold diffF
  rw [decide_eq_true_eq]
  constructor
  · intro hd
    rw [List.eq_nil_iff_forall_not_mem]
    intro x hx
    obtain ⟨i, h1, h2, h3⟩ := repC_iff.1 (mem_rep.1 hx).2
    exact hd i h1 (by rw [h2]; exact h3)
  · intro he k hk hm
    have : A.getD k 0 ∈ repF A := mem_rep.2 ⟨h _ (gmem hk), repC_iff.2 ⟨k, hk, rfl, hm⟩⟩
    rw [he] at this
    simp at this
def gRep (v : Vi) : Option (List Int) := gd (viB v) (if viewOK v = true then repF (offF v) else [])
theorem gRep_eq {v : Vi} (h : viB v) : gRep v = some (if viewOK v = true then repF (offF v) else []) := gd_eq h
abbrev viB0 (v : Vi) : Blk := ⟨3, [.agg [i64 v.b, ints 0 v.sh, ints 0 v.st]]⟩
end Go.Proofs.Ytgpflkmelindfaa
