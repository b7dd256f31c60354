/- Contracts of functions that the laws of this seat call. -/
import Derived.Test.YtgpflkmelindfaaVp
set_option linter.all false
namespace Go.Proofs.Ytgpflkmelindfaa
open Go Go.Ev Go.RowKit Go.Ev.Enc Go.Pl

/-! ### gaps -/
def gapP (c : List Int) (y : Int) : Bool := decide (c.getD 0 0 ≤ y) && !c.contains y
def gapT (c : List Int) (n : Nat) : List Int := (upV n).filter (gapP c)
def gapF (c : List Int) : List Int := if c.length = 0 then [] else gapT c ((c.getD (c.length - 1) 0).toNat + 1)
theorem gapT_y {c : List Int} {k : Nat} (h : gapP c k = true) : gapT c k ++ [(k : Int)] = gapT c (k + 1) := by
  unfold gapT
  rw [← upV_snoc, List.filter_append]
  simp [h]
theorem gapT_n {c : List Int} {k : Nat} (h : gapP c k = false) : gapT c (k + 1) = gapT c k := by
  unfold gapT
  rw [← upV_snoc, List.filter_append]
  simp [h]
theorem gapT_len (c : List Int) (n : Nat) : (gapT c n).length ≤ n := by
  have := List.length_filter_le (gapP c) (upV n)
  rw [upV_len] at this
  exact this
theorem asc_at {c : List Int} (h : c.Pairwise (· < ·)) {i j : Nat} (hij : i < j) (hj : j < c.length) : c.getD i 0 < c.getD j 0 := by
  have := List.pairwise_iff_getElem.1 h i j (by omega) hj hij
  rw [List.getD_eq_getElem?_getD, List.getElem?_eq_getElem (by omega), Option.getD_some, List.getD_eq_getElem?_getD, List.getElem?_eq_getElem hj, Option.getD_some]
  exact this
theorem asc_lt {c : List Int} (h : c.Pairwise (· < ·)) {i j : Nat} (hi : i < c.length) (hlt : c.getD i 0 < c.getD j 0) (hj : j < c.length) : i < j := by
  rcases Nat.lt_trichotomy i j with e | e | e
  · exact e
  · subst e; omega
  · have := asc_at h e hi; omega
theorem betw_n {c : List Int} (h : c.Pairwise (· < ·)) {k : Nat} (hk : k + 1 < c.length) {y : Int} (h1 : c.getD k 0 < y) (h2 : y < c.getD (k + 1) 0) : gapP c y = true := by
  have hn : ¬ y ∈ c := fun hm => by
    obtain ⟨i, hi, e⟩ := mem_dropI (m := 0).1 (by rwa [List.drop_zero])
    obtain ⟨hi, e⟩ := e
    have a1 := asc_lt h (i := k) (j := i) (by omega) (by omega) hi
    have a2 := asc_lt h (i := i) (j := k + 1) hi (by omega) hk
    omega
  have h0 : c.getD 0 0 ≤ c.getD k 0 := by
    by_cases h0 : k = 0
    · subst h0; exact Int.le_refl _
    · have := asc_at h (i := 0) (j := k) (by omega) (by omega); omega
  unfold gapP
  rw [decide_eq_true (by omega), Bool.true_and, Bool.not_eq_true', ← Bool.not_eq_true, List.contains_iff_mem]
  exact hn
theorem gapP_mem {c : List Int} {y : Int} (h : y ∈ c) : gapP c y = false := by
  unfold gapP
  rw [List.contains_iff_mem.2 h]; simp
theorem gapT_0 {c : List Int} (hin : inC c) (h0 : 0 < c.length) : gapT c ((c.getD 0 0).toNat + 1) = [] := by
  have hc := hin _ (gmem h0)
  rw [gapT_n (gapP_mem (by rw [show (((c.getD 0 0).toNat : Nat) : Int) = c.getD 0 0 from by omega]; exact gmem h0))]
  unfold gapT
  rw [List.filter_eq_nil_iff]
  intro y hy
  have := upV_mem.1 hy
  unfold gapP
  simp only [Bool.and_eq_true, decide_eq_true_eq]
  omega
def gGap (v : Vi) : Option (List Int) := gd (viB v) (if viewOK v = true then gapF (srt (offF v)) else [])
theorem gGap_eq {v : Vi} (h : viB v) : gGap v = some (if viewOK v = true then gapF (srt (offF v)) else []) := gd_eq h
theorem srt_in60 {A : List Int} (h : inC A) : inC (srt A) := fun x hx => h x ((srt_mem A x).1 hx)
end Go.Proofs.Ytgpflkmelindfaa
